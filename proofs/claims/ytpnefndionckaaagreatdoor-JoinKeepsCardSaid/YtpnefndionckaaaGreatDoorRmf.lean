/-
  Walks and plain facts, joined: part 6 of 11.
  Conditions: those that each statement names.
-/
import Derived.Test.YtpnefndionckaaaGreatDoorRmc
import Derived.Test.YtpnefndionckaaaGreatDoorRme
set_option linter.unusedSimpArgs false
set_option linter.unusedVariables false
set_option linter.defProp false
set_option maxRecDepth 4000
set_option maxHeartbeats 8000000
namespace Go.Proofs
open Tryz
open Go.Sk
section
theorem Tryz.tyLs:z1s prog 183=⟨true,.struct,2,16,[(0,some false,1),(1,some false,1)]⟩:=by kernel_rfl
theorem Tryz.szLs:z2l prog 183=2:=by kernel_rfl
theorem Tryz.szNodes:z2l prog 23=1:=by kernel_rfl
theorem Tryz.tyFn:z1s prog 150=⟨true,.other,1,8,[]⟩:=by kernel_rfl
theorem Tryz.tyFn2:z1s prog 179=⟨true,.other,1,8,[]⟩:=by kernel_rfl
def ltN (a b:Nd):Bool:=sLt a.key b.key||(sEq a.key b.key && decide (a.id<b.id))
def swp (xs:List Nd)(i j:Nat):List Nd:=(xs.set i (nd xs j)).set j (nd xs i)
theorem swp_length (xs:List Nd)(i j:Nat):(swp xs i j).length=xs.length:=by simp[swp]
theorem nd_set_eq {xs:List Nd}{k:Nat}{v:Nd}(h:k<xs.length):nd (xs.set k v) k=v:=by simp[nd,List.getD,h]
theorem nd_set_ne {xs:List Nd}{k j:Nat}{v:Nd}(h:k≠j):nd (xs.set k v) j=nd xs j:=by simp[nd,List.getD,jv h]
theorem swapF_nds (xs:List Nd){i j:Nat}(hi:i<xs.length)(hj:j<xs.length):swapF (nds xs) i j=nds (swp xs i j):=by
 funext q
 simp only[swapF,nds,swp]
 by_cases h1:q=j
 ·subst h1;rw[qf rfl,nd_set_eq (by simpa using hj)]
 ·rw[qb h1,nd_set_ne (QD h1)]
  by_cases h2:q=i
  ·subst h2;rw[qf rfl,nd_set_eq hi]
  ·rw[qb h2,nd_set_ne (QD h2)]
def sinkF (a:Nat):Nat->List Nd->List Nd
 |0,xs=>xs
 |j+1,xs=>if a<j+1/\ltN (nd xs (j+1)) (nd xs j)=true then sinkF a j (swp xs (j+1) j) else xs
def insF (a:Nat):Nat->Nat->List Nd->List Nd
 |0,_,xs=>xs
 |k+1,i,xs=>insF a k (i+1) (sinkF a i xs)
def boxN (n:Nat):Nat×(Nat->Sk.Obj):=uQ (.row ⟨false,true,23,1,1,fun _=>[.slc true 1 0 0 n]⟩)
noncomputable def lessSv (box:Nat):SV:= .fn 118 [.ptr box 0 0 0]
noncomputable def swapSv (row n:Nat):SV:= .fn 186 [.slc true row 0 0 n,.raw (Go.typeHandle prog 62)]
theorem nodeSwap_spec (xs:List Nd)(n i j:Nat)(hn:xs.length=n)(hi:i<n)(hj:j<n)(hij:i≠j):
  zf prog 186 [.int .i64 i,.int .i64 j,.slc true 0 0 0 n,.raw (Go.typeHandle prog 62)] ⟨1,[(0,uQ (.row ⟨true,false,62,3,n,nds xs⟩))]⟩
   (fun s H1=>s= .tup []/\H1=⟨1,[(0,uQ (.row ⟨true,false,62,3,n,nds (swp xs i j)⟩))]⟩):=by
 subst hn;rw[<-swapF_nds xs hi hj]
 exact swap_spec false (fun av w=>Jt func186 (by kernel_rfl) (by kernel_rfl) (by kernel_rfl) (e:=Extern.ReflectliteSwapper.swap false) (by kernel_rfl) av w)
  62 3 (by kernel_rfl) (by kernel_rfl) (by kernel_rfl) Tryz.szNode (by omega) xs.length (nds xs) i j hi hj hij
noncomputable def lsRow (n:Nat):Nat×(Nat->Sk.Obj):=uQ (.row ⟨true,true,183,2,1,fun _=>[lessSv 0,swapSv 1 n]⟩)
def LessOk (n:Nat):Prop:=∀ys:List Nd,ys.length=n->∀i j:Nat,i<n->j<n->zf prog 118 [.int .i64 i,.int .i64 j,.ptr 0 0 0 0] ⟨2,[(0,boxN n),(1,uQ (.row ⟨false,false,62,3,n,nds ys⟩))]⟩
 (fun s H1=>s= .bool (ltN (nd ys i) (nd ys j))/\H1=⟨2,[]⟩)
theorem sinkF_stop {a j:Nat}{zs:List Nd}(h:¬(a<j/\ltN (nd zs j) (nd zs (j-1))=true)):sinkF a j zs=zs:=by
 cases j with
 |zero=>rfl
 |succ j=>simp only[sinkF];exact qb h
theorem sinkF_go {a j:Nat}{zs:List Nd}(h0:a<j)(h:ltN (nd zs j) (nd zs (j-1))=true):sinkF a j zs=sinkF a (j-1) (swp zs j (j-1)):=by
 cases j with
 |zero=>omega
 |succ j=>simp only[sinkF];exact qf ⟨h0,h⟩
def ec12:=aj3 @lsRow.eq_1 @lessSv.eq_1 @swapSv.eq_1
def z5u:=aj3 @Tryz.szNode @Tryz.tyNodes @Tryz.szNodes
def ec14:=aj4 @Tryz.tyLs @Tryz.szLs @Tryz.tyFn @Tryz.tyFn2
def z47:=aj @inNds.eq_1 @z65.eq_1
def RosSm.exE:=aj7 ec12 @zg @zl z5u ec14 z47 @boxN.eq_1
def ec16:=aj @nds_ren' @z4u
def RosSm.gxE:=aj4 ec12 z47 @boxN.eq_1 ec16
def RosSm.axE:=aj8 ec12 @zg @zl z5u ec14 z47 @boxN.eq_1 @z2e
open RosSm (gxE axE exE)
open D0 (oxE sdE)
theorem insertion_spec (xs:List Nd)(a b:Nat)(hab:a<=b)(hb:b<=xs.length)(hx:xs.length<=1000000)(hless:LessOk xs.length):
  zf prog 187 [.agg [lessSv 0,swapSv 1 xs.length],.int .i64 a,.int .i64 b] ⟨2,[(0,boxN xs.length),(1,z65 xs)]⟩
   (fun s H1=>s= .tup []/\H1=⟨2,[(1,z65 (insF a (b-(a+1)) (a+1) xs))]⟩):=by
 refine zf.ofC false 35 [] func187 rfl rfl ntmps187 results187 rfl ?_;intro w0 own0 β0 Q hQ hQn;simp only[z1c];refine Zrs [1,2,3] ?_;refine Zrs [1,2,3,6] ?_;refine zb fun Q0 hN0 hX0 hR0 hE0=> ?_;refine zn (σ:=Nat×List Nd) (fun σ=>a+1<=σ.1/\(σ.1<=b\/σ.1=a+1)/\σ.2.length=xs.length/\insF a (b-σ.1) σ.1 σ.2=insF a (b-(a+1)) (a+1) xs) (fun σ=>b-σ.1) (fun σ=>[(1,.int .i64 a),(2,.int .i64 b),(3,.ptr 2 0 0 0),(6,.int .i64 σ.1)]) (fun σ=>⟨3,[(2,lsRow xs.length),(1,uQ (.row ⟨true,false,62,3,xs.length,nds σ.2⟩)),(0,boxN xs.length)]⟩) (a+1,xs) ⟨qc _,.inr rfl,rfl,rfl⟩ (ρ:=id) (Zg id) ?_;rintro⟨i,ys⟩ hi QL1 hL1 hRL1 hEL1;refine z6 ?_;refine Zrs [1,2,3,6,12] ?_;refine z7 _ rfl ?_ ?_
 ·intro h12;replace h12:=Znb h12;dsimp only at hi;have hy:ys.length=xs.length:=hi.2.2.1;refine za (z6 (zb fun Q1 hN1 hX1 hR1 hE1=> ?_));refine Zrs [1,2,3,6,7] ?_;refine zb fun Q2 hN2 hX2 hR2 hE2=> ?_;refine zn (σ:=Nat×List Nd) (fun σ=>a<=σ.1/\σ.1<=i/\σ.2.length=xs.length/\sinkF a σ.1 σ.2=sinkF a i ys) (fun σ=>σ.1) (fun σ=>[(1,.int .i64 a),(2,.int .i64 b),(3,.ptr 2 0 0 0),(6,.int .i64 i),(7,.int .i64 σ.1)]) (fun σ=>⟨3,[(2,lsRow xs.length),(1,uQ (.row ⟨true,false,62,3,xs.length,nds σ.2⟩)),(0,boxN xs.length)]⟩) (i,ys) ⟨by omega,qc _,hy,rfl⟩ (ρ:=id) (Zg id) ?_;rintro⟨j,zs⟩ hj QL2 hL2 hRL2 hEL2;refine z6 ?_;refine sg [1,2,3,6,7,26] rfl ?_;intro K hK
  have hk5:a<=j/\j<=i/\zs.length=xs.length/\sinkF a j zs=sinkF a i ys->∀B:Bool,B=(decide (a<j) && ltN (nd zs j) (nd zs (j-1)))->K [(1,.int .i64 a),(2,.int .i64 b),(3,.ptr 2 0 0 0),(6,.int .i64 i),(7,.int .i64 j),(26,.bool B)] ⟨3,[(2,lsRow xs.length),(1,uQ (.row ⟨true,false,62,3,xs.length,nds zs⟩)),(0,boxN xs.length)]⟩:=by
   intro hj B hB;subst hB;refine hK _ _ ?_;clear hK K;refine z7 _ rfl ?_ ?_
   ·intro h26;replace h26:=Znb h26;refine za (z6 (zb fun Q3 hN3 hX3 hR3 hE3=> ?_));refine z4p [1,2,3,6,7] rfl ?_;intro K hK;iterate 5 (refine Zo Zl ?_)
    rw[show(j:Int)-1=((j-1:Nat):Int) from by omega];repeat(with_reducible apply qe;exact sdE)
    refine Zo Zl ?_;refine Zc1 (nodeSwap_spec zs xs.length j (j-1) hj.2.2.1 (by omega) (by omega) (by omega)) (fun _=>1) ?_;refine z8 (Zpr (hK _ _ ?_));clear hK K;refine zd (hN3 _ _ ?_);refine Zrg [1,2,3,6,7] ?_;refine zd (hL2 _ _ ?_);have h1:=sinkF_go h26.1 h26.2;rw[show(j:Int)-1=((j-1:Nat):Int) from by omega];refine⟨(j-1,swp zs j (j-1)),⟨⟨by simp only;omega,by simp only;omega,by simp only[swp_length];exact hj.2.2.1,by simp only;rw[<-h1];exact hj.2.2.2⟩,by simp only;omega⟩,id,(Zg id)⟩
   ·intro h26;have hz:sinkF a j zs=zs:=sinkF_stop (by simpa using h26);refine zm (hEL2 _ _ _ (hX2 _ _ (zd (hN1 _ _ ?_))));refine Zrg [1,2,3,6] ?_;refine zd (hL1 _ _ ?_);have hzz:zs=sinkF a i ys:=hz.symm.trans hj.2.2.2;have hi4:=hi.2.2.2;rw[show b-i=(b-(i+1))+1 from by omega] at hi4;refine⟨(i+1,zs),⟨⟨by dsimp only;omega,.inl (by dsimp only;omega),hj.2.2.1,by dsimp only;rw[hzz];exact hi4⟩,by dsimp only;omega⟩,id,(Zg id)⟩
  iterate 9 (refine Zo Zl ?_)
  refine z11 ?_;refine z1w rfl rfl ?_;refine Zgr ?_;refine z1r ?_ ?_
  ·intro hg9
   first
    |(simp at hg9;done)
    |skip
     try replace hg9:=Znb hg9
     refine Zo id ?_;rw[show(j:Int)-1=((j-1:Nat):Int) from by omega];refine Zc1 (hless zs hj.2.2.1 j (j-1) (by omega) (by omega)) (id) ?_;refine Zo Zl ?_;refine z8 ?_;refine Zpr ?_;refine hk5 hj _ ?_
     first|(simp;done)|(simp at hg9 ⊢;intro hgg;omega)
  ·intro hg9;refine⟨.bool false,?_⟩
   first
    |(simp at hg9;done)
    |skip
     try replace hg9:=Znb hg9
     refine Zo Zl ?_;refine z8 ?_;refine Zpr ?_;refine hk5 hj _ ?_
     first|(simp;done)|(simp at hg9 ⊢;intro hgg;omega)
 ·intro h12
  try replace h12:=Znb h12
  refine zm (hEL1 _ _ _ (hX0 _ _ (zd (hQn _ _ ?_))));dsimp only at hi;have hi4:=hi.2.2.2;rw[show b-i=0 from by omega] at hi4;have hi5:ys=insF a (b-(a+1)) (a+1) xs:=hi4;refine zc (H':=⟨2,[(1,uQ (.row ⟨true,false,62,3,xs.length,nds ys⟩))]⟩) (.inl rfl) ?_;refine Zou ?_;refine⟨Zs,(Zg id),Zs,?_⟩;rw[<-hi5];simp only[z65,hi.2.2.1]
end
section
theorem bl_irr:∀x:List UInt8,Go.Op.bytesLess x x=false
 |[]=>by simp[Go.Op.bytesLess]
 |a::x=>by simp[Go.Op.bytesLess,bl_irr x]
theorem bl_trans:∀{x y z:List UInt8},Go.Op.bytesLess x y=true->Go.Op.bytesLess y z=true->Go.Op.bytesLess x z=true
 |[],[],_,h,_=>by simp[Go.Op.bytesLess] at h
 |[],_::_,[],_,h=>by simp[Go.Op.bytesLess] at h
 |[],_::_,_::_,_,_=>by simp[Go.Op.bytesLess]
 |_::_,[],_,h,_=>by simp[Go.Op.bytesLess] at h
 |_::_,_::_,[],_,h=>by simp[Go.Op.bytesLess] at h
 |a::x,b::y,c::z,h1,h2=>by
  simp only[Go.Op.bytesLess,qr,qh,qj,qv] at h1 h2 ⊢;rcases h1 with h1|⟨rfl,h1⟩
  ·rcases h2 with h2|⟨rfl,h2⟩
   ·exact .inl (UInt8.lt_trans h1 h2)
   ·exact .inl h1
  ·rcases h2 with h2|⟨rfl,h2⟩
   ·exact .inl h2
   ·exact .inr ⟨rfl,bl_trans h1 h2⟩
theorem bl_eq:∀{x y:List UInt8},Go.Op.bytesLess x y=false->Go.Op.bytesLess y x=false->x=y
 |[],[],_,_=>rfl
 |[],_::_,h,_=>by simp[Go.Op.bytesLess] at h
 |_::_,[],_,h=>by simp[Go.Op.bytesLess] at h
 |a::x,b::y,h1,h2=>by
  simp only[Go.Op.bytesLess,qi,qx,qg,qv] at h1 h2;have hab:a=b:=UInt8.le_antisymm (yy.1 h2.1) (yy.1 h1.1);subst hab;rw[bl_eq (h1.2 rfl) (h2.2 rfl)]
theorem ba_ext {x y:ByteArray}(h:x.toList=y.toList):x=y:=by
 cases x with
 |mk a=>cases y with
  |mk b=>
   have h1:(⟨a⟩:ByteArray).toList=a.toList:=jK _;have h2:(⟨b⟩:ByteArray).toList=b.toList:=jK _;rw[h1,h2] at h
   congr 1
   exact j4.1 h
def Lt (a b:Nd):Prop:=sLt a.key b.key=true\/(a.key=b.key/\a.id<b.id)
theorem ltN_iff (a b:Nd):ltN a b=true↔Lt a b:=by
 simp[ltN,Lt,sEq_iff]
theorem Lt.irrefl (a:Nd):¬Lt a a:=by
 simp[Lt,sLt,bl_irr]
theorem Lt.trans {a b c:Nd}(h1:Lt a b)(h2:Lt b c):Lt a c:=by
 rcases h1 with h1|⟨h1,h1'⟩
 ·rcases h2 with h2|⟨h2,h2'⟩
  ·exact .inl (bl_trans h1 h2)
  ·exact .inl (by rw[<-h2];exact h1)
 ·rcases h2 with h2|⟨h2,h2'⟩
  ·exact .inl (by rw[h1];exact h2)
  ·exact .inr ⟨h1.trans h2,by omega⟩
theorem Lt.same {a b:Nd}(h1:¬Lt a b)(h2:¬Lt b a):a.key=b.key/\a.id=b.id:=by
 simp only[Lt,not_or,not_and,Bool.not_eq_true] at h1 h2;have hk:a.key=b.key:=ba_ext (bl_eq h1.1 h2.1);refine⟨hk,?_⟩;have:=h1.2 hk;have:=h2.2 hk.symm;omega
theorem Lt.negtrans {a b c:Nd}(h1:¬Lt b a)(h2:¬Lt c b):¬Lt c a:=fun h=>by
 by_cases hab:Lt a b
 ·exact h2 (h.trans hab)
 ·obtain⟨hk,hi⟩:=Lt.same hab h1;apply h2;rcases h with h|⟨h,h'⟩
  ·exact .inl (by rw[<-hk];exact h)
  ·exact .inr ⟨h.trans hk,by omega⟩
def cls (k:ByteArray)(i:Int)(x:Nd):Bool:=decide (x.key=k/\x.id=i)
def Stb (xs ys:List Nd):Prop:=∀k i,xs.filter (cls k i)=ys.filter (cls k i)
theorem Stb.refl (xs:List Nd):Stb xs xs:=fun _ _=>rfl
theorem Stb.trans {xs ys zs:List Nd}(h:Stb xs ys)(h':Stb ys zs):Stb xs zs:=fun k i=>(h k i).trans (h' k i)
theorem Stb.symm {xs ys:List Nd}(h:Stb xs ys):Stb ys xs:=fun k i=>(h k i).symm
theorem Stb.mem {xs ys:List Nd}(h:Stb xs ys){x:Nd}(hx:x∈xs):x∈ys:=by
 have h1:x∈xs.filter (cls x.key x.id):=ji.2 ⟨hx,by simp[cls]⟩;rw[h] at h1;exact(ji.1 h1).1
theorem stb_blocks {A B C D:List Nd}(h:∀x∈B,∀y∈C,Lt y x):Stb (A++B++C++D) (A++C++B++D):=by
 intro k i;simp only[QW]
 by_cases hb:B.filter (cls k i)=[]
 ·simp[hb]
 ·have hc:C.filter (cls k i)=[]:=by
   apply jS.2;intro y hy hyc;apply hb;apply jS.2;intro x hx hxc;have:=h x hx y hy;simp only[cls,qj] at hxc hyc;rcases this with h1|⟨_,h1⟩
   ·rw[hxc.1,hyc.1] at h1;simp[sLt,bl_irr] at h1
   ·omega
  simp[hc]
abbrev Ord (l:List Nd):Prop:=l.Pairwise fun a b=> ¬Lt b a
theorem ord_unique:∀{xs ys:List Nd},Ord xs->Ord ys->Stb xs ys->xs=ys
 |[],[],_,_,_=>rfl
 |[],y::ys,_,_,h=>by have:=h.symm.mem (qn ..);cases this
 |x::xs,[],_,_,h=>by have:=h.mem (qn ..);cases this
 |x::xs,y::ys,h1,h2,h=>by
  obtain⟨a1,a2⟩:=QG.1 h1;obtain⟨b1,b2⟩:=QG.1 h2
  have e1:¬Lt x y:=by
   rcases qB.1 (h.mem (qn ..)) with hx|hx
   ·rw[hx];exact Lt.irrefl _
   ·exact b1 _ hx
  have e2:¬Lt y x:=by
   rcases qB.1 (h.symm.mem (qn ..)) with hx|hx
   ·rw[hx];exact Lt.irrefl _
   ·exact a1 _ hx
  obtain⟨hk,hi⟩:=Lt.same e1 e2;have h3:=h x.key x.id;simp only[yt,cls,hk,hi,J4,JO,Qi,Jv] at h3;obtain⟨rfl,_⟩:=h3;rw[ord_unique a2 b2 fun k i=> ?_];have h4:=h k i;simp only[yt] at h4
  split at h4
  ·exact(List.cons.inj h4).2
  ·exact h4
end
section
theorem nd_swp {xs:List Nd}{i j:Nat}(hi:i<xs.length)(hj:j<xs.length)(q:Nat):nd (swp xs i j) q=if q=j then nd xs i else if q=i then nd xs j else nd xs q:=by
 unfold swp
 by_cases h1:q=j
 ·subst h1;rw[qf rfl,nd_set_eq (by simpa using hj)]
 ·rw[qb h1,nd_set_ne (QD h1)]
  by_cases h2:q=i
  ·subst h2;rw[qf rfl,nd_set_eq hi]
  ·rw[qb h2,nd_set_ne (QD h2)]
open RosSm (gxE axE exE)
open D0 (sdE oxE)
def rotF (a m b:Nat)(g:Nat->Nd)(q:Nat):Nd:=if a<=q/\q<a+(b-m) then g (q-a+m) else if a+(b-m)<=q/\q<b then g (q-(b-m)) else g q
end
section
theorem rot_list {xs ys:List Nd}{n a m b:Nat}(hx:xs.length=n)(hy:ys.length=n)(ha:a<=m)(hm:m<=b)(hb:b<=n)(h:∀q,nd ys q=rotF a m b (nd xs) q):
  ys=xs.take a++(xs.take b).drop m++(xs.take m).drop a++xs.drop b:=by
 apply Qx
 ·simp;omega
 ·intro i h1 h2;have h3:=h i;rw[z3e h1] at h3;rw[h3];simp only[List.getElem_append,Qn,qS,QP,rotF];simp only[hx,QX (show a<=n by omega),QX hb,QX (show m<=n by omega)];repeat' split
  all_goals first|(exfalso;omega)|skip
  all_goals(rw[z3e (by omega)];simp only[jd,jq];try(first|rfl|(congr 1;omega)))
theorem rot_stb {xs ys:List Nd}{n a m b:Nat}(hx:xs.length=n)(hy:ys.length=n)(ha:a<=m)(hm:m<=b)(hb:b<=n)(h:∀q,nd ys q=rotF a m b (nd xs) q)
  (hs:∀i j,a<=i->i<m->m<=j->j<b->Lt (nd xs j) (nd xs i)):Stb xs ys:=by
 have h0:xs=xs.take a++(xs.take m).drop a++(xs.take b).drop m++xs.drop b:=by
  apply Qx
  ·simp;omega
  ·intro i h1 h2;simp only[List.getElem_append,Qn,qS,QP];simp only[hx,QX (show a<=n by omega),QX hb,QX (show m<=n by omega)];repeat' split
   all_goals simp only[jd,jq]
   all_goals first|rfl|(congr 1;omega)
 rw[rot_list hx hy ha hm hb h]
 have:=stb_blocks (A:=xs.take a) (B:=(xs.take m).drop a) (C:=(xs.take b).drop m) (D:=xs.drop b) (fun x hx1 y hy1=>by
  obtain⟨i,hi,rfl⟩:=Qg hx1;obtain⟨j,hj,rfl⟩:=Qg hy1;simp only[QP,qS] at hi hj;simp only[jq,jd];have:=hs (a+i) (m+j) (by omega) (by omega) (by omega) (by omega)
  rwa [z3e (by omega),z3e (by omega)] at this)
 exact fun k i=>(Qj (List.filter (cls k i)) h0).trans (this k i)
def Srt (a b:Nat)(g:Nat->Nd):Prop:=∀i j,a<=i->i<=j->j<b->¬Lt (g j) (g i)
theorem srt_ord {xs:List Nd}(h:Srt 0 xs.length (nd xs)):Ord xs:=by
 unfold Ord;rw[Qb];intro i j hi hj hij;have:=h i j (qo _) (by omega) hj;rwa [z3e hi,z3e hj] at this
theorem srt_of_next {a b:Nat}{g:Nat->Nd}(h:∀i,a<=i->i+1<b->¬Lt (g (i+1)) (g i)):Srt a b g:=by
 intro i j hi hij hj;obtain⟨d,rfl⟩:=Nat.exists_eq_add_of_le hij;clear hij
 induction d with
 |zero=>exact Lt.irrefl _
 |succ d ih=>exact Lt.negtrans (ih (by omega)) (h (i+d) (by omega) (by omega))
end
section
def MergeOut (n a b:Nat)(xs zs:List Nd):Prop:=zs.length=n/\Stb xs zs/\Srt a b (nd zs)/\∀q,(q<a\/b<=q)->nd zs q=nd xs q
theorem take_eq {xs zs:List Nd}{n a:Nat}(hx:xs.length=n)(hz:zs.length=n)(h:∀q,q<a->nd zs q=nd xs q):zs.take a=xs.take a:=by
 apply Qx
 ·simp;omega
 ·intro i h1 h2;simp only[qS] at h1 h2;simp only[jd];have:=h i (by omega);rwa [z3e (by omega),z3e (by omega)] at this
theorem drop_eq {xs zs:List Nd}{n b:Nat}(hx:xs.length=n)(hz:zs.length=n)(h:∀q,b<=q->nd zs q=nd xs q):zs.drop b=xs.drop b:=by
 apply Qx
 ·simp;omega
 ·intro i h1 h2;simp only[QP] at h1 h2;simp only[jq];have:=h (b+i) (by omega);rwa [z3e (by omega),z3e (by omega)] at this
theorem three {xs:List Nd}{a b:Nat}(h:a<=b):xs=xs.take a++(xs.take b).drop a++xs.drop b:=by
 have h1:(xs.take b).take a=xs.take a:=by rw[List.take_take,QX h]
 rw[<-h1,Jl,Jl]
theorem seg_mem {n a b:Nat}{xs zs:List Nd}(hx:xs.length=n)(hab:a<=b)(hb:b<=n)(hz:zs.length=n)(hs:Stb xs zs)(ho:∀q,(q<a\/b<=q)->nd zs q=nd xs q){p:Nat}(hp:a<=p)(hp2:p<b):
  ∃q,a<=q/\q<b/\nd zs p=nd xs q:=by
 have ht:=take_eq hx hz fun q hq=>ho q (.inl hq);have hd:=drop_eq hx hz fun q hq=>ho q (.inr hq)
 have hseg:∀k i,((xs.take b).drop a).filter (cls k i)=((zs.take b).drop a).filter (cls k i):=fun k i=>by
  have h1:=hs k i;rw[three (xs:=xs) hab,three (xs:=zs) hab,ht,hd] at h1;simp only[QW] at h1;exact List.append_cancel_left (List.append_cancel_right h1)
 have hm:nd zs p∈(zs.take b).drop a:=by
  rw[z3e (by omega)];apply List.mem_of_getElem (i:=p-a) (h:=by simp;omega);simp only[jq,jd]
  congr 1;omega
 have hm2:=Stb.mem (xs:=(zs.take b).drop a) (ys:=(xs.take b).drop a) (fun k i=>(hseg k i).symm) hm;obtain⟨q,hq,he⟩:=Qg hm2;simp only[QP,qS] at hq;refine⟨a+q,by omega,by omega,?_⟩;rw[<-he,z3e (show a+q<xs.length by omega)];simp only[jq,jd]
theorem rot_at {i m e h:Nat}(hh:i+e=h+m)(hme:m<=e)(g:Nat->Nd)(q:Nat):rotF i m e g q=if i<=q/\q<h then g (q+m-i) else if h<=q/\q<e then g (q+m-e) else g q:=by
 simp only[rotF];repeat' split
 all_goals first|rfl|(exfalso;omega)|(congr 1;omega)
end
section
theorem Tryz.tyU64:z1s prog 158=⟨true,.int .u64,1,8,[]⟩:=by kernel_rfl
def RosMm.exE:=aj8 ec12 @zg @zl z5u @Tryz.tyU64 ec14 z47 @boxN.eq_1
def RosMm.axE:=aj9 ec12 @zg @zl z5u @Tryz.tyU64 ec14 z47 @boxN.eq_1 @z2e
open RosSm (gxE)
open RosMm (axE exE)
open D0 (sdE oxE)
end
section
theorem MergeOut.refl {n a b:Nat}{xs:List Nd}(hl:xs.length=n)(hs:Srt a b (nd xs)):MergeOut n a b xs xs:=⟨hl,Stb.refl _,hs,fun _ _=>rfl⟩
theorem sink_out (n a:Nat):∀(j:Nat) (xs:List Nd),xs.length=n->a<=j->j<n->Srt a j (nd xs)->MergeOut n a (j+1) xs (sinkF a j xs)
 |0,xs,hl,ha,hj,hs=>by
  refine MergeOut.refl hl fun p q c1 c2 c3=> ?_;have:p=0:=by omega
  have:q=0:=by omega
  subst_vars
  exact Lt.irrefl _
 |j+1,xs,hl,ha,hj,hs=>by
  simp only[sinkF]
  split
  ·rename_i h;obtain⟨h1,h2⟩:=h;rw[ltN_iff] at h2;have hl':(swp xs (j+1) j).length=n:=by rw[swp_length];exact hl
   have hnd:∀q,nd (swp xs (j+1) j) q=if q=j then nd xs (j+1) else if q=j+1 then nd xs j else nd xs q:=fun q=>nd_swp (by omega) (by omega) q
   have hst:Stb xs (swp xs (j+1) j):=rot_stb (a:=j) (m:=j+1) (b:=j+2) hl hl' (by omega) (by omega) (by omega) (fun q=>by
    rw[hnd,rot_at (h:=j+1) (by omega) (by omega)]
    by_cases c1:q=j
    ·rw[qf c1,qf (by omega)];congr 1;omega
    ·by_cases c2:q=j+1
     ·rw[qb c1,qf c2,qb (by omega),qf (by omega)];congr 1;omega
     ·rw[qb c1,qb c2,qb (by omega),qb (by omega)]) (fun p q c1 c2 c3 c4=>by
    have:p=j:=by omega
    have:q=j+1:=by omega
    subst_vars;exact h2)
   obtain⟨z1,z2,z3,z4⟩:=sink_out n a j (swp xs (j+1) j) hl' (by omega) (by omega) (fun p q c1 c2 c3=>by
    rw[hnd,hnd,qb (by omega),qb (by omega),qb (by omega),qb (by omega)]
    exact hs p q c1 c2 (by omega))
   refine⟨z1,hst.trans z2,srt_of_next fun q c1 c2=> ?_,fun q c=>by rw[z4 q (by omega),hnd,qb (by omega),qb (by omega)]⟩
   by_cases c3:q+1<j+1
   ·exact z3 q (q+1) c1 (by omega) c3
   ·have hq:q=j:=by omega
    subst hq;rw[z4 (q+1) (by omega),hnd,qb (by omega),qf rfl];obtain⟨p,p1,p2,p3⟩:=seg_mem hl' (by omega) (by omega) z1 z2 z4 c1 (show q<q+1 by omega);rw[p3,hnd]
    by_cases c4:p=q
    ·rw[qf c4];exact fun hh=>Lt.irrefl _ (hh.trans h2)
    ·rw[qb c4,qb (by omega)];exact hs p q p1 (by omega) (by omega)
  ·rename_i h;refine MergeOut.refl hl (srt_of_next fun q c1 c2=> ?_)
   by_cases c3:q+1<j+1
   ·exact hs q (q+1) c1 (by omega) c3
   ·have hq:q=j:=by omega
    subst hq;rw[<-ltN_iff];exact fun hh=>h ⟨by omega,hh⟩
theorem ins_out (n a:Nat):∀(k i:Nat) (xs:List Nd),xs.length=n->a<=i->i+k<=n->Srt a i (nd xs)->MergeOut n a (i+k) xs (insF a k i xs)
 |0,i,xs,hl,_,_,hs=>MergeOut.refl hl hs
 |k+1,i,xs,hl,ha,hi,hs=>by
  obtain⟨z1,z2,z3,z4⟩:=sink_out n a i xs hl ha (by omega) hs;obtain⟨u1,u2,u3,u4⟩:=ins_out n a k (i+1) (sinkF a i xs) z1 (by omega) (by omega) z3;simp only[insF];exact⟨u1,z2.trans u2,by rw[show i+(k+1)=i+1+k by omega];exact u3,fun q c=>by rw[u4 q (by omega),z4 q (by omega)]⟩
theorem ins_range {n a b:Nat}{xs:List Nd}(hl:xs.length=n)(h1:a<=b)(h2:b<=n):MergeOut n a b xs (insF a (b-(a+1)) (a+1) xs):=by
 by_cases h:a<b
 ·have:=ins_out n a (b-(a+1)) (a+1) xs hl (by omega) (by omega) (fun p q c1 c2 c3=>by
   have:p=a:=by omega
   have:q=a:=by omega
   subst_vars;exact Lt.irrefl _)
  rwa [show a+1+(b-(a+1))=b by omega] at this
 ·rw[show b-(a+1)=0 by omega];exact MergeOut.refl hl fun p q c1 c2 c3=>by omega
def z43 (xs:List Nd):List Nd:=insF 0 (xs.length-1) 1 xs
theorem srtN_out (xs:List Nd):MergeOut xs.length 0 xs.length xs (z43 xs):=ins_range rfl (qo _) (qc _)
theorem srtN_length (xs:List Nd):(z43 xs).length=xs.length:=(srtN_out xs).1
theorem srtN_stb (xs:List Nd):Stb xs (z43 xs):=(srtN_out xs).2.1
theorem srtN_srt (xs:List Nd):Srt 0 (z43 xs).length (nd (z43 xs)):=by rw[srtN_length];exact(srtN_out xs).2.2.1
theorem srtN_ord (xs:List Nd):Ord (z43 xs):=srt_ord (srtN_srt xs)
theorem srtN_unique {xs zs:List Nd}(h1:Stb xs zs)(h2:Srt 0 zs.length (nd zs)):zs=z43 xs:=
 ord_unique (srt_ord h2) (srtN_ord xs) (h1.symm.trans (srtN_stb xs))
theorem srtN_same {xs:List Nd}(h:Srt 0 xs.length (nd xs)):z43 xs=xs:=(srtN_unique (Stb.refl xs) h).symm
end
section
open RosSm (gxE)
open RosMm (axE exE)
open D0 (oxE sdE)
theorem stable_spec (xs:List Nd)(n:Nat)(hn:xs.length=n)(hx:n<=19)(hless:LessOk n):
  zf prog 158 [.agg [lessSv 0,swapSv 1 n],.int .i64 n] ⟨2,[(0,boxN n),(1,uQ (.row ⟨true,false,62,3,n,nds xs⟩))]⟩
   (fun s H1=>s= .tup []/\H1=⟨2,[(1,uQ (.row ⟨true,false,62,3,n,nds (z43 xs)⟩))]⟩):=by
 subst hn;refine zf.ofC false 57 [] func158 rfl rfl ntmps158 results158 rfl ?_;intro w0 own0 β0 Q hQ hQn;simp only[z1c];refine Zrs [1,2] ?_;refine Zrs [1,2,4] ?_;refine Zrs [1,2,4,5,6] ?_;refine z6 (zb fun Q0 hN0 hX0 hR0 hE0=> ?_);refine zn (σ:=Unit) (fun _=>True) (fun _=>0) (fun _=>[(1,.int .i64 xs.length),(2,.ptr 2 0 0 0),(4,.int .i64 20),(5,.int .i64 0),(6,.int .i64 20)]) (fun _=>⟨3,[(2,lsRow xs.length),(1,uQ (.row ⟨true,false,62,3,xs.length,nds xs⟩)),(0,boxN xs.length)]⟩) () trivial (ρ:=id) (Zg id) ?_;rintro⟨⟩ hi QL1 hL1 hRL1 hEL1;refine z6 ?_;refine Zrs [1,2,4,5,6,11] ?_;refine z7 _ rfl ?_ ?_
 ·intro h11
  exfalso;simp only[qr,qh,qi,qx,qk,qq,qj,qg,qv,qC,qU,ne_eq,Qm,Ql,qK,qy] at h11;omega
 ·intro h11
  refine zm (hEL1 _ _ _ (hX0 _ _ ?_));refine sg [1,2,4] rfl ?_;intro K hK;iterate 3 (refine Zo Zl ?_)
  refine Zo Zl ?_;refine Zc1 (insertion_spec xs 0 xs.length (by omega) (by omega) (by omega) hless) (id) ?_;rw[show insF 0 (xs.length-(0+1)) (0+1) xs=z43 xs from rfl];refine z8 (Zpr (hK _ _ ?_));clear hK K;refine zb fun Q2 hN2 hX2 hR2 hE2=> ?_;refine zn (σ:=Unit) (fun _=>True) (fun _=>0) (fun _=>[(1,.int .i64 xs.length),(2,.ptr 2 0 0 0),(4,.int .i64 20)]) (fun _=>⟨3,[(2,lsRow xs.length),(1,uQ (.row ⟨true,false,62,3,xs.length,nds (z43 xs)⟩)),(0,boxN xs.length)]⟩) () trivial (ρ:=id) (have xE:=@srtN_length;Zgx id) ?_;rintro⟨⟩ hj QL2 hL2 hRL2 hEL2;refine z6 ?_;refine Zrs [1,2,4,26] ?_;refine z7 _ rfl ?_ ?_
  ·intro h26
   exfalso;simp only[qr,qh,qi,qx,qk,qq,qj,qg,qv,qC,qU,ne_eq,Qm,Ql,qK,qy] at h26;omega
  ·intro h26
   refine zm (hEL2 _ _ _ (hX2 _ _ (zd (hQn _ _ ?_))));refine zc (H':=⟨2,[(1,uQ (.row ⟨true,false,62,3,xs.length,nds (z43 xs)⟩))]⟩) (.inl rfl) ?_;refine Zou ?_;refine⟨Zs,(Zg id),Zs,?_⟩;trivial
theorem info_desc {P:Go.Program}{t:Go.TypeId}{d:Go.TypeDesc}(h:(P.info? t).map (·.desc)=some d):∃i,P.info? t=some i/\i.desc=d:=by
 cases hi:P.info? t with
 |none=>rw[hi] at h;cases h
 |some i=>rw[hi] at h;exact⟨i,rfl,by simpa using h⟩
theorem info_ptr {P:Go.Program}{t:Go.TypeId}(h:(P.info? t).map (fun i=>(i.hasPointers,i.bytes==8))=some (true,false)):∃i,P.info? t=some i/\∀n,2<=n->Go.Lib.swapperK n i 25=9:=by
 cases hi:P.info? t with
 |none=>rw[hi] at h;cases h
 |some i=>
  rw[hi] at h;simp only[jj,QE,ju] at h;refine⟨i,rfl,fun n hn=> ?_⟩;have h1:(n==0)=false:=by simp;omega
  have h2:(n==1)=false:=by simp;omega
  simp[Go.Lib.swapperK,h1,h2,h.1,h.2]
theorem nodesValueOf (n:Nat)(g:Bool):zf prog 155 [.ifc 23 (.slc g 0 0 0 n)] ⟨1,[]⟩ (fun s H1=>s= .agg [.raw (Go.typeHandle prog 23),.ptr 1 0 0 0,.int .u64 151]/\H1=⟨2,[(1,uQ (.row ⟨true,true,23,1,1,fun _=>[.slc g 0 0 0 n]⟩))]⟩):=by
 obtain⟨i,hi,hd⟩:=info_desc (P:=prog) (t:=23) (d:= .slice 62) (by kernel_rfl);exact valueOf_spec (fun av w=>Jt func155 (by kernel_rfl) (by kernel_rfl) (by kernel_rfl) (e:=fun av=>Extern.ReflectliteValue.unpack (av.getD 0 (.tuple #[]))) (by kernel_rfl) av w) 23 62 i hi hd g 0 n
theorem nodesLen (n:Nat)(g:Bool):zf prog 156 [.agg [.raw (Go.typeHandle prog 23),.ptr 1 0 0 0,.int .u64 151]] ⟨2,[(1,uQ (.row ⟨false,true,23,1,1,fun _=>[.slc g 0 0 0 n]⟩))]⟩ (fun s H1=>s= .int .i64 n/\H1=⟨2,[]⟩):=by
 obtain⟨i,hi,hd⟩:=info_desc (P:=prog) (t:=23) (d:= .slice 62) (by kernel_rfl);exact valueLen_spec (fun av w=>Jt func156 (by kernel_rfl) (by kernel_rfl) (by kernel_rfl) (e:=Extern.ReflectliteValue.method (Extern.ReflectliteValue.valueError "reflectlite.Value.Len" 0) Extern.ReflectliteValue.len) (by kernel_rfl) av w) 23 62 i hi hd (by kernel_rfl) g 0 n
theorem nodesSwapper (n:Nat)(g:Bool)(hn:2<=n):zf prog 157 [.ifc 23 (.slc g 0 0 0 n)] ⟨1,[]⟩ (fun s H1=>s= .fn 186 [.slc g 0 0 0 n,.raw (Go.typeHandle prog 62)]/\H1=⟨1,[]⟩):=by
 obtain⟨i,hi,hd⟩:=info_desc (P:=prog) (t:=23) (d:= .slice 62) (by kernel_rfl);obtain⟨ie,hie,hk⟩:=info_ptr (P:=prog) (t:=62) (by kernel_rfl);have h:=swapper_spec (P:=prog) (f:=157) (fun av w=>Jt func157 (by kernel_rfl) (by kernel_rfl) (by kernel_rfl) (e:=Extern.ReflectliteSwapper.swapper "internal/reflectlite" (Extern.ReflectliteValue.valueError "Swapper")) (by kernel_rfl) av w) 23 62 i ie hi hd hie 25 (fun w=>by kernel_rfl) g 0 n 186 (by rw[hk n hn];kernel_rfl)
 rw[hk n hn] at h;exact h
end
end Go.Proofs
namespace Go.Sk
open Go.RowKit
variable {X:Cx} {Q:Exit->Fr->AH->Prop} {fr:Fr} {H:AH} {l:List Code}
theorem Cs.blockG {id:Nat}{c c1:Code}(h:∀Q':Exit->Fr->AH->Prop,(∀fr H,Cs X (c1::l) Q fr H->Q' .normal fr H)->(∀fr H,Cs X (c1::l) Q fr H->Q' (.exit id) fr H)->(∀fr H,Q .ret fr H->Q' .ret fr H)->(∀i fr H,i≠id->Q (.exit i) fr H->Q' (.exit i) fr H)->
  (∀fr H F G ρ,z5d X ρ fr H F G->Q' .normal F G->Q' .normal fr H)->Cs X [c] Q' fr H):Cs X (.block id c::c1::l) Q fr H:=by
 refine Cw.block (Cs.one (h _ (fun _ _ h=>h) (fun _ _ h=> ?_) (fun _ _ h=>h) (fun i _ _ hi h=> ?_) (fun fr H F G ρ hg hk=>Cs.give (l:=l) (c:=c1) ρ hg hk)))
 ·simp only[inBlk,↓reduceIte];exact h
 ·simp only[inBlk,qb hi];exact h
theorem Cs.regTreeN {id:Nat}{ops:List Oper}(keep:List Nat)(p:Plan)(A W U:List (List Nat))(hQ:∀fr H F G ρ,z5d X ρ fr H F G->Q .normal F G->Q .normal fr H)(hm:X.P.follows .mixedOrders=true)
  (hd:dstOk X.n ops=true) (hlen:p.len=ops.length) (hns:Region.noSelect ops.toArray=true) (hA:afterOk ops.toArray A=true) (hE:effOkT ops.toArray A W U=true) (hWn:W.all (fun l=>anyW l||l.all fun i=>decide (i<H.nxt))=true)
  (hs:z5r ops.toArray p (Array.replicate ops.length false) false=true)
  (h:∀K:Fr->AH->Prop,(∀fr H,Cs X [] Q fr H->K fr H)->(∀fr H F G ρ,z5d X ρ fr H F G->K F G->K fr H)->runT X.P X.wrap X.m0 W U ops.toArray p [] fr H (fun fr H=>K (prune keep fr) H)):Cs X [.region id ops.toArray true] Q fr H:=by
 have h1:=h (fun fr H=>Q .normal fr H) (fun _ _ h=>h) hQ
 have h2:Cw X (.region id ops.toArray true) (fun e fr H=>match e with| .normal=>Q .normal (prune keep fr) H|e=>Q e fr H) fr H:=fun β a w hF hS=>by
  refine yg hm (wpAny_of_G (S:=SW w.drew β H W) (isq:=z5o ops.toArray) _ _ _ _ ?_)
  have:=runT_ok (X:=X) (ops:=ops.toArray) (Q:=lift X (fun e fr H=>match e with| .normal=>Q .normal (prune keep fr) H|e=>Q e fr H)) (fun _ _ h=>h) (fun _ _ _ h=>h) hns hA hE (w1:=w.drew) (β1:=β) (H1:=H) (fun j hany id hid=>by
   rcases qZ j W.length with hj|hj
   ·rw[List.getD,qF hj] at hid hany;have h3:=qu.1 hWn _ (qN hj);simp only[jQ] at hid hany;rw[hany,jW] at h3;simpa using qu.1 h3 id hid
   ·rw[List.getD,qI hj] at hid
    cases hid) (by simpa using hd) p (Array.replicate ops.length false) false (N:=[]) (a:=a) hs (fun j oj _ hl=>by
    exfalso
    rcases qZ j ops.length with h'|h'
    ·simp[h'] at hl
    ·simp[h'] at hl) ⟨hS.drew,fun _=>⟨rfl,rfl,rfl⟩,Env.agree.refl _ _,qc _,Sub.refl _,qc _,fun _ h=>by cases h⟩ hF h1
  rw[hlen] at this;simpa using this
 refine Cw.conv h2 ?_;intro e a w hh
 cases e with
 |normal=>exact At.prune (K:=fun fr H=>Q .normal fr H) hh
 |_=>exact hh
end Go.Sk
namespace Go.Sk
open Go.RowKit Go.Proofs
theorem Zrt {X:Cx}{Q:Exit->Fr->AH->Prop}{fr:Fr}{H:AH}{l:List Code}{id:Nat}{ops:List Oper}{c:Code}(keep:List Nat)(p:Plan)(W U:List (List Nat))(h:∀K:Fr->AH->Prop,(∀fr H,Cs X (c::l) Q fr H->K fr H)->(∀fr H F G ρ,z5d X ρ fr H F G->K F G->K fr H)->runT X.P X.wrap X.m0 W U ops.toArray p [] fr H (fun fr H=>K (prune keep fr) H))(hm:X.P.follows .mixedOrders=true:=by exact Tryz.mo)(hd:dstOk X.n ops=true:=by exact rfl)(hlen:p.len=ops.length:=by exact rfl)(hns:Region.noSelect ops.toArray=true:=by kernel_rfl)(hA:afterOk ops.toArray (aftC ops)=true:=by kernel_rfl)(hE:effOkT ops.toArray (aftC ops) W U=true:=by kernel_rfl)(hWn:W.all (fun l=>anyW l||l.all fun i=>decide (i<H.nxt))=true:=by exact rfl)(hs:z5r ops.toArray p (Array.replicate ops.length false) false=true:=by kernel_rfl):Cs X (.region id ops.toArray true::c::l) Q fr H:=
 Cs.regTree keep p (aftC ops) W U hm hd hlen hns hA hE hWn hs h
theorem Zrn {X:Cx}{Q:Exit->Fr->AH->Prop}{fr:Fr}{H:AH}{id:Nat}{ops:List Oper}(keep:List Nat)(p:Plan)(W U:List (List Nat))(hQ:∀fr H F G ρ,z5d X ρ fr H F G->Q .normal F G->Q .normal fr H)(h:∀K:Fr->AH->Prop,(∀fr H,Cs X ([]) Q fr H->K fr H)->(∀fr H F G ρ,z5d X ρ fr H F G->K F G->K fr H)->runT X.P X.wrap X.m0 W U ops.toArray p [] fr H (fun fr H=>K (prune keep fr) H))(hm:X.P.follows .mixedOrders=true:=by exact Tryz.mo)(hd:dstOk X.n ops=true:=by exact rfl)(hlen:p.len=ops.length:=by exact rfl)(hns:Region.noSelect ops.toArray=true:=by kernel_rfl)(hA:afterOk ops.toArray (aftC ops)=true:=by kernel_rfl)(hE:effOkT ops.toArray (aftC ops) W U=true:=by kernel_rfl)(hWn:W.all (fun l=>anyW l||l.all fun i=>decide (i<H.nxt))=true:=by exact rfl)(hs:z5r ops.toArray p (Array.replicate ops.length false) false=true:=by kernel_rfl):Cs X [.region id ops.toArray true] Q fr H:=
 Cs.regTreeN keep p (aftC ops) W U hQ hm hd hlen hns hA hE hWn hs h
theorem ZT {P:Program}{wr:Bool}{m0:Nat}{W U:List (List Nat)}{ops:List Oper}{N:List Nat}{i:Nat}{p:Plan}{fr:Fr}{H:AH}{K:Fr->AH->Prop}{o:Oper}(w1 w2 N1:List Nat)(hi:ops[i]? =some o:=by exact rfl)(hw1:wOf W i H N=w1:=by exact rfl)(hw2:U.getD i []=w2:=by exact rfl)(hN1:newN ops.toArray i H N=N1:=by exact rfl)(h:stp P wr m0 true w1 w2 ops.toArray o fr H (fun fr' H'=>runT P wr m0 W U ops.toArray p N1 fr' H' K)):runT P wr m0 W U ops.toArray (.op i p) N fr H K:=z16 o w1 w2 N1 hi hw1 hw2 hN1 h
end Go.Sk
namespace Go.Proofs
open Tryz
open Go.Sk
section
def z4n:=aj @nds.eq_1 @Nd.sv.eq_1
def RosLm.exE:=aj7 @zg @zi @zl z5u @zp @boxN.eq_1 z4n
def RosLm.gxE:=aj3 @boxN.eq_1 ec16 z4n
open RosLm (gxE exE)
open D0 (oxE sdE)
theorem less_spec (n:Nat)(hn:n<=1000000):LessOk n:=by
 intro ys hy i j hi hj;refine zf.ofC false 35 [.tmp 5] func118 rfl rfl ntmps118 results118 rfl ?_;intro w0 own0 β0 Q hQ hQn;simp only[z1c];refine Zrs [0,1,2] ?_;refine z6 ?_;refine Zrt [6,7] (.op 0 (.op 1 (.op 2 (.op 3 (.op 4 (.op 5 (.op 6 (.op 7 (.two 8 9 (.op 9 (.op 10 (.op 11 .done))) (.op 8 (.op 10 (.op 11 .done)))))))))))) [[],[],[],[],[],[],[],[],[],[],[],[]] [[],[],[],[],[],[],[],[],[],[],[],[]] ?_;intro K hK hG
 have hk1:K [(6,.ptr 2 0 0 0),(7,.ptr 3 0 0 0)] ⟨4,[(2,uQ (.row ⟨true,true,62,3,1,fun _=>[.int .i64 (nd ys i).id,.str (nd ys i).key,.int .u32 (nd ys i).word]⟩)),(3,uQ (.row ⟨true,true,62,3,1,fun _=>[.int .i64 (nd ys j).id,.str (nd ys j).key,.int .u32 (nd ys j).word]⟩))]⟩:=by
  refine hK _ _ ?_;clear hG hK K;refine Zrs [5] ?_;refine ze (hQ _ _ ?_);refine zc (H':=⟨2,[]⟩) (.inl rfl) ?_;refine Zou ?_;refine⟨Zs,(Zg id),Zs,?_⟩;exact⟨rfl,trivial⟩
 refine Zo (ZT [] [] []) ?_;refine Zo (ZT [] [] []) ?_;refine Zo (ZT [] [] []) ?_;refine Zo (ZT [] [] []) ?_;refine Zo (ZT [] [] []) ?_;refine Zo (ZT [] [] []) ?_;refine Zo (ZT [] [] []) ?_;refine Zo (ZT [] [] []) ?_;refine z26 ?_ ?_
 ·skip
  refine Zo (ZT [] [] [2]) ?_;refine Zo (ZT [2] [] [3,2]) ?_;refine Zo (ZT [3,2] [] [3,2]) ?_;refine Zo (ZT [3,2] [] [3,2]) ?_;refine z17 ?_;refine Zpr ?_;exact hG _ _ _ _ id (Zg id) hk1
 ·skip
  refine Zo (ZT [] [] [2]) ?_;refine Zo (ZT [2] [] [3,2]) ?_;refine Zo (ZT [3,2] [] [3,2]) ?_;refine Zo (ZT [3,2] [] [3,2]) ?_;refine z17 ?_;refine Zpr ?_;exact hG _ _ _ _ (fun k=>if k=2 then 3 else if k=3 then 2 else k) (Zg (fun k=>if k=2 then 3 else if k=3 then 2 else k)) hk1
end
section
theorem Tryz.tyRv:z1s prog 176=⟨true,.struct,3,24,[(0,some false,1),(1,some false,1),(2,some false,1)]⟩:=by kernel_rfl
theorem Tryz.szRv:z2l prog 176=3:=by kernel_rfl
theorem Tryz.zRv:z3f prog 176=some [.nilp,.nilp,.int .u64 0]:=by kernel_rfl
theorem z2h:z3f prog 23=some [.nils]:=by kernel_rfl
theorem Tryz.zLs:z3f prog 183=some [.nilfn,.nilfn]:=by kernel_rfl
theorem z1b (f g:Nat->List SV):app f 0 g=g:=by funext i;simp[app]
theorem Tryz.hCell:(Go.typeHandle prog 23).oneCell'=true:=by kernel_rfl
def ec18:=aj5 @Tryz.tyRv @Tryz.szRv @Tryz.zRv @Tryz.zLs @Tryz.hCell
def RosVm.exE:=aj9 ec12 @zg @zl z5u @zp @z2h ec18 ec14 (aj4 z47 @boxN.eq_1 @app_nds @z1b)
def RosVm.gxE:=aj5 @z1b ec12 z47 @boxN.eq_1 ec16
def RosVm.axE:=aj9 ec12 @zg @zl z5u @zp @z2h ec18 ec14 (aj5 z47 @boxN.eq_1 @app_nds @z1b @z2e)
open RosVm (gxE axE exE)
open D0 (sdE oxE)
theorem sliceStable_spec (xs:List Nd)(n:Nat)(hn:xs.length=n)(h2:2<=n)(hx:n<=19):
  zf prog 120 [.ifc 23 (.slc true 1 0 0 n),lessSv 0] ⟨2,[(0,boxN n),(1,uQ (.row ⟨true,false,62,3,n,nds xs⟩))]⟩
   (fun s H1=>s= .tup []/\H1=⟨2,[(1,uQ (.row ⟨true,false,62,3,n,nds (z43 xs)⟩))]⟩):=by
 refine zf.ofC false 16 [] func120 rfl rfl ntmps120 results120 rfl ?_;intro w0 own0 β0 Q hQ hQn;simp only[z1c];refine sg [0,1,4] rfl ?_;intro K hK;refine Zo Zl ?_;refine Zo Zl ?_;refine Zc1 (nodesValueOf n true) (fun _=>1) ?_;iterate 2 (refine Zo Zl ?_)
 refine z8 (Zpr (hK _ _ ?_));clear hK K;refine sg [1,4,5] rfl ?_;intro K hK;refine Zo Zl ?_;refine Zo Zl ?_;refine Zc1 (nodesSwapper n true h2) (fun _=>1) ?_;refine Zo Zl ?_;refine z8 (Zpr (hK _ _ ?_));clear hK K;refine z4p [] rfl ?_;intro K hK;iterate 4 (refine Zo Zl ?_)
 refine Zo Zl ?_;refine Zc1 (nodesLen n true) (fun k=>if k=0 then 1 else 2) ?_;refine Zo Zl ?_;refine Zc1 (stable_spec xs n hn hx (less_spec n (by omega))) (id) ?_;refine z8 (Zpr (hK _ _ ?_));clear hK K;refine zd (hQn _ _ ?_);refine zc (H':=⟨2,[(1,uQ (.row ⟨true,false,62,3,n,nds (z43 xs)⟩))]⟩) (.inl rfl) ?_;refine Zou ?_;refine⟨Zs,(Zg id),Zs,?_⟩;trivial
theorem sliceIsSorted_spec (xs:List Nd)(n:Nat)(hn:xs.length=n)(hx:n<=1000000):
  zf prog 119 [.ifc 23 (.slc true 1 0 0 n),lessSv 0] ⟨2,[(0,boxN n),(1,uQ (.row ⟨false,false,62,3,n,nds xs⟩))]⟩
   (fun s H1=> ∃b,s= .bool b/\(b=true->Srt 0 n (nd xs))/\(b=false->2<=n)/\H1=⟨2,[]⟩):=by
 refine zf.ofC false 23 [.tmp 4] func119 rfl rfl ntmps119 results119 rfl ?_;intro w0 own0 β0 Q hQ hQn;simp only[z1c];refine Zrs [0,1] ?_;refine sg [1,5] rfl ?_;intro K hK;refine Zo Zl ?_;refine Zo Zl ?_;refine Zc1 (nodesValueOf n true) (fun _=>1) ?_;iterate 2 (refine Zo Zl ?_)
 refine z8 (Zpr (hK _ _ ?_));clear hK K;refine sg [1,6] rfl ?_;intro K hK;refine Zo Zl ?_;refine Zo Zl ?_;refine Zc1 (nodesLen n true) (fun k=>if k=0 then 1 else 2) ?_;refine Zo Zl ?_;refine z8 (Zpr (hK _ _ ?_));clear hK K;refine z6 ?_;refine Zrs [1,7] ?_;refine zb fun Q0 hN0 hX0 hR0 hE0=> ?_;refine zn (σ:=Nat) (fun σ=>σ<=n/\∀j,σ<=j->0<j->j<n->¬Lt (nd xs j) (nd xs (j-1))) (fun σ=>σ) (fun σ=>[(1,.fn 118 [.ptr 0 0 0 0]),(7,.int .i64 ((σ:Int)-1))]) (fun σ=>⟨2,[(0,boxN n),(1,uQ (.row ⟨false,false,62,3,n,nds xs⟩))]⟩) n ⟨qc _,fun j h1 h2 h3=>by omega⟩ (ρ:=id) (Zg id) ?_;rintro i hi QL1 hL1 hRL1 hEL1;refine z6 ?_;refine Zrs [1,7,15] ?_;refine z7 _ rfl ?_ ?_
 ·intro h15;replace h15:=Znb h15;obtain⟨hi1,hi2⟩:=hi;refine za (z6 (zb fun Q1 hN1 hX1 hR1 hE1=> ?_));refine sg [1,7,22] rfl ?_;intro K hK;iterate 4 (refine Zo Zl ?_)
  rw[show(i:Int)-1-1=((i-2:Nat):Int) from by omega,show(i:Int)-1=((i-1:Nat):Int) from by omega];repeat(with_reducible apply qe;exact sdE)
  refine Zo Zl ?_;refine Zc1 (less_spec n hx xs hn (i-1) (i-2) (by omega) (by omega)) (id) ?_;refine z8 (Zpr (hK _ _ ?_));clear hK K;refine z7 _ rfl ?_ ?_
  ·intro h22
   try replace h22:=Znb h22
   refine Zrs [4] ?_;refine ze (hR1 _ _ (hRL1 _ _ (hR0 _ _ (hQ _ _ ?_))));refine zc (H':=⟨2,[]⟩) (.inl rfl) ?_;refine Zou ?_;refine⟨Zs,(Zg id),Zs,?_⟩;exact⟨false,rfl,(fun h=>by cases h),(fun _=>by omega),by trivial⟩
  ·intro h22
   try replace h22:=Znb h22
   refine za (zd (hN1 _ _ ?_));refine Zrg [1,7] ?_;refine zd (hL1 _ _ ?_);have h22':¬Lt (nd xs (i-1)) (nd xs (i-2)):=by rw[<-ltN_iff,h22];exact qp
   refine⟨i-1,⟨⟨by omega,fun j h1 h2 h3=> ?_⟩,by omega⟩,id,(Zg id)⟩
   by_cases c:j=i-1
   ·subst c;exact h22'
   ·exact hi2 j (by omega) h2 h3
 ·intro h15;replace h15:=Znb h15;obtain⟨hi1,hi2⟩:=hi;refine zm (hEL1 _ _ _ (hX0 _ _ ?_));refine Zrs [4] ?_;refine ze (hQ _ _ ?_);refine zc (H':=⟨2,[]⟩) (.inl rfl) ?_;refine Zou ?_;refine⟨Zs,(Zg id),Zs,?_⟩;exact⟨true,rfl,fun _=>srt_of_next fun q h1 h2=>hi2 (q+1) (by omega) (by omega) h2,(fun h=>by cases h),by trivial⟩
theorem z5p (xs:List Nd)(n:Nat)(hn:xs.length=n)(hx:n<=1000000):
  zf prog 47 [.slc false 0 0 0 n] ⟨1,[(0,uQ (.row ⟨false,false,62,3,n,nds xs⟩))]⟩
   (fun s H1=>s= .slc true 1 0 0 n/\H1=⟨2,[(1,uQ (.row ⟨true,false,62,3,n,nds xs⟩))]⟩):=by
 refine zf.ofC false 8 [.tmp 2] func47 rfl rfl ntmps47 results47 rfl ?_;intro w0 own0 β0 Q hQ hQn;simp only[z1c];refine Zrs [0] ?_;refine z6 ?_;refine sg [0,4] rfl ?_;intro K hK;iterate 2 (refine Zo Zl ?_)
 intro b hb;repeat(with_reducible apply qe;exact sdE)
 refine z8 (Zpr (hK _ _ ?_));clear hK K;refine z7 _ rfl ?_ ?_
 ·intro h4
  have hn0:n=0:=by
   rcases Ja n with h|h
   ·exact h
   ·rw[hb h] at h4;cases h4
  subst hn0;refine Zrs [2] ?_;refine z29 2 62 3 (nds xs) rfl ?_;refine ze (hQ _ _ ?_);refine zc (H':=⟨2,[(1,uQ (.row ⟨true,false,62,3,0,nds xs⟩))]⟩) (.inl rfl) ?_;refine Zou ?_;refine⟨Zs,(Zg id),Zs,?_⟩;trivial
 ·intro h4
  try replace h4:=Znb h4
  refine za ?_;refine Zrs [2] ?_;refine ze (hQ _ _ ?_);refine zu (fun k=>if k=1 then 2 else k) (.slc true 1 0 0 n) (⟨2,[(1,uQ (.row ⟨true,false,62,3,n,nds xs⟩))]⟩) (.inl rfl) ?_;refine Zou ?_;refine⟨Zs,Zs,(Zg (fun k=>if k=1 then 2 else k)),Zs,?_⟩;trivial
theorem sort_spec (xs:List Nd)(n:Nat)(hn:xs.length=n)(hx:n<=19):
  zf prog 76 [.slc false 0 0 0 n] ⟨1,[(0,uQ (.row ⟨false,false,62,3,n,nds xs⟩))]⟩
   (fun s H1=>s= .slc true 1 0 0 n/\H1=⟨2,[(1,uQ (.row ⟨true,false,62,3,n,nds (z43 xs)⟩))]⟩):=by
 refine zf.ofC false 18 [.tmp 2] func76 rfl rfl ntmps76 results76 rfl ?_;intro w0 own0 β0 Q hQ hQn;simp only[z1c];refine Zrs [0] ?_;refine sg [3] rfl ?_;intro K hK;refine Zo Zl ?_;refine Zo Zl ?_;refine Zc1 (z5p xs n hn (by omega)) (id) ?_;iterate 2 (refine Zo Zl ?_)
 refine z8 (Zpr (hK _ _ ?_));clear hK K;refine Zrs [3,4] ?_;refine z6 ?_;refine sg [3,4,12] rfl ?_;intro K hK;iterate 3 (refine Zo Zl ?_)
 refine Zo Zl ?_;refine Zca (sliceIsSorted_spec xs n hn (by omega)) (fun k=>if k=0 then 2 else 1) ?_;rintro s0 H0 ⟨b,rfl,hb1,hb2,rfl⟩ s1 H1 hs1 hH1;obtain⟨hs2,hH2⟩:=Zaf hs1 hH1;clear hs1 hH1;subst hs2 hH2;repeat(with_reducible apply qe;exact sdE)
 refine Zo Zl ?_;refine z8 (Zpr (hK _ _ ?_));clear hK K;refine z7 _ rfl ?_ ?_
 ·intro h12
  try replace h12:=Znb h12
  refine z4p [3] rfl ?_;intro K hK;iterate 3 (refine Zo Zl ?_)
  refine Zo Zl ?_;refine Zc1 (sliceStable_spec xs n hn (hb2 (by simpa using h12)) hx) (fun k=>if k=0 then 2 else 1) ?_;refine z8 (Zpr (hK _ _ ?_));clear hK K;refine Zrs [2] ?_;refine ze (hQ _ _ ?_);refine zc (H':=⟨2,[(1,uQ (.row ⟨true,false,62,3,n,nds (z43 xs)⟩))]⟩) (.inl rfl) ?_;refine Zou ?_;refine⟨Zs,(Zg id),Zs,?_⟩;trivial
 ·intro h12
  try replace h12:=Znb h12
  refine za ?_;refine Zrs [2] ?_;refine ze (hQ _ _ ?_);refine zc (H':=⟨2,[(1,uQ (.row ⟨true,false,62,3,n,nds xs⟩))]⟩) (.inl rfl) ?_;refine Zou ?_;refine⟨Zs,(Zg id),Zs,?_⟩;rw[srtN_same (by rw[hn];exact hb1 (by simpa using h12))]
end
section
def anyB (n:Nat)(p:Nat->Bool):Bool:=(List.range n).any p
theorem z3p {n i:Nat}{p:Nat->Bool}(h:i<n)(hp:p i=true):anyB n p=true:=JR.2 ⟨i,by simpa using h,hp⟩
theorem z1y {n:Nat}{p:Nat->Bool}(h:∀i,i<n->p i=false):anyB n p=false:=by
 rw[anyB,JI];intro i hi;rw[h i (by simpa using hi)];exact qp
theorem anyB_elim {n:Nat}{p:Nat->Bool}(h:anyB n p=false){i:Nat}(hi:i<n):p i=false:=by
 cases hp:p i with
 |false=>rfl
 |true=>rw[z3p hi hp] at h;cases h
def badN (x:Nd):Bool:=decide (x.id<1)||decide (2147483647<x.id)|| !okKey x.key|| !okWord x.word
def twinN (y x:Nd):Bool:=decide (y.id=x.id)||sEq y.key x.key
theorem twinN_comm (y x:Nd):twinN y x=twinN x y:=by
 simp only[twinN,sEq_iff,eq_comm]
def z1j (xs:List Nd):Int:=
 if 64<xs.length then 3
 else if anyB xs.length (fun i=>badN (nd xs i)) then 1
 else if anyB xs.length (fun i=>anyB i fun k=>twinN (nd xs k) (nd xs i)) then 5
 else 0
def idxF (p:Nat->Bool):Nat->Nat->Int
 |0,_=> -1
 |k+1,i=>if p i then i else idxF p k (i+1)
def idxB (n:Nat)(p:Nat->Bool):Int:=idxF p n 0
theorem idxF_none {p:Nat->Bool}:∀(k i:Nat),(∀q,i<=q->q<i+k->p q=false)->idxF p k i= -1
 |0,_,_=>rfl
 |k+1,i,h=>by rw[idxF,h i (qc _) (by omega)];exact idxF_none k (i+1) fun q h1 h2=>h q (by omega) (by omega)
theorem idxF_at {p:Nat->Bool}{j:Nat}(hj:p j=true):∀(k i:Nat),i<=j->j<i+k->(∀q,i<=q->q<j->p q=false)->idxF p k i=j
 |0,i,h1,h2,_=>by omega
 |k+1,i,h1,h2,h=>by
  rw[idxF]
  by_cases c:i=j
  ·subst c;rw[hj];rfl
  ·rw[h i (qc _) (by omega)];exact idxF_at hj k (i+1) (by omega) (by omega) fun q g1 g2=>h q (by omega) g2
theorem idxB_none {n:Nat}{p:Nat->Bool}(h:∀q,q<n->p q=false):idxB n p= -1:=idxF_none n 0 fun q _ h2=>h q (by omega)
theorem idxB_at {n j:Nat}{p:Nat->Bool}(hj:p j=true)(hn:j<n)(h:∀q,q<j->p q=false):idxB n p=j:=idxF_at hj n 0 (by omega) (by omega) fun q _ h2=>h q h2
theorem z3n (n:Nat)(p:Nat->Bool):(idxB n p= -1/\∀q,q<n->p q=false)\/∃j:Nat,idxB n p=j/\j<n/\p j=true/\∀q,q<j->p q=false:=by
 by_cases h:∃j,j<n/\p j=true
 ·obtain⟨j,hj,hp⟩:=h
  have:∃j,j<n/\p j=true/\∀q,q<j->p q=false:=by
   induction j using Nat.strongRecOn with
   |_ j ih=>
    by_cases h2:∃q,q<j/\p q=true
    ·obtain⟨q,hq,hpq⟩:=h2;exact ih q hq (by omega) hpq
    ·exact⟨j,hj,hp,fun q hq=>by
      cases hpq:p q with
      |false=>rfl
      |true=>exact absurd ⟨q,hq,hpq⟩ h2⟩
  obtain⟨j,h1,h2,h3⟩:=this;exact .inr ⟨j,idxB_at h2 h1 h3,h1,h2,h3⟩
 ·have h':∀q,q<n->p q=false:=fun q hq=>by
   cases hpq:p q with
   |false=>rfl
   |true=>exact absurd ⟨q,hq,hpq⟩ h
  exact .inl ⟨idxB_none h',h'⟩
theorem idxB_any (n:Nat)(p:Nat->Bool):decide (0<=idxB n p)=anyB n p:=by
 rcases z3n n p with⟨h,h1⟩|⟨j,h,h1,h2,_⟩
 ·rw[h,z1y h1];rfl
 ·rw[h,z3p h1 h2];simp
inductive Cap where
 |node (x:Nd)
 |num (n:Int)
noncomputable def Cap.ty:Cap->Go.TypeId
 |.node _=>62
 |.num _=>3
def Cap.sz:Cap->Nat
 |.node _=>3
 |.num _=>1
def Cap.sv:Cap->List SV
 |.node x=>x.sv
 |.num n=>[.int .i64 n]
noncomputable def Cap.row (c:Cap):Nat×(Nat->Sk.Obj):=uQ (.row ⟨false,true,c.ty,c.sz,1,fun _=>c.sv⟩)
theorem capsv_ren (ρ:Nat->Nat)(c:Cap):SV.renL ρ c.sv=c.sv:=by cases c<;>simp[Cap.sv,Nd.sv,SV.renL,SV.ren]
theorem capsv_lt (m:Nat)(c:Cap):SV.ltL m c.sv:=by cases c<;>simp[Cap.sv,Nd.sv,SV.ltL,SV.lt]
def TestOk (f:Go.FuncId)(c:Cap)(p:Nd->Bool):Prop:=∀x:Nd,zf prog f [.agg x.sv,.ptr 0 0 0 0] ⟨1,[(0,c.row)]⟩ (fun s H1=>s= .bool (p x)/\H1=⟨1,[]⟩)
def ec19:=aj7 @Cap.row.eq_1 @Cap.sv.eq_1 @Cap.sv.eq_2 @Cap.ty.eq_1 @Cap.ty.eq_2 @Cap.sz.eq_1 @Cap.sz.eq_2
def RosWm.exE:=aj9 @zg @zh @zi @zo @zl z5u @zp z47 (aj z4n ec19)
def RosWm.gxE:=aj6 z47 ec16 z4n @capsv_ren @capsv_lt ec19
def RosWm.axE:=aj9 @zg @zh @zi @zo @zl z5u @zp z47 (aj3 z4n ec19 @z2e)
open RosWm (gxE axE exE)
open D0 (oxE sdE)
theorem checkTest (x:Nd):TestOk 87 (.node x) (fun y=>twinN y x):=by
 intro y;refine zf.ofC false 16 [.tmp 3] func87 rfl rfl ntmps87 results87 rfl ?_;intro w0 own0 β0 Q hQ hQn;simp only[z1c];refine Zrs [1,2] ?_;refine Zrs [3] ?_;refine ze (hQ _ _ ?_);refine zc (H':=⟨1,[]⟩) (.inl rfl) ?_;refine Zou ?_;refine⟨Zs,(Zg id),Zs,?_⟩;exact⟨rfl,by trivial⟩
theorem findTest (n:Int):TestOk 78 (.num n) (fun y=>decide (y.id=n)):=by
 intro y;refine zf.ofC false 8 [.tmp 3] func78 rfl rfl ntmps78 results78 rfl ?_;intro w0 own0 β0 Q hQ hQn;simp only[z1c];refine Zrs [1,2] ?_;refine Zrs [3] ?_;refine ze (hQ _ _ ?_);refine zc (H':=⟨1,[]⟩) (.inl rfl) ?_;refine Zou ?_;refine⟨Zs,(Zg id),Zs,?_⟩;exact⟨rfl,by trivial⟩
theorem indexFunc_spec (f:Go.FuncId)(c:Cap)(p:Nd->Bool)(hp:TestOk f c p)(xs:List Nd)(n m:Nat)(hn:m<=n)(hx:n<=1000000):
  zf prog 77 [.slc false 0 0 0 m,.fn f [.ptr 1 0 0 0]] ⟨2,[(0,uQ (.row ⟨false,false,62,3,n,nds xs⟩)),(1,c.row)]⟩
   (fun s H1=>s= .int .i64 (idxB m fun i=>p (nd xs i))/\H1=⟨2,[]⟩):=by
 refine zf.ofC false 19 [.tmp 4] func77 rfl rfl ntmps77 results77 rfl ?_;intro w0 own0 β0 Q hQ hQn;simp only[z1c];refine Zrs [0,1] ?_;refine z6 ?_;refine Zrs [0,1,7,8] ?_;refine zb fun Q0 hN0 hX0 hR0 hE0=> ?_;refine zn (σ:=Nat) (fun i=>i<=m/\∀q,q<i->p (nd xs q)=false) (fun i=>m-i) (fun i=>[(0,.slc false 0 0 0 m),(1,.fn f [.ptr 1 0 0 0]),(7,.int .i64 m),(8,.int .i64 i)]) (fun _=>⟨2,[(0,uQ (.row ⟨false,false,62,3,n,nds xs⟩)),(1,c.row)]⟩) 0 ⟨qo _,fun q h=>by omega⟩ (ρ:=id) (Zg id) ?_;rintro i hi QL1 hL1 hRL1 hEL1;refine Zrs [0,1,7,8,9] ?_;refine z6 ?_;refine z7 _ rfl ?_ ?_
 ·intro h9;replace h9:=Znb h9;obtain⟨hi1,hi2⟩:=hi;refine za (z6 (zb fun Q1 hN1 hX1 hR1 hE1=> ?_));refine Zrs [0,1,5,7,8] ?_;refine sg [0,1,5,7,8,16] rfl ?_;intro K hK;iterate 5 (refine Zo Zl ?_)
  refine Zo Zl ?_;refine Zc1 (hp (nd xs i)) (fun _=>1) ?_;refine z8 (Zpr (hK _ _ ?_));clear hK K;refine z7 _ rfl ?_ ?_
  ·intro h16
   try replace h16:=Znb h16
   refine Zrs [4] ?_;refine ze (hR1 _ _ (hRL1 _ _ (hR0 _ _ (hQ _ _ ?_))));refine zc (H':=⟨2,[]⟩) (.inl rfl) ?_;refine Zou ?_;refine⟨Zs,(Zg id),Zs,?_⟩;rw[idxB_at (p:=fun i=>p (nd xs i)) h16 (by omega) hi2];exact⟨rfl,by trivial⟩
  ·intro h16
   try replace h16:=Znb h16
   refine za (zd (hN1 _ _ ?_));refine Zrg [0,1,7,8] ?_;refine zd (hL1 _ _ ?_);rw[show(i:Int)+1=((i+1:Nat):Int) from by omega];refine⟨i+1,⟨⟨by omega,fun q hq=> ?_⟩,by omega⟩,id,(Zg id)⟩
   by_cases e:q=i
   ·subst e;exact h16
   ·exact hi2 q (by omega)
 ·intro h9;replace h9:=Znb h9;obtain⟨hi1,hi2⟩:=hi;refine zm (hEL1 _ _ _ (hX0 _ _ ?_));refine Zrs [4] ?_;refine ze (hQ _ _ ?_);refine zc (H':=⟨2,[]⟩) (.inl rfl) ?_;refine Zou ?_;refine⟨Zs,(Zg id),Zs,?_⟩;rw[idxB_none (p:=fun i=>p (nd xs i)) fun q hq=>hi2 q (by omega)];exact⟨rfl,by trivial⟩
theorem containsFunc_spec (f:Go.FuncId)(c:Cap)(p:Nd->Bool)(hp:TestOk f c p)(xs:List Nd)(n m:Nat)(hn:m<=n)(hx:n<=1000000):
  zf prog 86 [.slc false 0 0 0 m,.fn f [.ptr 1 0 0 0]] ⟨2,[(0,uQ (.row ⟨false,false,62,3,n,nds xs⟩)),(1,c.row)]⟩
   (fun s H1=>s= .bool (anyB m fun i=>p (nd xs i))/\H1=⟨2,[]⟩):=by
 refine zf.ofC false 9 [.tmp 4] func86 rfl rfl ntmps86 results86 rfl ?_;intro w0 own0 β0 Q hQ hQn;simp only[z1c];refine Zrs [0,1] ?_;refine sg [4] rfl ?_;intro K hK;iterate 2 (refine Zo Zl ?_)
 refine Zo Zl ?_;refine Zc1 (indexFunc_spec f c p hp xs n m hn hx) (id) ?_;iterate 2 (refine Zo Zl ?_)
 refine z8 (Zpr (hK _ _ ?_));clear hK K;refine ze (hQ _ _ ?_);refine zc (H':=⟨2,[]⟩) (.inl rfl) ?_;refine Zou ?_;refine⟨Zs,(Zg id),Zs,?_⟩;rw[idxB_any];exact⟨rfl,by trivial⟩
theorem check_spec (xs:List Nd)(n:Nat)(hn:xs.length=n)(hx:n<=1000000):
  zf prog 46 [.slc false 0 0 0 n] ⟨1,[(0,uQ (.row ⟨false,false,62,3,n,nds xs⟩))]⟩
   (fun s H1=>s= .int .i64 (z1j xs)/\H1=⟨1,[]⟩):=by
 refine zf.ofC false 50 [.tmp 2] func46 rfl rfl ntmps46 results46 rfl ?_;intro w0 own0 β0 Q hQ hQn;simp only[z1c];refine Zrs [0] ?_;refine z6 ?_;refine Zrs [0,9] ?_;refine z7 _ rfl ?_ ?_
 ·intro h9;replace h9:=Znb h9;refine Zrs [2] ?_;refine ze (hQ _ _ ?_);refine zc (H':=⟨1,[]⟩) (.inl rfl) ?_;refine Zou ?_;refine⟨Zs,(Zg id),Zs,?_⟩;rw[z1j,qf (by omega)];exact⟨rfl,by trivial⟩
 ·intro h9;replace h9:=Znb h9;refine za (z6 ?_);refine Zrs [0,10,11,12] ?_;refine zb fun Q0 hN0 hX0 hR0 hE0=> ?_;refine zn (σ:=Nat) (fun i=>i<=n/\∀q,q<i->badN (nd xs q)=false) (fun i=>n-i) (fun i=>[(0,.slc false 0 0 0 n),(10,.slc false 0 0 0 n),(11,.int .i64 n),(12,.int .i64 i)]) (fun _=>⟨1,[(0,uQ (.row ⟨false,false,62,3,n,nds xs⟩))]⟩) 0 ⟨qo _,fun q h=>by omega⟩ (ρ:=id) (Zg id) ?_;rintro i hi QL1 hL1 hRL1 hEL1;refine Zrs [0,10,11,12,13] ?_;refine z6 ?_;refine z7 _ rfl ?_ ?_
  ·intro h13;replace h13:=Znb h13;obtain⟨hi1,hi2⟩:=hi;refine za (z6 (zb fun Q1 hN1 hX1 hR1 hE1=> ?_));refine Zrs [0,4,10,11,12] ?_;refine sg [0,10,11,12,35] rfl ?_;intro K hK
   have hk6:∀B:Bool,B=badN (nd xs i)->K [(0,.slc false 0 0 0 n),(10,.slc false 0 0 0 n),(11,.int .i64 n),(12,.int .i64 i),(35,.bool B)] ⟨2,[(1,uQ (.row ⟨true,true,62,3,1,fun _=>[.int .i64 (nd xs i).id,.str (nd xs i).key,.int .u32 (nd xs i).word]⟩)),(0,uQ (.row ⟨false,false,62,3,n,nds xs⟩))]⟩:=by
    intro B hB;subst hB;refine hK _ _ ?_;clear hK K;refine z7 _ rfl ?_ ?_
    ·intro h35
     refine Zrs [2] ?_;refine ze (hR1 _ _ (hRL1 _ _ (hR0 _ _ (hQ _ _ ?_))));refine zc (H':=⟨1,[]⟩) (.inl rfl) ?_;refine Zou ?_;refine⟨Zs,(Zg id),Zs,?_⟩;rw[z1j,qb (by omega),qf (z3p (i:=i) (by omega) h35)];exact⟨rfl,by trivial⟩
    ·intro h35
     refine za (zd (hN1 _ _ ?_));refine Zrg [0,10,11,12] ?_;refine zd (hL1 _ _ ?_);rw[show(i:Int)+1=((i+1:Nat):Int) from by omega];refine⟨i+1,⟨⟨by omega,fun q hq=> ?_⟩,by omega⟩,id,(Zg id)⟩
     by_cases e:q=i
     ·subst e;exact h35
     ·exact hi2 q (by omega)
   iterate 11 (refine Zo Zl ?_)
   refine z11 ?_;refine z1w rfl rfl ?_;refine Zgr ?_;refine z1r ?_ ?_
   ·intro hg11
    first
     |(simp at hg11;done)
     |skip
      try replace hg11:=Znb hg11
      refine Zo id ?_;refine Zc1 (validKey_spec (nd xs i).key) (id) ?_;refine Zo Zl ?_
      try with_reducible refine qe (by simp_all;done) ?_
      repeat(with_reducible apply qe;exact sdE)
      iterate 4 (refine Zo Zl ?_)
      refine z11 ?_;refine z1w rfl rfl ?_;refine Zgr ?_;refine z1r ?_ ?_
      ·intro hg17
       first
        |(simp at hg17;done)
        |skip
         try replace hg17:=Znb hg17
         refine Zo id ?_;refine Zc1 (validWord_spec (nd xs i).word) (id) ?_;refine Zo Zl ?_
         try with_reducible refine qe (by intro h;simp only[qr,qh,qi,qx,qk,qq,qj,qg,qv,qC,qU,ne_eq,Qm,Ql,qK,qy] at h;rcases hg17 with(h1|h1)|h1<;>first|omega|(rw[h.2] at h1;cases h1)) ?_
         repeat(with_reducible apply qe;exact sdE)
         refine Zo Zl ?_;refine z8 ?_;refine Zpr ?_;refine hk6 _ ?_;simp_all[badN]
      ·intro hg17;refine⟨.bool false,?_⟩
       first
        |(simp at hg17;done)
        |skip
         try replace hg17:=Znb hg17
         refine Zo Zl ?_
         try with_reducible refine qe (by intro h;simp only[qr,qh,qi,qx,qk,qq,qj,qg,qv,qC,qU,ne_eq,Qm,Ql,qK,qy] at h;rcases hg17 with(h1|h1)|h1<;>first|omega|(rw[h.2] at h1;cases h1)) ?_
         repeat(with_reducible apply qe;exact sdE)
         refine Zo Zl ?_;refine z8 ?_;refine Zpr ?_;refine hk6 _ ?_;simp_all[badN]
   ·intro hg11;refine⟨.bool false,?_⟩
    first
     |(simp at hg11;done)
     |skip
      try replace hg11:=Znb hg11
      refine Zo Zl ?_
      try with_reducible refine qe (by simp_all;done) ?_
      repeat(with_reducible apply qe;exact sdE)
      iterate 4 (refine Zo Zl ?_)
      refine z11 ?_;refine z1w rfl rfl ?_;refine Zgr ?_;refine z1r ?_ ?_
      ·intro hg17
       first
        |(simp at hg17;done)
        |skip
         try replace hg17:=Znb hg17
         refine Zo id ?_;refine Zc1 (validWord_spec (nd xs i).word) (id) ?_;refine Zo Zl ?_
         try with_reducible refine qe (by intro h;simp only[qr,qh,qi,qx,qk,qq,qj,qg,qv,qC,qU,ne_eq,Qm,Ql,qK,qy] at h;rcases hg17 with(h1|h1)|h1<;>first|omega|(rw[h.2] at h1;cases h1)) ?_
         repeat(with_reducible apply qe;exact sdE)
         refine Zo Zl ?_;refine z8 ?_;refine Zpr ?_;refine hk6 _ ?_;simp_all[badN]
      ·intro hg17;refine⟨.bool false,?_⟩
       first
        |(simp at hg17;done)
        |skip
         try replace hg17:=Znb hg17
         refine Zo Zl ?_
         try with_reducible refine qe (by intro h;simp only[qr,qh,qi,qx,qk,qq,qj,qg,qv,qC,qU,ne_eq,Qm,Ql,qK,qy] at h;rcases hg17 with(h1|h1)|h1<;>first|omega|(rw[h.2] at h1;cases h1)) ?_
         repeat(with_reducible apply qe;exact sdE)
         refine Zo Zl ?_;refine z8 ?_;refine Zpr ?_;refine hk6 _ ?_;simp_all[badN]
  ·intro h13;replace h13:=Znb h13;obtain⟨hi1,hi2⟩:=hi;have hgood:anyB xs.length (fun i=>badN (nd xs i))=false:=z1y fun q hq=>hi2 q (by omega);refine zm (hEL1 _ _ _ (hX0 _ _ (z6 ?_)));refine Zrs [0,37,38,39] ?_;refine zb fun Q2 hN2 hX2 hR2 hE2=> ?_;refine zn (σ:=Nat) (fun i=>i<=n/\∀q,q<i->(anyB q fun k=>twinN (nd xs k) (nd xs q))=false) (fun i=>n-i) (fun i=>[(0,.slc false 0 0 0 n),(37,.slc false 0 0 0 n),(38,.int .i64 n),(39,.int .i64 i)]) (fun _=>⟨1,[(0,uQ (.row ⟨false,false,62,3,n,nds xs⟩))]⟩) 0 ⟨qo _,fun q h=>by omega⟩ (ρ:=id) (Zg id) ?_;rintro i hi QL2 hL2 hRL2 hEL2;refine Zrs [0,37,38,39,40] ?_;refine z6 ?_;refine z7 _ rfl ?_ ?_
   ·intro h40;replace h40:=Znb h40;obtain⟨hi1,hi2⟩:=hi;refine za (z6 (zb fun Q3 hN3 hX3 hR3 hE3=> ?_));refine Zrs [0,5,6,37,38,39] ?_;refine sg [0,37,38,39,48] rfl ?_;intro K hK;iterate 4 (refine Zo Zl ?_)
    refine Zo Zl ?_;refine Zc1 (containsFunc_spec 87 (.node (nd xs i)) _ (checkTest (nd xs i)) xs n i (by omega) hx) (id) ?_;refine z8 (Zpr (hK _ _ ?_));clear hK K;refine z7 _ rfl ?_ ?_
    ·intro h48
     try replace h48:=Znb h48
     refine Zrs [2] ?_;refine ze (hR3 _ _ (hRL2 _ _ (hR2 _ _ (hQ _ _ ?_))));refine zc (H':=⟨1,[]⟩) (.inl rfl) ?_;refine Zou ?_;refine⟨Zs,(Zg id),Zs,?_⟩;rw[z1j,qb (by omega),hgood,qb qp,qf (z3p (i:=i) (by omega) h48)];exact⟨rfl,by trivial⟩
    ·intro h48
     try replace h48:=Znb h48
     refine za (zd (hN3 _ _ ?_));refine Zrg [0,37,38,39] ?_;refine zd (hL2 _ _ ?_);rw[show(i:Int)+1=((i+1:Nat):Int) from by omega];refine⟨i+1,⟨⟨by omega,fun q hq=> ?_⟩,by omega⟩,id,(Zg id)⟩
     by_cases e:q=i
     ·subst e;exact h48
     ·exact hi2 q (by omega)
   ·intro h40;replace h40:=Znb h40;obtain⟨hi1,hi2⟩:=hi;refine zm (hEL2 _ _ _ (hX2 _ _ ?_));refine Zrs [2] ?_;refine ze (hQ _ _ ?_);refine zc (H':=⟨1,[]⟩) (.inl rfl) ?_;refine Zou ?_;refine⟨Zs,(Zg id),Zs,?_⟩;rw[z1j,qb (by omega),hgood,qb qp,z1y fun q hq=>hi2 q (by omega),qb qp];exact⟨rfl,by trivial⟩
end
section
def RosXm.exE:=aj9 @zg @zh @zq @zi @zo @zl z5u @zp (aj3 z47 z4n ec19)
def RosXm.axE:=aj9 @zg @zh @zq @zi @zo @zl z5u @zp (aj4 z47 z4n ec19 @z2e)
open RosWm (gxE)
open RosXm (axE exE)
open D0 (oxE sdE)
theorem refCheck_spec (xs:List Nd)(n:Nat)(hn:xs.length=n)(hx:n<=1000000):
  zf prog 83 [.slc false 0 0 0 n] ⟨1,[(0,uQ (.row ⟨false,false,62,3,n,nds xs⟩))]⟩
   (fun s H1=>s= .int .i64 (z1j xs)/\H1=⟨1,[]⟩):=by
 refine zf.ofC false 82 [.tmp 2] func83 rfl rfl ntmps83 results83 rfl ?_;intro w0 own0 β0 Q hQ hQn;simp only[z1c];refine Zrs [0] ?_;refine z6 ?_;refine Zrs [0,8] ?_;refine z7 _ rfl ?_ ?_
 ·intro h8;replace h8:=Znb h8;refine Zrs [2] ?_;refine ze (hQ _ _ ?_);refine zc (H':=⟨1,[]⟩) (.inl rfl) ?_;refine Zou ?_;refine⟨Zs,(Zg id),Zs,?_⟩;rw[z1j,qf (by omega)];exact⟨rfl,by trivial⟩
 ·intro h8;replace h8:=Znb h8;refine za (z6 ?_);refine Zrs [0,3] ?_;refine zb fun Q0 hN0 hX0 hR0 hE0=> ?_;refine zn (σ:=Nat) (fun i=>i<=n/\∀q,q<i->badN (nd xs q)=false) (fun i=>n-i) (fun i=>[(0,.slc false 0 0 0 n),(3,.int .i64 i)]) (fun _=>⟨1,[(0,uQ (.row ⟨false,false,62,3,n,nds xs⟩))]⟩) 0 ⟨qo _,fun q h=>by omega⟩ (ρ:=id) (Zg id) ?_;rintro i hi QL1 hL1 hRL1 hEL1;refine z6 ?_;refine Zrs [0,3,12] ?_;refine z7 _ rfl ?_ ?_
  ·intro h12;replace h12:=Znb h12;obtain⟨hi1,hi2⟩:=hi;refine za (z6 (zb fun Q1 hN1 hX1 hR1 hE1=> ?_));refine sg [0,3,46] rfl ?_;intro K hK
   have hk6:∀B:Bool,B=badN (nd xs i)->K [(0,.slc false 0 0 0 n),(3,.int .i64 i),(46,.bool B)] ⟨1,[(0,uQ (.row ⟨false,false,62,3,n,nds xs⟩))]⟩:=by
    intro B hB;subst hB;refine hK _ _ ?_;clear hK K;refine z7 _ rfl ?_ ?_
    ·intro h46
     refine Zrs [2] ?_;refine ze (hR1 _ _ (hRL1 _ _ (hR0 _ _ (hQ _ _ ?_))));refine zc (H':=⟨1,[]⟩) (.inl rfl) ?_;refine Zou ?_;refine⟨Zs,(Zg id),Zs,?_⟩;rw[z1j,qb (by omega),qf (z3p (i:=i) (by omega) h46)];exact⟨rfl,by trivial⟩
    ·intro h46
     refine za (zd (hN1 _ _ ?_));refine Zrg [0,3] ?_;refine zd (hL1 _ _ ?_);rw[show(i:Int)+1=((i+1:Nat):Int) from by omega];refine⟨i+1,⟨⟨by omega,fun q hq=> ?_⟩,by omega⟩,id,(Zg id)⟩
     by_cases e:q=i
     ·subst e;exact h46
     ·exact hi2 q (by omega)
   iterate 20 (refine Zo Zl ?_)
   refine z11 ?_;refine z1w rfl rfl ?_;refine Zgr ?_;refine z1r ?_ ?_
   ·intro hg20
    first
     |(simp at hg20;done)
     |skip
      try replace hg20:=Znb hg20
      refine Zo id ?_;refine Zc1 (refValidKey_spec (nd xs i).key) (id) ?_;refine Zo Zl ?_
      try with_reducible refine qe (by simp_all;done) ?_
      repeat(with_reducible apply qe;exact sdE)
      iterate 7 (refine Zo Zl ?_)
      refine z11 ?_;refine z1w rfl rfl ?_;refine Zgr ?_;refine z1r ?_ ?_
      ·intro hg29
       first
        |(simp at hg29;done)
        |skip
         try replace hg29:=Znb hg29
         refine Zo id ?_;refine Zc1 (refValidWord_spec (nd xs i).word) (id) ?_;refine Zo Zl ?_
         try with_reducible refine qe (by intro h;simp only[qr,qh,qi,qx,qk,qq,qj,qg,qv,qC,qU,ne_eq,Qm,Ql,qK,qy] at h;rcases hg29 with(h1|h1)|h1<;>first|omega|(rw[h.2] at h1;cases h1)) ?_
         repeat(with_reducible apply qe;exact sdE)
         refine Zo Zl ?_;refine z8 ?_;refine Zpr ?_;refine hk6 _ ?_;clear hk6;simp_all[badN]
      ·intro hg29;refine⟨.bool false,?_⟩
       first
        |(simp at hg29;done)
        |skip
         try replace hg29:=Znb hg29
         refine Zo Zl ?_
         try with_reducible refine qe (by intro h;simp only[qr,qh,qi,qx,qk,qq,qj,qg,qv,qC,qU,ne_eq,Qm,Ql,qK,qy] at h;rcases hg29 with(h1|h1)|h1<;>first|omega|(rw[h.2] at h1;cases h1)) ?_
         repeat(with_reducible apply qe;exact sdE)
         refine Zo Zl ?_;refine z8 ?_;refine Zpr ?_;refine hk6 _ ?_;clear hk6;simp_all[badN]
   ·intro hg20;refine⟨.bool false,?_⟩
    first
     |(simp at hg20;done)
     |skip
      try replace hg20:=Znb hg20
      refine Zo Zl ?_
      try with_reducible refine qe (by simp_all;done) ?_
      repeat(with_reducible apply qe;exact sdE)
      iterate 7 (refine Zo Zl ?_)
      refine z11 ?_;refine z1w rfl rfl ?_;refine Zgr ?_;refine z1r ?_ ?_
      ·intro hg29
       first
        |(simp at hg29;done)
        |skip
         try replace hg29:=Znb hg29
         refine Zo id ?_;refine Zc1 (refValidWord_spec (nd xs i).word) (id) ?_;refine Zo Zl ?_
         try with_reducible refine qe (by intro h;simp only[qr,qh,qi,qx,qk,qq,qj,qg,qv,qC,qU,ne_eq,Qm,Ql,qK,qy] at h;rcases hg29 with(h1|h1)|h1<;>first|omega|(rw[h.2] at h1;cases h1)) ?_
         repeat(with_reducible apply qe;exact sdE)
         refine Zo Zl ?_;refine z8 ?_;refine Zpr ?_;refine hk6 _ ?_;clear hk6;simp_all[badN]
      ·intro hg29;refine⟨.bool false,?_⟩
       first
        |(simp at hg29;done)
        |skip
         try replace hg29:=Znb hg29
         refine Zo Zl ?_
         try with_reducible refine qe (by intro h;simp only[qr,qh,qi,qx,qk,qq,qj,qg,qv,qC,qU,ne_eq,Qm,Ql,qK,qy] at h;rcases hg29 with(h1|h1)|h1<;>first|omega|(rw[h.2] at h1;cases h1)) ?_
         repeat(with_reducible apply qe;exact sdE)
         refine Zo Zl ?_;refine z8 ?_;refine Zpr ?_;refine hk6 _ ?_;clear hk6;simp_all[badN]
  ·intro h12;replace h12:=Znb h12;obtain⟨hi1,hi2⟩:=hi;have hgood:anyB xs.length (fun i=>badN (nd xs i))=false:=z1y fun q hq=>hi2 q (by omega);refine zm (hEL1 _ _ _ (hX0 _ _ (z6 ?_)));refine Zrs [0,4] ?_;refine zb fun Q2 hN2 hX2 hR2 hE2=> ?_;refine zn (σ:=Nat) (fun i=>i<=n/\∀q,q<i->(anyB q fun k=>twinN (nd xs k) (nd xs q))=false) (fun i=>n-i) (fun i=>[(0,.slc false 0 0 0 n),(4,.int .i64 i)]) (fun _=>⟨1,[(0,uQ (.row ⟨false,false,62,3,n,nds xs⟩))]⟩) 0 ⟨qo _,fun q h=>by omega⟩ (ρ:=id) (Zg id) ?_;rintro i hi QL2 hL2 hRL2 hEL2;refine z6 ?_;refine Zrs [0,4,50] ?_;refine z7 _ rfl ?_ ?_
   ·intro h50;replace h50:=Znb h50;obtain⟨hi1,hi2⟩:=hi;refine za (z6 (zb fun Q3 hN3 hX3 hR3 hE3=> ?_));refine Zrs [0,4,5] ?_;refine zb fun Q4 hN4 hX4 hR4 hE4=> ?_;refine zn (σ:=Nat) (fun k=>k<=i/\∀q,q<k->twinN (nd xs q) (nd xs i)=false) (fun k=>i-k) (fun k=>[(0,.slc false 0 0 0 n),(4,.int .i64 i),(5,.int .i64 k)]) (fun _=>⟨1,[(0,uQ (.row ⟨false,false,62,3,n,nds xs⟩))]⟩) 0 ⟨qo _,fun q h=>by omega⟩ (ρ:=id) (Zg id) ?_;rintro k hk QL3 hL3 hRL3 hEL3;refine z6 ?_;refine Zrs [0,4,5,55] ?_;refine z7 _ rfl ?_ ?_
    ·intro h55;replace h55:=Znb h55;obtain⟨hk1,hk2⟩:=hk;refine za (z6 (zb fun Q5 hN5 hX5 hR5 hE5=> ?_));refine z6 ?_;refine Zrd [0,4,5,81] [0,1,2,3,4,5,6,7,8,9,10,11,12,13,14,15,16,17,18,19,20,21,22,23] [[],[],[],[],[],[],[],[],[],[],[],[],[],[],[],[],[],[],[],[],[],[],[],[]] [[],[],[],[],[],[],[],[],[],[],[],[],[],[],[],[],[],[],[],[],[],[],[],[]] ?_;intro K hK;iterate 24 (refine Zo (Zi [] []) ?_)
     refine zx (Zpr (hK _ _ ?_));clear hK K;refine z7 _ rfl ?_ ?_
     ·intro h81;have hT:twinN (nd xs k) (nd xs i)=true:=by rw[twinN_comm];simpa [twinN] using h81
      refine Zrs [2] ?_;refine ze (hR5 _ _ (hRL3 _ _ (hR4 _ _ (hR3 _ _ (hRL2 _ _ (hR2 _ _ (hQ _ _ ?_)))))));refine zc (H':=⟨1,[]⟩) (.inl rfl) ?_;refine Zou ?_;refine⟨Zs,(Zg id),Zs,?_⟩;rw[z1j,qb (by omega),hgood,qb qp,qf (z3p (i:=i) (by omega) (z3p (i:=k) (by omega) hT))];exact⟨rfl,by trivial⟩
     ·intro h81;have hT:twinN (nd xs k) (nd xs i)=false:=by rw[twinN_comm];simpa [twinN] using h81
      refine za (zd (hN5 _ _ ?_));refine Zrg [0,4,5] ?_;refine zd (hL3 _ _ ?_);rw[show(k:Int)+1=((k+1:Nat):Int) from by omega];refine⟨k+1,⟨⟨by omega,fun q hq=> ?_⟩,by omega⟩,id,(Zg id)⟩
      by_cases e:q=k
      ·subst e;exact hT
      ·exact hk2 q (by omega)
    ·intro h55;replace h55:=Znb h55;obtain⟨hk1,hk2⟩:=hk;refine zm (hEL3 _ _ _ (hX4 _ _ (zd (hN3 _ _ ?_))));refine Zrg [0,4] ?_;refine zd (hL2 _ _ ?_);rw[show(i:Int)+1=((i+1:Nat):Int) from by omega];refine⟨i+1,⟨⟨by omega,fun q hq=> ?_⟩,by omega⟩,id,(Zg id)⟩
     by_cases e:q=i
     ·subst e;exact z1y fun k hk=>hk2 k (by omega)
     ·exact hi2 q (by omega)
   ·intro h50;replace h50:=Znb h50;obtain⟨hi1,hi2⟩:=hi;refine zm (hEL2 _ _ _ (hX2 _ _ ?_));refine Zrs [2] ?_;refine ze (hQ _ _ ?_);refine zc (H':=⟨1,[]⟩) (.inl rfl) ?_;refine Zou ?_;refine⟨Zs,(Zg id),Zs,?_⟩;rw[z1j,qb (by omega),hgood,qb qp,z1y fun q hq=>hi2 q (by omega),qb qp];exact⟨rfl,by trivial⟩
end
section
theorem z1a:z1s prog 35=⟨true,.int .i64,1,8,[]⟩:=by kernel_rfl
theorem z14:z2l prog 22=1:=by kernel_rfl
theorem app_ndsL (xs ys:List Nd):app (nds xs) xs.length (nds ys)=nds (xs++ys):=app_nds xs ys
theorem rowsOf_nd' (a:Int)(k:ByteArray)(w:Int):z42 3 1 [SV.int .i64 a,SV.str k,SV.int .u32 w]=nds [⟨a,k,w⟩]:=rowsOf_nd a k w
theorem take_nd {xs:List Nd}{j:Nat}(h:j<xs.length):xs.take (j+1)=xs.take j++[nd xs j]:=by
 rw[z3e h,QU h]
theorem filter_step {xs:List Nd}{j:Nat}(h:j<xs.length)(p:Nd->Bool):(xs.take (j+1)).filter p=(xs.take j).filter p++(if p (nd xs j) then [nd xs j] else []):=by
 rw[take_nd h,QW]
 congr 1
 simp only[yt,List.filter_nil]
def findI (xs:List Nd)(v:Int):Int:=idxB xs.length fun i=>decide ((nd xs i).id=v)
def findN (xs:List Nd)(v:Int):Nd:=if findI xs v<0 then noNd else nd xs (findI xs v).toNat
noncomputable def idsBox (m:Nat):Nat×(Nat->Sk.Obj):=uQ (.row ⟨false,true,22,1,1,fun _=>[.slc false 2 0 0 m]⟩)
def RosYm.exE:=aj9 @zg @zh @zq @zk @z1a @zi @zo @zl (aj9 z5u @zp z47 z4n ec19 @z19.eq_1 @z12.eq_1 @ints.eq_1 @idsBox.eq_1)
def RosYm.gxE:=aj9 z47 ec16 z4n @capsv_ren @capsv_lt ec19 @z19.eq_1 @z12.eq_1 (aj @ints.eq_1 @idsBox.eq_1)
def RosYm.axE:=aj9 @zg @zh @zq @zk @z1a @zi @zo @zl (aj9 z5u @zp z47 z4n ec19 @z19.eq_1 @z12.eq_1 @idsBox.eq_1 (aj @z1v @z2e))
def RosYm.oxE:= @zl
open RosYm (gxE axE oxE exE)
open D0 (sdE)
theorem find_spec (xs:List Nd)(v:Int)(n:Nat)(hn:xs.length=n)(hx:n<=1000000):
  zf prog 37 [.slc false 0 0 0 n,.int .i64 v] ⟨1,[(0,uQ (.row ⟨false,false,62,3,n,nds xs⟩))]⟩
   (fun s H1=>s= .tup [.agg (findN xs v).sv,.bool (decide (0<=findI xs v))]/\H1=⟨1,[]⟩):=by
 subst hn;refine zf.ofC false 17 [.cell 4 62,.tmp 5] func37 rfl rfl ntmps37 results37 rfl ?_;intro w0 own0 β0 Q hQ hQn;simp only[z1c];refine Zrs [0,3,4] ?_;refine sg [0,4,6] rfl ?_;intro K hK;iterate 2 (refine Zo Zl ?_)
 refine Zo Zl ?_;refine Zc1 (indexFunc_spec 78 (.num v) _ (findTest v) xs xs.length xs.length (qc _) hx) (id) ?_;have hI:idxB xs.length (fun i=>decide ((nd xs i).id=v))=findI xs v:=rfl;rw[hI];refine Zo Zl ?_;refine z8 (Zpr (hK _ _ ?_));clear hK K;refine z6 ?_;refine Zrs [0,4,6,11] ?_;refine z7 _ rfl ?_ ?_
 ·intro h11;replace h11:=Znb h11;refine Zrs [4,5] ?_;refine ze (hQ _ _ ?_);refine zc (H':=⟨1,[]⟩) (.inl rfl) ?_;refine Zou ?_;refine⟨Zs,(Zg id),Zs,?_⟩;rw[findN,qf h11,qM (by omega)]
  first|trivial|exact⟨rfl,trivial⟩
 ·intro h11;replace h11:=Znb h11
  have hlt:findI xs v<xs.length:=by
   rcases z3n xs.length (fun i=>decide ((nd xs i).id=v)) with⟨h,_⟩|⟨j,h,h1,_⟩
   ·rw[findI,h];omega
   ·rw[findI,h];omega
  refine za ?_;refine Zrs [4,5] ?_;refine ze (hQ _ _ ?_);refine zc (H':=⟨1,[]⟩) (.inl rfl) ?_;refine Zou ?_;refine⟨Zs,(Zg id),Zs,?_⟩;rw[findN,qb (by omega),qL h11]
  first|trivial|exact⟨rfl,trivial⟩
theorem refFind_spec (xs:List Nd)(v:Int)(n:Nat)(hn:xs.length=n)(hx:n<=1000000):
  zf prog 51 [.slc false 0 0 0 n,.int .i64 v] ⟨1,[(0,uQ (.row ⟨false,false,62,3,n,nds xs⟩))]⟩
   (fun s H1=>s= .tup [.agg (findN xs v).sv,.bool (decide (0<=findI xs v))]/\H1=⟨1,[]⟩):=by
 subst hn;refine zf.ofC false 25 [.cell 4 62,.tmp 5] func51 rfl rfl ntmps51 results51 rfl ?_;intro w0 own0 β0 Q hQ hQn;simp only[z1c];refine Zrs [0,1,4] ?_;refine z6 ?_;refine Zrs [0,1,4,6] ?_;refine zb fun Q0 hN0 hX0 hR0 hE0=> ?_;refine zn (σ:=Nat) (fun i=>i<=xs.length/\∀q,q<i->decide ((nd xs q).id=v)=false) (fun i=>xs.length-i) (fun i=>[(0,.slc false 0 0 0 xs.length),(1,.int .i64 v),(4,.ptr 1 0 0 0),(6,.int .i64 i)]) (fun _=>⟨2,[(1,uQ (.row ⟨true,true,62,3,1,fun _=>noNd.sv⟩)),(0,uQ (.row ⟨false,false,62,3,xs.length,nds xs⟩))]⟩) 0 ⟨qo _,fun q h=>by omega⟩ (ρ:=id) (have xE:=@noNd.eq_1;Zgx id) ?_;rintro i hi QL1 hL1 hRL1 hEL1;refine z6 ?_;refine Zrs [0,1,4,6,10] ?_;refine z7 _ rfl ?_ ?_
 ·intro h10;replace h10:=Znb h10;obtain⟨hi1,hi2⟩:=hi;refine za (z6 (zb fun Q1 hN1 hX1 hR1 hE1=> ?_));refine Zrs [0,1,4,6,19] ?_;refine z7 _ rfl ?_ ?_
  ·intro h19
   try replace h19:=Znb h19
   refine Zrs [4,5] ?_;refine ze (hR1 _ _ (hRL1 _ _ (hR0 _ _ (hQ _ _ ?_))));refine zc (H':=⟨1,[]⟩) (.inl rfl) ?_;refine Zou ?_;refine⟨Zs,(Zg id),Zs,?_⟩;have hI:findI xs v=i:=idxB_at (p:=fun i=>decide ((nd xs i).id=v)) (by simpa using h19) (by omega) hi2;rw[findN,qb (by omega),qL (by omega),hI]
   first|trivial|exact⟨rfl,trivial⟩
  ·intro h19
   try replace h19:=Znb h19
   refine za (zd (hN1 _ _ ?_));refine Zrg [0,1,4,6] ?_;refine zd (hL1 _ _ ?_);rw[show(i:Int)+1=((i+1:Nat):Int) from by omega];refine⟨i+1,⟨⟨by omega,fun q hq=> ?_⟩,by omega⟩,id,(have xE:=@noNd.eq_1;Zgx id)⟩
   by_cases e:q=i
   ·subst e;simpa using h19
   ·exact hi2 q (by omega)
 ·intro h10;replace h10:=Znb h10;obtain⟨hi1,hi2⟩:=hi;refine zm (hEL1 _ _ _ (hX0 _ _ ?_));refine Zrs [4,5] ?_;refine ze (hQ _ _ ?_);refine zc (H':=⟨1,[]⟩) (.inl rfl) ?_;refine Zou ?_;refine⟨Zs,(Zg id),Zs,?_⟩;have hI:findI xs v= -1:=idxB_none fun q hq=>hi2 q (by omega);rw[findN,qf (by omega),qM (by omega)];trivial
theorem refIs_spec (xs:List Nd)(n:Nat)(hn:xs.length=n)(hx:n<=1000000):
  zf prog 43 [.slc false 0 0 0 n] ⟨1,[(0,uQ (.row ⟨false,false,62,3,n,nds xs⟩))]⟩
   (fun s H1=>s= .bool (z1j xs==0)/\H1=⟨1,[]⟩):=by
 refine zf.ofC false 6 [.tmp 2] func43 rfl rfl ntmps43 results43 rfl ?_;intro w0 own0 β0 Q hQ hQn;simp only[z1c];refine Zrs [0] ?_;refine sg [2] rfl ?_;intro K hK;refine Zo Zl ?_;refine Zo Zl ?_;refine Zc1 (refCheck_spec xs n hn hx) (id) ?_;iterate 2 (refine Zo Zl ?_)
 refine z8 (Zpr (hK _ _ ?_));clear hK K;refine ze (hQ _ _ ?_);refine zc (H':=⟨1,[]⟩) (.inl rfl) ?_;refine Zou ?_;refine⟨Zs,(Zg id),Zs,?_⟩
 first|trivial|exact⟨rfl,trivial⟩
def hasI (ids:List Int)(v:Int):Bool:=anyB ids.length fun i=>decide (nth ids i=v)
theorem refHas_spec (ids:List Int)(v:Int)(m:Nat)(hm:ids.length=m)(hx:m<=1000000):
  zf prog 34 [.slc false 0 0 0 m,.int .i64 v] ⟨1,[(0,uQ (.row ⟨false,false,3,1,m,ints ids⟩))]⟩
   (fun s H1=>s= .bool (hasI ids v)/\H1=⟨1,[]⟩):=by
 refine zf.ofC false 18 [.tmp 4] func34 rfl rfl ntmps34 results34 rfl ?_;intro w0 own0 β0 Q hQ hQn;simp only[z1c];refine Zrs [0,1] ?_;refine z6 ?_;refine Zrs [0,1,5] ?_;refine zb fun Q0 hN0 hX0 hR0 hE0=> ?_;refine zn (σ:=Nat) (fun i=>i<=m/\∀q,q<i->decide (nth ids q=v)=false) (fun i=>m-i) (fun i=>[(0,.slc false 0 0 0 m),(1,.int .i64 v),(5,.int .i64 i)]) (fun _=>⟨1,[(0,uQ (.row ⟨false,false,3,1,m,ints ids⟩))]⟩) 0 ⟨qo _,fun q h=>by omega⟩ (ρ:=id) (Zg id) ?_;rintro i hi QL1 hL1 hRL1 hEL1;refine z6 ?_;refine Zrs [0,1,5,9] ?_;refine z7 _ rfl ?_ ?_
 ·intro h9;replace h9:=Znb h9;obtain⟨hi1,hi2⟩:=hi;refine za (z6 (zb fun Q1 hN1 hX1 hR1 hE1=> ?_));refine Zrs [0,1,5,17] ?_;refine z7 _ rfl ?_ ?_
  ·intro h17
   try replace h17:=Znb h17
   refine Zrs [4] ?_;refine ze (hR1 _ _ (hRL1 _ _ (hR0 _ _ (hQ _ _ ?_))));refine zc (H':=⟨1,[]⟩) (.inl rfl) ?_;refine Zou ?_;refine⟨Zs,(Zg id),Zs,?_⟩;rw[hasI,z3p (i:=i) (by omega) (by simpa using h17)]
   first|trivial|exact⟨rfl,trivial⟩
  ·intro h17
   try replace h17:=Znb h17
   refine za (zd (hN1 _ _ ?_));refine Zrg [0,1,5] ?_;refine zd (hL1 _ _ ?_);rw[show(i:Int)+1=((i+1:Nat):Int) from by omega];refine⟨i+1,⟨⟨by omega,fun q hq=> ?_⟩,by omega⟩,id,(Zg id)⟩
   by_cases e:q=i
   ·subst e;simpa using h17
   ·exact hi2 q (by omega)
 ·intro h9;replace h9:=Znb h9;obtain⟨hi1,hi2⟩:=hi;refine zm (hEL1 _ _ _ (hX0 _ _ ?_));refine Zrs [4] ?_;refine ze (hQ _ _ ?_);refine zc (H':=⟨1,[]⟩) (.inl rfl) ?_;refine Zou ?_;refine⟨Zs,(Zg id),Zs,?_⟩;rw[hasI,z1y fun q hq=>hi2 q (by omega)]
  first|trivial|exact⟨rfl,trivial⟩
theorem index_spec (ids:List Int)(v:Int)(m:Nat)(hm:ids.length=m)(hx:m<=1000000):
  zf prog 121 [.slc false 0 0 0 m,.int .i64 v] ⟨1,[(0,uQ (.row ⟨false,false,3,1,m,ints ids⟩))]⟩
   (fun s H1=>s= .int .i64 (idxB m fun i=>decide (nth ids i=v))/\H1=⟨1,[]⟩):=by
 refine zf.ofC false 19 [.tmp 4] func121 rfl rfl ntmps121 results121 rfl ?_;intro w0 own0 β0 Q hQ hQn;simp only[z1c];refine Zrs [0,1] ?_;refine z6 ?_;refine Zrs [0,1,7,8] ?_;refine zb fun Q0 hN0 hX0 hR0 hE0=> ?_;refine zn (σ:=Nat) (fun i=>i<=m/\∀q,q<i->decide (nth ids q=v)=false) (fun i=>m-i) (fun i=>[(0,.slc false 0 0 0 m),(1,.int .i64 v),(7,.int .i64 m),(8,.int .i64 i)]) (fun _=>⟨1,[(0,uQ (.row ⟨false,false,3,1,m,ints ids⟩))]⟩) 0 ⟨qo _,fun q h=>by omega⟩ (ρ:=id) (Zg id) ?_;rintro i hi QL1 hL1 hRL1 hEL1;refine Zrs [0,1,7,8,9] ?_;refine z6 ?_;refine z7 _ rfl ?_ ?_
 ·intro h9;replace h9:=Znb h9;obtain⟨hi1,hi2⟩:=hi;refine za (z6 (zb fun Q1 hN1 hX1 hR1 hE1=> ?_));refine Zrs [0,1,5,7,8] ?_;refine Zrs [0,1,5,7,8,16] ?_;refine z7 _ rfl ?_ ?_
  ·intro h16;have hT:decide (nth ids i=v)=true:=by simp at h16 ⊢;exact h16.symm
   refine Zrs [4] ?_;refine ze (hR1 _ _ (hRL1 _ _ (hR0 _ _ (hQ _ _ ?_))));refine zc (H':=⟨1,[]⟩) (.inl rfl) ?_;refine Zou ?_;refine⟨Zs,(Zg id),Zs,?_⟩;rw[idxB_at (j:=i) hT (by omega) hi2]
   first|trivial|exact⟨rfl,trivial⟩
  ·intro h16;have hT:decide (nth ids i=v)=false:=by simp at h16 ⊢;exact fun e=>h16 e.symm
   refine za (zd (hN1 _ _ ?_));refine Zrg [0,1,7,8] ?_;refine zd (hL1 _ _ ?_);rw[show(i:Int)+1=((i+1:Nat):Int) from by omega];refine⟨i+1,⟨⟨by omega,fun q hq=> ?_⟩,by omega⟩,id,(Zg id)⟩
   by_cases e:q=i
   ·subst e;exact hT
   ·exact hi2 q (by omega)
 ·intro h9;replace h9:=Znb h9;obtain⟨hi1,hi2⟩:=hi;refine zm (hEL1 _ _ _ (hX0 _ _ ?_));refine Zrs [4] ?_;refine ze (hQ _ _ ?_);refine zc (H':=⟨1,[]⟩) (.inl rfl) ?_;refine Zou ?_;refine⟨Zs,(Zg id),Zs,?_⟩;rw[idxB_none fun q hq=>hi2 q (by omega)]
  first|trivial|exact⟨rfl,trivial⟩
end
section
def bt (w:Int)(i:Nat):Bool:=(BitVec.ofInt 32 w).getLsbD i
def cmnF (a b:Int):Nat->Nat->Nat
 |0,n=>n
 |k+1,n=>if bt a n==bt b n then cmnF a b k (n+1) else n
def cmnW (a b:Int):Nat:=cmnF a b 16 0
theorem cmnF_spec (a b:Int):∀(k n:Nat),n<=cmnF a b k n/\cmnF a b k n<=n+k/\(∀i,n<=i->i<cmnF a b k n->bt a i=bt b i)/\(cmnF a b k n<n+k->bt a (cmnF a b k n)≠bt b (cmnF a b k n))
 |0,n=>⟨qc _,qc _,fun i h1 h2=>by simp only[cmnF] at h2;omega,fun h=>by simp only[cmnF] at h;omega⟩
 |k+1,n=>by
  obtain⟨h1,h2,h3,h4⟩:=cmnF_spec a b k (n+1);rw[cmnF]
  split
  ·rename_i he;rw[qv] at he;refine⟨by omega,by omega,fun i g1 g2=> ?_,fun h=>h4 (by omega)⟩
   by_cases e:i=n
   ·rw[e];exact he
   ·exact h3 i (by omega) g2
  ·rename_i he;exact⟨qc _,by omega,fun i g1 g2=>by omega,fun _ h=>he (by rw[qv];exact h)⟩
theorem cmnW_le (a b:Int):cmnW a b<=16:=by have:=(cmnF_spec a b 16 0).2.1;simpa [cmnW] using this
theorem cmnW_eq {a b:Int}{i:Nat}(h:i<cmnW a b):bt a i=bt b i:=(cmnF_spec a b 16 0).2.2.1 i (qo _) h
theorem cmnW_ne {a b:Int}(h:cmnW a b<16):bt a (cmnW a b)≠bt b (cmnW a b):=(cmnF_spec a b 16 0).2.2.2 (by simpa [cmnW] using h)
def z41 (a b lv:Int):Bool:=decide (lv<=cmnW a b)
theorem sameW_iff {a b lv:Int}:z41 a b lv=true↔lv<=16/\∀i:Nat,(i:Int)<lv->bt a i=bt b i:=by
 rw[z41,qj];have h1:=cmnW_le a b
 constructor
 ·intro h;exact⟨by omega,fun i hi=>cmnW_eq (by omega)⟩
 ·rintro⟨h2,h3⟩
  by_cases h:lv<=cmnW a b
  ·exact h
  ·exact absurd (h3 (cmnW a b) (by omega)) (cmnW_ne (by omega))
theorem sameW_refl {lv:Int}(h:lv<=16)(a:Int):z41 a a lv=true:=sameW_iff.2 ⟨h,fun _ _=>rfl⟩
theorem sameW_symm {a b lv:Int}(h:z41 a b lv=true):z41 b a lv=true:=sameW_iff.2 ⟨(sameW_iff.1 h).1,fun i hi=>((sameW_iff.1 h).2 i hi).symm⟩
theorem sameW_trans {a b c lv:Int}(h:z41 a b lv=true)(h':z41 b c lv=true):z41 a c lv=true:=sameW_iff.2 ⟨(sameW_iff.1 h).1,fun i hi=>((sameW_iff.1 h).2 i hi).trans ((sameW_iff.1 h').2 i hi)⟩
theorem sameW_comm (a b lv:Int):z41 a b lv=z41 b a lv:=by
 rw[Qe];exact⟨sameW_symm,sameW_symm⟩
theorem sameW_congr {a b c lv:Int}(h:z41 a b lv=true):z41 a c lv=z41 b c lv:=by
 rw[Qe];exact⟨fun g=>sameW_trans (sameW_symm h) g,fun g=>sameW_trans h g⟩
def grpW (l:List Nd)(lv w:Int):List Nd:=l.filter fun x=>z41 x.word w lv
def hdN (c:List Nd):Nd:=nd c 0
def insC (lv:Int)(x:Nd):List (List Nd)->List (List Nd)
 |[]=>[[x]]
 |c::cs=>if z41 (hdN c).word x.word lv then(c++[x])::cs else c::insC lv x cs
def clsG (lv:Int)(l:List Nd)(cs:List (List Nd)):List (List Nd):=l.foldl (fun cs x=>insC lv x cs) cs
def z4l (l:List Nd)(lv:Int):List (List Nd):=if 16<lv then [] else clsG lv l []
theorem hdN_append {c:List Nd}(h:c≠[])(x:Nd):hdN (c++[x])=hdN c:=by
 cases c with
 |nil=>exact absurd rfl h
 |cons a t=>rfl
structure ClsOk (lv:Int) (s:List Nd) (cs:List (List Nd)):Prop where
 ne:∀c∈cs,c≠[]
 eq:∀c∈cs,c=grpW s lv (hdN c).word
 pw:cs.Pairwise fun c d=>z41 (hdN c).word (hdN d).word lv=false
theorem insC_ok {lv:Int}(h16:lv<=16){s:List Nd}{x:Nd}:∀{cs:List (List Nd)},ClsOk lv s cs->(∀y∈s,z41 y.word x.word lv=true->∃c∈cs,z41 (hdN c).word y.word lv=true)->
  ClsOk lv (s++[x]) (insC lv x cs)/\(∃c∈insC lv x cs,x∈c)/\(∀c∈cs,∀y∈c,∃d∈insC lv x cs,y∈d)/\∀d∈insC lv x cs,(∃c∈cs,(hdN d).word=(hdN c).word)\/(hdN d).word=x.word
 |[],_,hc=>by
  have he:grpW s lv x.word=[]:=by
   rw[grpW,jS];intro y hy h;obtain⟨c,hm,_⟩:=hc y hy h
   cases hm
  refine⟨⟨fun c hm=> ?_,fun c hm=> ?_,List.pairwise_singleton ..⟩,⟨[x],qn ..,qn ..⟩,(fun c hm=>by cases hm),fun d hd=> ?_⟩
  ·rw[insC,qY] at hm;subst hm;simp
  ·rw[insC,qY] at hm;subst hm
   show [x]=grpW (s++[x]) lv x.word
   have h2:grpW [x] lv x.word=[x]:=by simp[grpW,sameW_refl h16]
   have h3:grpW (s++[x]) lv x.word=grpW s lv x.word++grpW [x] lv x.word:=QW ..;rw[h3,he,h2];rfl
  ·rw[insC,qY] at hd;subst hd;exact .inr rfl
 |c::cs,hok,hc=>by
  have hcn:=hok.ne c (qn ..);have hce:=hok.eq c (qn ..);obtain⟨hp1,hp2⟩:=QG.1 hok.pw;have ht:ClsOk lv s cs:=⟨fun d hd=>hok.ne d (ql _ hd),fun d hd=>hok.eq d (ql _ hd),hp2⟩;have hg:∀w,grpW (s++[x]) lv w=grpW s lv w++grpW [x] lv w:=fun w=>QW ..;rw[insC]
  split
  ·rename_i hs;have hg1:grpW [x] lv (hdN c).word=[x]:=by simp[grpW,sameW_symm hs]
   refine⟨⟨fun d hd=> ?_,fun d hd=> ?_,?_⟩,⟨_,qn ..,Qh _ (qY.2 rfl)⟩,fun d hd y hy=> ?_,fun d hd=> ?_⟩
   ·rcases qB.1 hd with rfl|hd
    ·simp
    ·exact ht.ne d hd
   ·rcases qB.1 hd with rfl|hd
    ·rw[hdN_append hcn,hg,hg1,<-hce]
    ·have hf:z41 (hdN c).word (hdN d).word lv=false:=hp1 d hd
     have:grpW [x] lv (hdN d).word=[]:=by
      rw[grpW,jS];intro y hy h;rw[qY] at hy;subst hy;rw[sameW_trans hs h] at hf;cases hf
     rw[hg,this,QN,<-ht.eq d hd]
   ·rw[QG];exact⟨fun d hd=>by rw[hdN_append hcn];exact hp1 d hd,hp2⟩
   ·rcases qB.1 hd with rfl|hd
    ·exact⟨_,qn ..,Qa _ hy⟩
    ·exact⟨d,ql _ hd,hy⟩
   ·rcases qB.1 hd with rfl|hd
    ·exact .inl ⟨c,qn ..,by rw[hdN_append hcn]⟩
    ·exact .inl ⟨d,ql _ hd,rfl⟩
  ·rename_i hs;have hs':z41 (hdN c).word x.word lv=false:=by simpa using hs
   obtain⟨i1,i2,i3,i4⟩:=insC_ok h16 ht (x:=x) fun y hy hyx=>by
    obtain⟨d,hd,hdy⟩:=hc y hy hyx;rcases qB.1 hd with rfl|hd
    ·rw[sameW_trans hdy hyx] at hs';cases hs'
    ·exact⟨d,hd,hdy⟩
   have hg1:grpW [x] lv (hdN c).word=[]:=by
    rw[grpW,jS];intro y hy h;rw[qY] at hy;subst hy;rw[sameW_symm h] at hs';cases hs'
   refine⟨⟨fun d hd=> ?_,fun d hd=> ?_,?_⟩,?_,fun d hd y hy=> ?_,fun d hd=> ?_⟩
   ·rcases qB.1 hd with rfl|hd
    ·exact hcn
    ·exact i1.ne d hd
   ·rcases qB.1 hd with rfl|hd
    ·rw[hg,hg1,QN];exact hce
    ·exact i1.eq d hd
   ·rw[QG];refine⟨fun d hd=> ?_,i1.pw⟩;rcases i4 d hd with⟨e,he,h⟩|h
    ·rw[h];exact hp1 e he
    ·rw[h];exact hs'
   ·obtain⟨d,hd,hx⟩:=i2;exact⟨d,ql _ hd,hx⟩
   ·rcases qB.1 hd with rfl|hd
    ·exact⟨_,qn ..,hy⟩
    ·obtain⟨e,he,hye⟩:=i3 d hd y hy;exact⟨e,ql _ he,hye⟩
   ·rcases qB.1 hd with rfl|hd
    ·exact .inl ⟨_,qn ..,rfl⟩
    ·rcases i4 d hd with⟨e,he,h⟩|h
     ·exact .inl ⟨e,ql _ he,h⟩
     ·exact .inr h
theorem clsG_ok {lv:Int}(h16:lv<=16):∀(l:List Nd) {s:List Nd} {cs:List (List Nd)},ClsOk lv s cs->(∀y∈s,∃c∈cs,y∈c)->ClsOk lv (s++l) (clsG lv l cs)/\∀y∈s++l,∃c∈clsG lv l cs,y∈c
 |[],s,cs,hok,hc=>by rw[QN];exact⟨hok,hc⟩
 |x::l,s,cs,hok,hc=>by
  have hin:∀c∈cs,∀y∈c,z41 y.word (hdN c).word lv=true:=fun c hm y hy=>by
   have:=hok.eq c hm;rw[this,grpW,ji] at hy;exact hy.2
  obtain⟨i1,i2,i3,_⟩:=insC_ok h16 hok (x:=x) fun y hy _=>by
   obtain⟨c,hm,hyc⟩:=hc y hy;exact⟨c,hm,sameW_symm (hin c hm y hyc)⟩
  have:=clsG_ok h16 l (s:=s++[x]) i1 fun y hy=>by
   rcases Qf.1 hy with hy|hy
   ·obtain⟨c,hm,hyc⟩:=hc y hy;exact i3 c hm y hyc
   ·rw[qY] at hy;subst hy;exact i2
  rw[QL] at this;exact this
theorem clsN_ok {lv:Int}(h16:lv<=16)(l:List Nd):ClsOk lv l (z4l l lv)/\∀y∈l,∃c∈z4l l lv,y∈c:=by
 rw[z4l,qb (by omega)];have:=clsG_ok h16 l (s:=[]) (cs:=[]) ⟨fun c h=>(by cases h),fun c h=>(by cases h),JH⟩ fun y h=>(by cases h);simpa using this
theorem cls_grp {lv:Int}(h16:lv<=16){l c:List Nd}(hc:c∈z4l l lv){x:Nd}(hx:x∈c):c=grpW l lv x.word:=by
 obtain⟨h1,h2⟩:=clsN_ok h16 l;have he:=h1.eq c hc
 have hw:z41 x.word (hdN c).word lv=true:=by
  rw[he,grpW,ji] at hx;exact hx.2
 rw[he];apply JK;intro y _;rw[sameW_comm y.word,sameW_comm y.word];exact(sameW_congr hw).symm
end
section
theorem wrap_u32 (n:Int):IntKind.u32.wrap n=n%4294967296:=by
 simp only[IntKind.wrap,IntKind.bits,IntKind.signed];simp
theorem low_bit {n:Nat}(h:0<n):∃k m,n=2^k*(2*m+1):=by
 induction n using Nat.strongRecOn with
 |_ n ih=>
  rcases Nat.mod_two_eq_zero_or_one n with h0|h1
  ·obtain⟨k,m,he⟩:=ih (n/2) (by omega) (by omega);refine⟨k+1,m,?_⟩;rw[Nat.pow_succ,Nat.mul_comm (2^k) 2,Nat.mul_assoc,<-he];omega
  ·exact⟨0,n/2,by omega⟩
theorem low_test (k m i:Nat):(2^k*(2*m+1)).testBit i=if i<k then false else(2*m+1).testBit (i-k):=by
 have:=Nat.testBit_two_pow_mul_add (2*m+1) (b:=0) (i:=k) (J0 k) i;rw[jg] at this;rw[this];simp
theorem low_pred (k m:Nat):2^k*(2*m+1)-1=2^k*(2*m)+(2^k-1):=by
 have h:=J0 k;rw[J7,jT];omega
theorem low_pred_test (k m i:Nat):(2^k*(2*m+1)-1).testBit i=if i<k then true else(2*m).testBit (i-k):=by
 rw[low_pred,Nat.testBit_two_pow_mul_add (2*m) (b:=2^k-1) (i:=k) (by have:=J0 k;omega) i]
 split
 ·rename_i h;rw[Nat.testBit_two_pow_sub_one];simp[h]
 ·rfl
theorem low_and {n k m:Nat}(hn:n=2^k*(2*m+1))(h32:n<4294967296):n &&& (4294967296-n)=2^k:=by
 have hpos:0<n:=by rw[hn];exact Nat.mul_pos (J0 k) (by omega)
 have hk:k<32:=by
  rcases qZ k 32 with h|h
  ·exact h
  ·have h1:2^32<=2^k:=Nat.pow_le_pow_right (by omega) h;have h2:2^k*1<=n:=by rw[hn];exact jA _ (by omega)
   omega
 apply Nat.eq_of_testBit_eq;intro i;rw[Nat.testBit_and,Nat.testBit_two_pow]
 have h1:(4294967296-n).testBit i=(decide (i<32) && !(n-1).testBit i):=by
  have:=Nat.testBit_two_pow_sub_succ (x:=n-1) (n:=32) (by omega) i;rw[show n-1+1=n by omega] at this;exact this
 rw[h1,hn,low_test,low_pred_test]
 by_cases e1:i<k
 ·simp[e1,show¬k=i by omega]
 ·rw[qb e1,qb e1]
  by_cases e2:i=k
  ·subst e2;simp[hk]
  ·obtain⟨j,hj⟩:∃j,i-k=j+1:=⟨i-k-1,by omega⟩;rw[hj,Nat.testBit_add_one,Nat.testBit_add_one,show(2*m+1)/2=m by omega,show 2*m/2=m by omega];have:¬k=i:=fun e=>e2 e.symm
   cases m.testBit j<;>simp[this]
theorem db_at:∀k:Nat,k<32->(2^k*125613361%4294967296)/134217728<32/\db32.getD ((2^k*125613361%4294967296)/134217728) 0=(k:Int):=by decide+kernel
def tzE (x:Int):Int:=(IntKind.u32.wrap (z3i .and .u32 x (IntKind.u32.wrap (0-x))*125613361)).fdiv (2^min 27 IntKind.u32.bits)
def tz32 (x:Int):Int:=if x=0 then 32 else db32.getD (tzE x).toNat 0
theorem bits_and (x y:Int):z3i .and .u32 x y=IntKind.u32.wrap ((BitVec.ofInt 32 x).toNat &&& (BitVec.ofInt 32 y).toNat:Nat):=rfl
theorem bits_xor (x y:Int):z3i .xor .u32 x y=IntKind.u32.wrap (BitVec.ofInt 32 x^^^BitVec.ofInt 32 y).toNat:=rfl
theorem ofInt_nat {n:Nat}(h:n<4294967296):(BitVec.ofInt 32 (n:Int)).toNat=n:=by
 rw[J8];omega
theorem pow_k {n k m:Nat}(hn:n=2^k*(2*m+1))(h32:n<4294967296):k<32:=by
 rcases qZ k 32 with h|h
 ·exact h
 ·have h1:2^32<=2^k:=Nat.pow_le_pow_right (by omega) h;have h2:2^k*1<=n:=by rw[hn];exact jA _ (by omega)
  omega
theorem neg_u32 {n:Nat}(h0:0<n)(h32:n<4294967296):IntKind.u32.wrap (0-(n:Int))=((4294967296-n:Nat):Int):=by rw[wrap_u32];omega
theorem wrap_nat {p:Nat}(h:p<4294967296):IntKind.u32.wrap (p:Int)=p:=by rw[wrap_u32];omega
theorem and_neg {n k m:Nat}(hn:n=2^k*(2*m+1))(h0:0<n)(h32:n<4294967296)(hp:2^k<4294967296):z3i .and .u32 (n:Int) (IntKind.u32.wrap (0-(n:Int)))=((2^k:Nat):Int):=by
 have h1:4294967296-n<4294967296:=by omega
 rw[neg_u32 h0 h32,bits_and,ofInt_nat h32,ofInt_nat h1,low_and hn h32];exact wrap_nat hp
theorem tzE_of {x:Int}{p:Nat}(h:z3i .and .u32 x (IntKind.u32.wrap (0-x))=(p:Int)):tzE x=((p*125613361%4294967296/134217728:Nat):Int):=by
 unfold tzE;rw[h,wrap_u32,show((2:Int)^min 27 IntKind.u32.bits)=134217728 from rfl,Int.fdiv_eq_ediv_of_nonneg _ (by omega)];omega
theorem pow_lt {k:Nat}(hk:k<32):2^k<4294967296:=by
 have h:2^k<2^32:=Nat.pow_lt_pow_right (by omega) hk;rw[show(2:Nat)^32=4294967296 by decide] at h;exact h
theorem tz_core {n:Nat}(h0:0<n)(h32:n<4294967296):∃k m:Nat,n=2^k*(2*m+1)/\k<32/\0<=tzE n/\tzE n<32/\db32.getD (tzE n).toNat 0=(k:Int):=by
 obtain⟨k,m,hn⟩:=low_bit h0;have hk:=pow_k hn h32;have g:=db_at k hk;have he:=tzE_of (and_neg hn h0 h32 (pow_lt hk));refine⟨k,m,hn,hk,?_⟩;rw[he,qz];exact⟨Int.natCast_nonneg _,Int.ofNat_lt.2 g.1,g.2⟩
theorem xor_nat (a b:Int):z3i .xor .u32 a b=((BitVec.ofInt 32 a^^^BitVec.ofInt 32 b).toNat:Int):=by
 have h:=(BitVec.ofInt 32 a^^^BitVec.ofInt 32 b).isLt;rw[bits_xor,wrap_u32]
 generalize (BitVec.ofInt 32 a^^^BitVec.ofInt 32 b).toNat=p at h
 omega
theorem xor_bit (a b:Int)(i:Nat):(BitVec.ofInt 32 a^^^BitVec.ofInt 32 b).toNat.testBit i=(bt a i !=bt b i):=by
 rw[BitVec.testBit_toNat,BitVec.getLsbD_xor];rfl
theorem tz_range {x:Int}(a b:Int)(hx:x=z3i .xor .u32 a b)(h0:x≠0):0<=tzE x/\tzE x<32:=by
 rw[xor_nat] at hx;obtain⟨k,m,_,_,h1,h2,_⟩:=tz_core (n:=(BitVec.ofInt 32 a^^^BitVec.ofInt 32 b).toNat) (by omega) (BitVec.isLt _);rw[hx];exact⟨h1,h2⟩
theorem tz_common (a b:Int):min (tz32 (z3i .xor .u32 a b)) 16=(cmnW a b:Int):=by
 have hle:=cmnW_le a b;unfold tz32
 by_cases h0:z3i .xor .u32 a b=0
 ·rw[qf h0];rw[xor_nat] at h0;have hn:(BitVec.ofInt 32 a^^^BitVec.ofInt 32 b).toNat=0:=by omega
  by_cases h:cmnW a b<16
  ·have:=xor_bit a b (cmnW a b);rw[hn,Nat.zero_testBit] at this;exact absurd (by simpa using this.symm) (cmnW_ne h)
  ·omega
 ·rw[qb h0,xor_nat];rw[xor_nat] at h0;obtain⟨k,m,hn,hk,_,_,hd⟩:=tz_core (n:=(BitVec.ofInt 32 a^^^BitVec.ofInt 32 b).toNat) (by omega) (BitVec.isLt _);rw[hd];have hb:∀i,(bt a i !=bt b i)=if i<k then false else(2*m+1).testBit (i-k):=fun i=>by rw[<-xor_bit,hn,low_test]
  have h1:∀i,i<k->bt a i=bt b i:=fun i hi=>by have:=hb i;rw[qf hi] at this;simpa using this
  have h2:bt a k≠bt b k:=by
   have:=hb k;rw[qb (j8 k),jm,Nat.testBit_zero] at this;intro e;rw[e] at this;simp at this
  rcases je (cmnW a b) k with h|h|h
  ·have:16<=cmnW a b:=by
    rcases qZ (cmnW a b) 16 with g|g
    ·exact absurd (h1 _ h) (cmnW_ne g)
    ·exact g
   omega
  ·omega
  ·exact absurd (cmnW_eq h) h2
theorem shift_bit (w:Int){i:Nat}(hi:i<32):(w.fdiv (2^i))%2=if bt w i then 1 else 0:=by
 obtain⟨j,hj⟩:∃j,32=i+(j+1):=⟨31-i,by omega⟩
 have hp:(4294967296:Int)=2^i*(2*2^j):=by
  rw[show(4294967296:Int)=2^32 from rfl,hj,Int.pow_add,Int.pow_succ,Int.mul_comm (2^j) 2]
 have h2:(0:Int)<2^i:=Int.pow_pos (by omega)
 have hbt:bt w i=decide ((w%4294967296).toNat/2^i%2=1):=by
  unfold bt;rw[<-BitVec.testBit_toNat,J8,Nat.testBit_eq_decide_div_mod_eq]
  rfl
 rw[Int.fdiv_eq_ediv_of_nonneg _ (by omega)]
 have hw:w/2^i=(w%4294967296)/2^i+(2*2^j)*(w/4294967296):=by
  have h1:w=w%4294967296+2^i*((2*2^j)*(w/4294967296)):=by
   rw[<-Int.mul_assoc,<-hp];omega
  calc w/2^i=(w%4294967296+2^i*((2*2^j)*(w/4294967296)))/2^i:=by rw[<-h1]
   _=_:=Int.add_mul_ediv_left _ _ (by omega)
 have hr:((w%4294967296).toNat:Int)=w%4294967296:=Int.toNat_of_nonneg (by omega)
 have hd:(w%4294967296)/2^i=(((w%4294967296).toNat/2^i:Nat):Int):=by
  rw[Int.natCast_ediv,hr,Int.natCast_pow];rfl
 rw[hw,hd,hbt,Int.mul_assoc]
 generalize (2:Int)^j*(w/4294967296)=X
 generalize (w%4294967296).toNat/2^i=Y
 by_cases hy:Y%2=1
 ·simp only[hy,JO,Qi];omega
 ·simp only[hy,decide_false,qw,Qo];omega
theorem and_one (w:Int){i:Nat}(hi:i<32):z3i .and .u32 (w.fdiv (2^i)) 1=if bt w i then 1 else 0:=by
 rw[bits_and,wrap_u32,show(BitVec.ofInt 32 1).toNat=1 from rfl,Nat.and_one_is_mod,J8,<-shift_bit w hi]
 generalize w.fdiv (2^i)=z
 omega
end
end Go.Proofs
namespace Go.Sk
open Go.RowKit
variable {X:Cx} {Q:Exit->Fr->AH->Prop} {fr:Fr} {H:AH} {l:List Code}
theorem Cs.regG {c:Code}{id:Nat}{ops:List Oper}(keep:List Nat)(hd:dstOk X.n ops=true)
  (h:∀K:Fr->AH->Prop,(∀fr H,Cs X (c::l) Q fr H->K fr H)->(∀fr H F G ρ,z5d X ρ fr H F G->K F G->K fr H)->runL X.P X.wrap X.m0 ops.toArray ops fr H (fun fr H=>K (prune keep fr) H)):Cs X (.region id ops.toArray false::c::l) Q fr H:=
 Cw.reg keep hd (h (fun fr H=>Cs X (c::l) Q fr H) (fun _ _ h=>h) (fun _ _ _ _ _ hg hk=>Cs.give _ hg hk))
end Go.Sk
namespace Go.Proofs
open Tryz
open Go.Sk
theorem Tryz.tyU8:z1s prog 5=⟨true,.int .u8,1,1,[]⟩:=by kernel_rfl
theorem Tryz.tyTab32:z1s prog 211=⟨true,.array 32 5,32,32,[]⟩:=by kernel_rfl
theorem Tryz.szU8:z2l prog 5=1:=by kernel_rfl
theorem Tryz.tabDb:tabBG prog 1=true:=by kernel_rfl
theorem db_range (i:Nat):0<=db32.getD i 0/\db32.getD i 0<=31:=by
 rcases qZ i 32 with h|h
 ·exact(by decide+kernel:∀i:Nat,i<32->0<=db32.getD i 0/\db32.getD i 0<=31) i h
 ·have:db32.getD i 0=0:=by simp[List.getD,show db32.length<=i from h]
  rw[this];omega
theorem wrap_u64n {i:Nat}(hi:i<16):IntKind.u64.wrap (i:Int)=i:=by
 simp only[IntKind.wrap,IntKind.bits,IntKind.signed];simp;omega
theorem shift_nat {i:Nat}(hi:i<16):min i IntKind.u32.bits=i:=by
 show min i 32=i
 omega
def ec20:=aj4 @Tryz.tyU8 @Tryz.tyTab32 @Tryz.szU8 @Tryz.tabDb
def InDm.exE:=aj9 @zg @zh @zi @zo @zl z5u @zp z47 (aj3 z4n ec20 @Tryz.tyU64)
def InDm.gxE:=aj3 z47 ec16 z4n
def InDm.axE:=aj9 @zg @zh @zi @zo @zl z5u @zp z47 (aj4 z4n ec20 @Tryz.tyU64 @z2e)
open InDm (gxE axE exE)
open D0 (oxE sdE)
theorem tz_spec (a b:Int):
  zf prog 189 [.int .u32 (z3i .xor .u32 a b)] ⟨0,[]⟩ (fun s H1=>s= .int .i64 (tz32 (z3i .xor .u32 a b))/\H1=⟨0,[]⟩):=by
 refine zf.ofC false 14 [.tmp 2] func189 rfl rfl ntmps189 results189 rfl ?_;intro w0 own0 β0 Q hQ hQn;simp only[z1c];refine Zrs [0] ?_;refine z6 ?_;refine Zrs [0,4] ?_;refine z7 _ rfl ?_ ?_
 ·intro h4
  refine Zrs [2] ?_;refine ze (hQ _ _ ?_);rw[show tz32 (z3i .xor .u32 a b)=32 by rw[tz32,qf (by simpa using h4)]];refine zc (H':=⟨0,[]⟩) (.inl rfl) ?_;refine Zou ?_;refine⟨Zs,(Zg id),Zs,?_⟩
  all_goals first|trivial|exact⟨rfl,trivial⟩
 ·intro h4;have h0:z3i .xor .u32 a b≠0:=by simpa using h4
  have hr:=tz_range a b rfl h0;refine za ?_;refine sg [2] rfl ?_;intro K hK;iterate 6 (refine Zo Zl ?_)
  rw[show(IntKind.u32.wrap (z3i .and .u32 (z3i .xor .u32 a b) (IntKind.u32.wrap (0-z3i .xor .u32 a b))*125613361)).fdiv (2^min 27 IntKind.u32.bits)=tzE (z3i .xor .u32 a b) from rfl];repeat(with_reducible apply qe;exact sdE)
  iterate 2 (refine Zo Zl ?_)
  have hdb:0<=db32.getD (tzE (z3i .xor .u32 a b)).toNat 0/\db32.getD (tzE (z3i .xor .u32 a b)).toNat 0<=31:=db_range _;repeat(with_reducible apply qe;exact sdE)
  iterate 2 (refine Zo Zl ?_)
  refine z8 (Zpr (hK _ _ ?_));clear hK K;refine ze (hQ _ _ ?_);rw[show tz32 (z3i .xor .u32 a b)=db32.getD (tzE (z3i .xor .u32 a b)).toNat 0 by rw[tz32,qb h0]];refine zc (H':=⟨0,[]⟩) (.inl rfl) ?_;refine Zou ?_;refine⟨Zs,(Zg id),Zs,?_⟩
  all_goals first|trivial|exact⟨rfl,trivial⟩
theorem common_spec (a b:Int):
  zf prog 159 [.int .u32 a,.int .u32 b] ⟨0,[]⟩ (fun s H1=>s= .int .i64 (cmnW a b)/\H1=⟨0,[]⟩):=by
 refine zf.ofC false 10 [.tmp 4] func159 rfl rfl ntmps159 results159 rfl ?_;intro w0 own0 β0 Q hQ hQn;simp only[z1c];refine Zrs [0,1] ?_;refine sg [4] rfl ?_;intro K hK;iterate 3 (refine Zo Zl ?_)
 refine Zo Zl ?_;refine Zc1 (tz_spec a b) (id) ?_;refine Zo Zl ?_;rw[tz_common a b];repeat(with_reducible apply qe;exact sdE)
 refine Zo Zl ?_;refine z8 (Zpr (hK _ _ ?_));clear hK K;refine ze (hQ _ _ ?_);refine zc (H':=⟨0,[]⟩) (.inl rfl) ?_;refine Zou ?_;refine⟨Zs,(Zg id),Zs,?_⟩
 all_goals first|trivial|exact⟨rfl,trivial⟩
theorem same_w_spec (a b lv:Int):
  zf prog 127 [.int .u32 a,.int .u32 b,.int .i64 lv] ⟨0,[]⟩ (fun s H1=>s= .bool (z41 a b lv)/\H1=⟨0,[]⟩):=by
 refine zf.ofC false 12 [.tmp 6] func127 rfl rfl ntmps127 results127 rfl ?_;intro w0 own0 β0 Q hQ hQn;simp only[z1c];refine Zrs [0,1,2] ?_;refine sg [6] rfl ?_;intro K hK;iterate 3 (refine Zo Zl ?_)
 refine Zo Zl ?_;refine Zc1 (common_spec a b) (id) ?_;iterate 2 (refine Zo Zl ?_)
 refine z8 (Zpr (hK _ _ ?_));clear hK K;refine ze (hQ _ _ ?_);refine zc (H':=⟨0,[]⟩) (.inl rfl) ?_;refine Zou ?_;refine⟨Zs,(Zg id),Zs,?_⟩
 all_goals first|trivial|exact⟨rfl,trivial⟩
theorem bit_spec (a:Int)(i:Nat)(hi:i<16):
  zf prog 177 [.int .u32 a,.int .i64 i] ⟨0,[]⟩ (fun s H1=>s= .int .i64 (if bt a i then 1 else 0)/\H1=⟨0,[]⟩):=by
 refine zf.ofC false 17 [.tmp 4] func177 rfl rfl ntmps177 results177 rfl ?_;intro w0 own0 β0 Q hQ hQn;simp only[z1c];refine Zrs [0,1] ?_;refine z6 ?_;refine Zrs [0,1,10] ?_;refine z7 _ rfl ?_ ?_
 ·intro h10
  exfalso;simp only[qr,qh,qi,qx,qk,qq,qj,qg,qv,qC,qU,ne_eq,Qm,Ql,qK,qy] at h10;omega
 ·intro h10
  refine za ?_;refine sg [4] rfl ?_;intro K hK;iterate 3 (refine Zo Zl ?_)
  rw[wrap_u64n hi];repeat(with_reducible apply qe;exact sdE)
  iterate 2 (refine Zo Zl ?_)
  rw[show min i IntKind.u32.bits=i from shift_nat hi,and_one a (by omega)];repeat(with_reducible apply qe;exact sdE)
  iterate 2 (refine Zo Zl ?_)
  refine z8 (Zpr (hK _ _ ?_));clear hK K;refine ze (hQ _ _ ?_);refine zc (H':=⟨0,[]⟩) (.inl rfl) ?_;refine Zou ?_;refine⟨Zs,(Zg id),Zs,?_⟩
  all_goals first|trivial|exact⟨rfl,trivial⟩
theorem refCommon_spec (a b:Int):
  zf prog 143 [.int .u32 a,.int .u32 b] ⟨0,[]⟩ (fun s H1=>s= .int .i64 (cmnW a b)/\H1=⟨0,[]⟩):=by
 refine zf.ofC false 20 [.tmp 4] func143 rfl rfl ntmps143 results143 rfl ?_;intro w0 own0 β0 Q hQ hQn;simp only[z1c];refine Zrs [0,1] ?_;refine Zrs [0,1,5] ?_;refine z6 (zb fun Q0 hN0 hX0 hR0 hE0=> ?_);refine zn (σ:=Nat) (fun i=>i<=16/\cmnF a b (16-i) i=cmnW a b) (fun i=>16-i) (fun i=>[(0,.int .u32 a),(1,.int .u32 b),(5,.int .i64 i)]) (fun _=>⟨0,[]⟩) 0 ⟨qo _,rfl⟩ (ρ:=id) (Zg id) ?_;rintro i hi QL1 hL1 hRL1 hEL1;refine z6 ?_;refine sg [0,1,5,16] rfl ?_;intro K hK
 have hk2:i<=16/\cmnF a b (16-i) i=cmnW a b->∀B:Bool,B=(decide (i<16) && (bt a i==bt b i))->K [(0,.int .u32 a),(1,.int .u32 b),(5,.int .i64 i),(16,.bool B)] ⟨0,[]⟩:=by
  intro hi B hB;subst hB;refine hK _ _ ?_;clear hK K;refine z7 _ rfl ?_ ?_
  ·intro h16;replace h16:=Znb h16;refine za (zb fun Q1 hN1 hX1 hR1 hE1=> ?_);refine Zrg [0,1,5] ?_;refine zd (hN1 _ _ (zd (hL1 _ _ ?_)));rw[show(i:Int)+1=((i+1:Nat):Int) from by omega];refine⟨i+1,⟨⟨by omega,?_⟩,by omega⟩,id,(Zg id)⟩;rw[<-hi.2,show 16-i=(16-(i+1))+1 by omega,cmnF,qf (by rw[h16.2];simp)]
  ·intro h16
   have hs:cmnF a b (16-i) i=i:=by
    by_cases e:i<16
    ·rw[show 16-i=(15-i)+1 by omega,cmnF,qb];intro g;simp only[e,g,JO,Bool.and_self] at h16
     cases h16
    ·rw[show 16-i=0 by omega];rfl
   refine zm (hEL1 _ _ _ (hX0 _ _ ?_));refine Zrs [4] ?_;refine ze (hQ _ _ ?_);rw[<-hi.2,hs];refine zc (H':=⟨0,[]⟩) (.inl rfl) ?_;refine Zou ?_;refine⟨Zs,(Zg id),Zs,?_⟩
   all_goals first|trivial|exact⟨rfl,trivial⟩
 iterate 5 (refine Zo Zl ?_)
 refine z11 ?_;refine z1w rfl rfl ?_;refine Zgr ?_;refine z1r ?_ ?_
 ·intro hg5
  first
   |(simp at hg5;done)
   |skip
    try replace hg5:=Znb hg5
    refine Zo id ?_;refine Zc1 (bit_spec a i (by omega)) (id) ?_;iterate 2 (refine Zo Zl ?_)
    refine z11 ?_;refine z1w rfl rfl ?_;refine Zgr ?_;refine z1r ?_ ?_
    ·intro hg8
     first
      |(simp at hg8;done)
      |skip
       try replace hg8:=Znb hg8
       refine Zo id ?_;refine Zc1 (bit_spec b i (by omega)) (id) ?_;iterate 2 (refine Zo Zl ?_)
       refine z8 ?_;refine Zpr ?_;refine hk2 hi _ ?_
       cases bt a i<;>cases bt b i<;>simp<;>omega
    ·intro hg8;refine⟨.int .i64 0,?_⟩
     first
      |(simp at hg8;done)
      |skip
       try replace hg8:=Znb hg8
       iterate 2 (refine Zo Zl ?_)
       refine z8 ?_;refine Zpr ?_;refine hk2 hi _ ?_
       cases bt a i<;>cases bt b i<;>simp<;>omega
 ·intro hg5;refine⟨.int .i64 0,?_⟩
  first
   |(simp at hg5;done)
   |skip
    try replace hg5:=Znb hg5
    iterate 2 (refine Zo Zl ?_)
    refine z11 ?_;refine z1w rfl rfl ?_;refine Zgr ?_;refine z1r ?_ ?_
    ·intro hg8
     first
      |(simp at hg8;done)
      |skip
       try replace hg8:=Znb hg8
       refine Zo id ?_;refine Zc1 (bit_spec b i (by omega)) (id) ?_;iterate 2 (refine Zo Zl ?_)
       refine z8 ?_;refine Zpr ?_;refine hk2 hi _ ?_
       cases bt a i<;>cases bt b i<;>simp<;>omega
    ·intro hg8;refine⟨.int .i64 0,?_⟩
     first
      |(simp at hg8;done)
      |skip
       try replace hg8:=Znb hg8
       iterate 2 (refine Zo Zl ?_)
       refine z8 ?_;refine Zpr ?_;refine hk2 hi _ ?_
       cases bt a i<;>cases bt b i<;>simp<;>omega
theorem refSame_w_spec (a b lv:Int):
  zf prog 107 [.int .u32 a,.int .u32 b,.int .i64 lv] ⟨0,[]⟩ (fun s H1=>s= .bool (z41 a b lv)/\H1=⟨0,[]⟩):=by
 refine zf.ofC false 12 [.tmp 6] func107 rfl rfl ntmps107 results107 rfl ?_;intro w0 own0 β0 Q hQ hQn;simp only[z1c];refine Zrs [0,1,2] ?_;refine sg [6] rfl ?_;intro K hK;iterate 3 (refine Zo Zl ?_)
 refine Zo Zl ?_;refine Zc1 (refCommon_spec a b) (id) ?_;iterate 2 (refine Zo Zl ?_)
 refine z8 (Zpr (hK _ _ ?_));clear hK K;refine ze (hQ _ _ ?_);refine zc (H':=⟨0,[]⟩) (.inl rfl) ?_;refine Zou ?_;refine⟨Zs,(Zg id),Zs,?_⟩
 all_goals first|trivial|exact⟨rfl,trivial⟩
end Go.Proofs
namespace Go.Sk
open Go.RowKit
section
abbrev Pn:=Nat->Nat->Nat×Nat
mutual
def SV.renP (π:Pn):SV->SV
 |.ptr id k i j=> .ptr (π id k).1 (π id k).2 i j
 |.slc g id k o n=> .slc g (π id k).1 (π id k).2 o n
 |.mp id k=> .mp (π id k).1 (π id k).2
 |.fn f l=> .fn f (SV.renPL π l)
 |.agg l=> .agg (SV.renPL π l)
 |.tup l=> .tup (SV.renPL π l)
 |.gd g s=> .gd g (SV.renP π s)
 |.ifc t s=> .ifc t (SV.renP π s)
 |s=>s
def SV.renPL (π:Pn):List SV->List SV
 |[]=>[]
 |s::l=>SV.renP π s::SV.renPL π l
end
def Env.viaP (β:Env)(π:Pn):Env:=fun id k=>β (π id k).1 (π id k).2
mutual
theorem z48 {β:Env}{π:Pn}:∀(s:SV) (v:Value),den β (s.renP π) v↔den (β.viaP π) s v
 |.int ..,_=>QS
 |.bool _,_=>QS
 |.str _,_=>QS
 |.nilp,_=>QS
 |.nils,_=>QS
 |.nilfn,_=>QS
 |.raw _,_=>QS
 |.ptr ..,_=>QS
 |.slc ..,_=>QS
 |.mp ..,_=>QS
 |.fn f l,v=>by
  simp only[SV.renP,den];exact⟨fun⟨vs,h,e⟩=>⟨vs,(z5x l vs).1 h,e⟩,fun⟨vs,h,e⟩=>⟨vs,(z5x l vs).2 h,e⟩⟩
 |.agg l,v=>by
  simp only[SV.renP,den];exact⟨fun⟨vs,h,e⟩=>⟨vs,(z5x l vs).1 h,e⟩,fun⟨vs,h,e⟩=>⟨vs,(z5x l vs).2 h,e⟩⟩
 |.tup l,v=>by
  simp only[SV.renP,den];exact⟨fun⟨vs,h,e⟩=>⟨vs,(z5x l vs).1 h,e⟩,fun⟨vs,h,e⟩=>⟨vs,(z5x l vs).2 h,e⟩⟩
 |.ifc t s,v=>by
  simp only[SV.renP,den];exact⟨fun⟨u,h,e⟩=>⟨u,(z48 s u).1 h,e⟩,fun⟨u,h,e⟩=>⟨u,(z48 s u).2 h,e⟩⟩
 |.gd g s,v=>by
  simp only[SV.renP,den];exact⟨fun⟨h,e⟩=>⟨fun hg=>(z48 s v).1 (h hg),e⟩,fun⟨h,e⟩=>⟨fun hg=>(z48 s v).2 (h hg),e⟩⟩
theorem z5x {β:Env}{π:Pn}:∀(l:List SV) (vs:List Value),z2p β (SV.renPL π l) vs↔z2p (β.viaP π) l vs
 |[],_=>QS
 |s::l,vs=>by
  simp only[SV.renPL,z2p];exact⟨fun⟨v,r,h1,h2,e⟩=>⟨v,r,(z48 s v).1 h1,(z5x l r).1 h2,e⟩,fun⟨v,r,h1,h2,e⟩=>⟨v,r,(z48 s v).2 h1,(z5x l r).2 h2,e⟩⟩
end
theorem renPL_eq (π:Pn):∀l:List SV,SV.renPL π l=l.map (SV.renP π)
 |[]=>rfl
 |s::l=>by simp[SV.renPL,renPL_eq π l]
theorem scalar_renP (π:Pn)(s:SV):(s.renP π).scalar=s.scalar:=by cases s<;>rfl
def zr (π:Pn)(r r':Row):Prop:=
 (r'.own=true->r.own=true/\r'.e=r.e)/\r'.sz=r.sz/\r'.n<=r.n/\∀i,i<r'.n->r.f i=SV.renPL π (r'.f i)
def mapGivesP (π:Pn):z2y->z2y->Prop
 |.ints n h g z,.ints n' h' g' z'=>n'=n/\(∀a,h' a=h a)/\(∀a,g a=(g' a).renP π)/\z=z'.renP π
 |.prs n h g z,.prs n' h' g' z'=>n'=n/\(∀a b,h' a b=h a b)/\(∀a b,g a b=(g' a b).renP π)/\z=z'.renP π
 |_,_=>False
theorem mapGivesP_all {π:Pn}{M M':z2y}(h:mapGivesP π M M'):M'.n=M.n/\(∀v,M'.has v=M.has v)/\(∀v,M.val v=(M'.val v).renP π)/\M.z=M'.z.renP π:=by
 cases M<;>cases M'<;>simp only[mapGivesP] at h
 all_goals
  obtain⟨h1,h2,h3,h4⟩:=h;refine⟨h1,fun v=> ?_,fun v=> ?_,h4⟩<;>simp only[z2y.has,z2y.val]<;>split<;>first|exact h2 _|exact h2 _ _|exact h3 _|exact h3 _ _|exact h4|rfl
def zt (π:Pn):Obj->Obj->Prop
 |.row r,.row r'=>zr π r r'
 |.blk w p,.blk w' p'=>(w'=true->w=true)/\p=p'
 |.mapo w p,.mapo w' p'=>(w'=true->w=true)/\mapGivesP π p p'
 |_,_=>False
theorem objGivesP_own {π:Pn}{o o':Obj}(h:zt π o o')(ho:o'.own=true):o.own=true:=by
 cases o<;>cases o'<;>simp only[zt] at h
 ·exact(h.1 ho).1
 ·exact h.1 ho
 ·exact h.1 ho
theorem z2g {π:Pn}{o o':Obj}(h:zt π o o'):o≠ .gone:=by
 cases o<;>cases o'<;>simp only[zt] at h<;>simp
theorem objGivesP_holds {π:Pn}{o o':Obj}(h:zt π o o'){β:Env}{w:World}{q:Option Loc}(hh:o.holds β w q):o'.holds (β.viaP π) w q:=by
 cases o<;>cases o'<;>simp only[zt] at h
 ·rename_i r r';obtain⟨h1,h2,h3,h4⟩:=h;rcases hh with⟨hn,hq⟩|⟨L,hq,e1,e2,e3,e4⟩
  ·exact .inl ⟨by omega,hq⟩
  ·refine .inr ⟨L,hq,by omega,e2,fun i hi=> ?_,fun ho=> ?_⟩
   ·have:=e3 i (by omega);rw[h4 i hi] at this;refine⟨by rw[renPL_eq,qA] at this;omega,fun j s hs=> ?_⟩;have hj:(SV.renPL π (r'.f i))[j]? =some (s.renP π):=by rw[renPL_eq,qG,hs];rfl
    obtain⟨c1,v,c2,c3⟩:=this.2 j _ hj;exact⟨by rw[<-scalar_renP π];exact c1,v,c2,(z48 s v).1 c3⟩
   ·obtain⟨a,b,c,cur,d,e⟩:=e4 (h1 ho).1;exact⟨a,by omega,c,cur,by rw[(h1 ho).2];exact d,by rw[h2];exact e⟩
 ·obtain⟨_,rfl⟩:=h;exact hh
 ·obtain⟨L,b,hq,hb,es,clk,e1,e2,e6,e3,e4,e5⟩:=hh;obtain⟨q1,q2,q3,q4⟩:=mapGivesP_all h.2;refine⟨L,b,hq,hb,es,clk,e1,e2.trans q1.symm,e6,fun k=>by rw[q2];exact e3 k,fun e he=> ?_,fun k hk v hv=> ?_⟩
  ·have:=e4 e he;rw[q3] at this;exact(z48 _ _).1 this
  ·have:=e5 k (by rw[<-q2];exact hk) v (by rw[q4];exact(z48 _ _).2 hv);rw[q3] at this;exact(z48 _ _).1 this
structure z5g (X:Cx) (π:Pn) (fr:Fr) (H:AH) (fr':Fr) (H':AH):Prop where
 fr:∀t s,get fr' t=some s->get fr t=some (s.renP π)/\s.lt H'.nxt
 os:∀id k o',look H'.os id k=some o'->id<H'.nxt/\o'.lt H'.nxt/\∃o,look H.os (π id k).1 (π id k).2=some o/\zt π o o'
 inj:∀id k o id' k' o',look H'.os id k=some o->look H'.os id' k'=some o'->o.own=true->π id k=π id' k'->id=id'/\k=k'
 fix:∀id k,id<X.m0->π id k=(id,k)
 m0:X.m0<=H'.nxt
 keep:∀id k,id<X.m0->(∃o,look H.os id k=some o/\o.own=true)->∃o,look H'.os id k=some o/\o.own=true
 big:∀id k o,X.m0<=id->look H'.os id k=some o->o.own=true->X.m0<=(π id k).1
theorem z5g.frOk {X:Cx}{π:Pn}{fr fr':Fr}{H H':AH}(h:z5g X π fr H fr' H'){β:Env}{a:Act}(hF:FrOk X β H.nxt fr a):FrOk X (β.viaP π) H'.nxt fr' a:=
 ⟨hF.defers,hF.size,fun t s hs=>by
  obtain⟨h1,h2⟩:=h.fr t s hs;obtain⟨_,v,h3,h4⟩:=hF.get t _ h1
  exact⟨h2,v,h3,(z48 s v).1 h4⟩⟩
theorem z5g.st {X:Cx}{π:Pn}{fr fr':Fr}{H H':AH}(h:z5g X π fr H fr' H'){β:Env}{w:World}(hS:St X β H w):St X (β.viaP π) H' w where
 os:=hS.os
 tape:=hS.tape
 output:=hS.output
 size:=hS.size
 fix id k hl:=by
  show β (π id k).1 (π id k).2=_
  rw[h.fix id k hl];exact hS.fix id k hl
 holds id k o hl:=by
  obtain⟨_,_,o0,h1,h2⟩:=h.os _ _ _ hl;exact objGivesP_holds h2 (hS.holds _ _ _ h1)
 sep id k id' k' o o' L L' hl hl' ho hb hb' he:=by
  obtain⟨_,_,o0,h1,h2⟩:=h.os _ _ _ hl;obtain⟨_,_,o1,h3,h4⟩:=h.os _ _ _ hl';have:=hS.sep _ _ _ _ _ _ _ _ h1 h3 (objGivesP_own h2 ho) hb hb' he;exact h.inj _ _ _ _ _ _ hl hl' ho (Prod.ext this.1 this.2)
 old b hb hn:=hS.old b hb fun id k o L hl ho hbb he=>by
  rcases hS.mine _ _ _ _ hl ho hbb with⟨h1,_⟩|⟨_,h2⟩
  ·obtain⟨o',q1,q2⟩:=h.keep id k h1 ⟨o,hl,ho⟩;refine hn id k o' L q1 q2 ?_ he
   show β (π id k).1 (π id k).2=_
   rw[h.fix id k h1];exact hbb
  ·omega
 mine id k o L hl ho hb:=by
  obtain⟨hlt,_,o0,h1,h2⟩:=h.os _ _ _ hl;rcases hS.mine _ _ _ _ h1 (objGivesP_own h2 ho) hb with⟨q1,q2⟩|⟨q1,q2⟩
  ·by_cases hm:id<X.m0
   ·rw[h.fix id k hm] at q2;exact .inl ⟨hm,q2⟩
   ·have:=h.big id k o (by omega) hl ho;omega
  ·by_cases hm:id<X.m0
   ·have:=h.fix id k hm;rw[this] at q1;simp only at q1;omega
   ·exact .inr ⟨by omega,q2⟩
 keep id k ho:=by
  obtain⟨q1,o,q2,q3⟩:=hS.keep id k ho;exact⟨q1,h.keep id k q1 ⟨o,q2,q3⟩⟩
 m0:=h.m0
 lt id k o hl:=by
  obtain⟨h1,h2,_⟩:=h.os _ _ _ hl;exact⟨h1,h2⟩
 tabs:=hS.tabs
 drawn:=hS.drawn
def mvP (ρ:Nat->Nat)(f j a:Nat):Pn:=fun id k=>if id=f/\k=j+1 then(a,0) else(ρ id,k)
def frGivesP (π:Pn)(m:Nat)(fr:Fr):Fr->Prop
 |[]=>True
 |(t,s)::l=>(get fr t=some (s.renP π)/\s.lt m)/\frGivesP π m fr l
theorem frGivesP_ok {π:Pn}{m:Nat}{fr:Fr}:∀{fr':Fr},frGivesP π m fr fr'->∀t s,get fr' t=some s->get fr t=some (s.renP π)/\s.lt m
 |[],_,_,_,h=>by simp[get] at h
 |(u,s0)::l,h,t,s,hs=>by
  simp only[get] at hs
  split at hs
  ·rename_i he
   cases hs;subst he
   exact h.1
  ·exact frGivesP_ok h.2 t s hs
def z1m (ρ:Nat->Nat)(f j a m:Nat)(os:List (Nat×Nat×(Nat->Obj))):List (Nat×Nat×(Nat->Obj))->Prop
 |[]=>True
 |(id,c',F')::l=>
  ((match find os (ρ id) with
   |some (c,F)=> ∀k,k<c'->¬(id=f/\k=j+1)->k<c/\zt (mvP ρ f j a) (F k) (F' k)/\(F' k).lt m
   |none=>False)/\
   (id=f->match find os a with
   |some (c,F)=>0<c/\zt (mvP ρ f j a) (F 0) (F' (j+1))/\(F' (j+1)).lt m
   |none=>False))/\id<m/\z1m ρ f j a m os l
theorem z1m.get {ρ:Nat->Nat}{f j a m:Nat}{os:List (Nat×Nat×(Nat->Obj))}:∀{os':List (Nat×Nat×(Nat->Obj))},z1m ρ f j a m os os'->∀id c' F',(id,c',F')∈os'->∀k,k<c'->F' k≠ .gone->
  id<m/\(F' k).lt m/\∃o,look os (mvP ρ f j a id k).1 (mvP ρ f j a id k).2=some o/\zt (mvP ρ f j a) o (F' k)
 |[],_,_,_,_,hm=>by cases hm
 |(i,c1,F1)::l,h,id,c',F',hm=>by
  obtain⟨⟨h1,h1'⟩,h2,h3⟩:=h
  cases hm with
  |head=>
   intro k hk hg
   by_cases hj:i=f/\k=j+1
   ·obtain⟨rfl,rfl⟩:=hj;have:=h1' rfl
    split at this
    ·rename_i c F hf;obtain⟨q1,q2,q3⟩:=this;refine⟨h2,q3,F 0,?_,q2⟩;simp only[mvP,J4,Qi];exact(z10 hf q1).trans (Obj.opt_of (z2g q2))
    ·exact this.elim
   ·split at h1
    ·rename_i c F hf;obtain⟨q1,q2,q3⟩:=h1 k hk hj;refine⟨h2,q3,F k,?_,q2⟩;have e:mvP ρ f j a i k=(ρ i,k):=qb hj;rw[e];exact(z10 hf q1).trans (Obj.opt_of (z2g q2))
    ·exact h1.elim
  |tail _ hm=>exact z1m.get h3 id c' F' hm
theorem z5g.mk' {X:Cx}{fr:Fr}{H:AH}{fr':Fr}{H':AH}(ρ:Nat->Nat)(f j a:Nat)(h1:frGivesP (mvP ρ f j a) H'.nxt fr fr')(h2:z1m ρ f j a H'.nxt H.os H'.os)(h3:injB ρ H'.os=true)(h3u:ownU H'.os)
  (h3a:(H'.os.all fun x=> !(ρ x.1==a))=true) (h4:(List.range X.m0).all (fun id=>ρ id==id)=true)
  (h5:X.m0<=H'.nxt) (h5f:X.m0<=f) (h5a:X.m0<=a) (h6:∀x∈H.os,x.1<X.m0->∀k,(x.2.2 k).own=(x.2.2 0).own) (h7:keepB X.m0 H.os H'.os) (h8:bigB X.m0 ρ H'.os=true):z5g X (mvP ρ f j a) fr H fr' H' where
 fr:=frGivesP_ok h1
 os id k o' hl:=by
  have hg:=z3s hl;obtain⟨c,F,hf,hk,rfl⟩:=z1h hl;exact h2.get _ _ _ (z1l hf) k hk hg
 inj id k o id' k' o' hl hl' ho he:=by
  have hna:∀{id k:Nat} {o:Obj},look H'.os id k=some o->ρ id≠a:=fun {id k o} h e=>by
   obtain⟨c,F,hf,hk,rfl⟩:=z1h h;have:=qu.1 h3a _ (z1l hf);simp[e] at this
  have hij:InjOn ρ H'.os:= .of h3 h3u;unfold mvP at he
  split at he
  ·rename_i h
   split at he
   ·rename_i h';exact⟨h.1.trans h'.1.symm,h.2.trans h'.2.symm⟩
   ·simp only[ju] at he;exact absurd he.1.symm (hna hl')
  ·split at he
   ·simp only[ju] at he;exact absurd he.1 (hna hl)
   ·simp only[ju] at he;exact⟨hij _ _ _ _ _ _ hl hl' ho he.1,he.2⟩
 fix id k hid:=by
  have:=qu.1 h4 id (Qd.2 hid);unfold mvP;rw[qb (by omega)];rw[qv] at this;rw[this]
 m0:=h5
 keep id k hid ho:=by
  obtain⟨o,ho1,ho2⟩:=ho;obtain⟨c,F,hf,hk,rfl⟩:=z1h ho1;have:=h7 _ (z1l hf) hid (by have:=h6 _ (z1l hf) hid k;simp only at this;rw[<-this];exact ho2);simp only at this
  split at this
  ·rename_i c' F' hf';exact⟨F' k,(z10 hf' (by omega)).trans (Obj.opt_of fun e=>by have:=this.2 k;rw[e] at this;cases this),this.2 k⟩
  ·exact this.elim
 big id k o h0 hl ho:=by
  obtain⟨c,F,hf,hk,rfl⟩:=z1h hl;have h9:=qu.1 h8 _ (z1l hf);have h10:=h3u _ (z1l hf) k;simp only[qr,qj,qk] at h9;simp only at h10;rw[<-h10,ho] at h9;unfold mvP
  split
  ·exact h5a
  ·rcases h9 with(h9|h9)|h9
   ·omega
   ·exact h9
   ·cases h9
section
variable {X:Cx} {Q:Exit->Fr->AH->Prop} {fr:Fr} {H:AH} {l:List Code}
theorem z4o {c:Code}{fr':Fr}{H':AH}(π:Pn)(hg:z5g X π fr H fr' H')(h:Cs X (c::l) Q fr' H'):Cs X (c::l) Q fr H:=fun _ a w hF hS=>h _ a w (hg.frOk hF) (hg.st hS)
theorem z2x {c:Code}(e:TypeId)(sz:Nat)(G:Nat->Obj)(h:Cs X (c::l) Q fr ⟨H.nxt+1,(H.nxt,0+1,fam true e sz G)::H.os⟩):Cs X (c::l) Q fr H:=fun β a w hF hS=>by
 have hag:=Env.agree_set β H.nxt (fun _=>none);refine h (β.set H.nxt fun _=>none) a w (hF.agree (QO H.nxt) hag) ?_;refine St.new' hS (fun k L _ he=>by cases he) (fun k k' L L' h h' he he' _=>by cases he) (fun k hk=> ?_) (fun k hk=> ?_)
 ·have:k=0:=by omega
  subst this;exact .inl ⟨rfl,rfl⟩
 ·have:k=0:=by omega
  subst this;intro i j s hi _;exact absurd hi (qR _)
end
end
section
theorem fam_gives {ρ:Nat->Nat}{o o':Bool}{e e':TypeId}{sz sz':Nat}{G G':Nat->Obj}{n m:Nat}:
  (∀k,k<n+1->z1d ρ (fam o e sz G k) (fam o' e' sz' G' k)/\(fam o' e' sz' G' k).lt m)↔((o'=true->o=true/\e'=e)/\sz'=sz)/\∀i,i<n->z1d ρ (G i) (G' i)/\(G' i).lt m:=by
 constructor
 ·intro h;refine⟨?_,fun i hi=>h (i+1) (by omega)⟩;have:=(h 0 (by omega)).1;simp only[fam,z1d,z3g] at this;exact⟨this.1,this.2.1⟩
 ·rintro⟨⟨h1,h2⟩,h3⟩ k hk
  cases k with
  |zero=>
   refine⟨?_,fun i j s hi _=>absurd hi (qR _)⟩;simp only[fam,z1d,z3g];exact⟨h1,h2,qc _,fun i hi=>absurd hi (qR _)⟩
  |succ i=>exact h3 i (by omega)
theorem fam_gives' {ρ:Nat->Nat}{o o':Bool}{e e':TypeId}{sz sz':Nat}{G G':Nat->Obj}{n m:Nat}:
  (∀k,k<=n->z1d ρ (fam o e sz G k) (fam o' e' sz' G' k)/\(fam o' e' sz' G' k).lt m)↔((o'=true->o=true/\e'=e)/\sz'=sz)/\∀i,i<n->z1d ρ (G i) (G' i)/\(G' i).lt m:=by
 rw[<-fam_gives];exact⟨fun h k hk=>h k (by omega),fun h k hk=>h k (by omega)⟩
theorem fam_g0 {ρ:Nat->Nat}{o o':Bool}{e e':TypeId}{sz sz':Nat}{G G':Nat->Obj}:z1d ρ (fam o e sz G 0) (fam o' e' sz' G' 0)↔(o'=true->o=true/\e'=e)/\sz'=sz:=by
 simp only[fam,z1d,z3g];exact⟨fun h=>⟨h.1,h.2.1⟩,fun h=>⟨h.1,h.2,qc _,fun i hi=>absurd hi (qR _)⟩⟩
theorem fam_l0 (o:Bool)(e:TypeId)(sz:Nat)(G:Nat->Obj)(m:Nat):(fam o e sz G 0).lt m:=fun i j s hi _=>absurd hi (qR _)
theorem app_at (f:Nat->List SV)(n:Nat)(g:Nat->List SV):app f n g n=g 0:=by simp[app]
theorem rows_nil1:z42 1 1 [SV.nils] 0=[SV.nils]:=rfl
theorem mapo_lt (o:Bool)(n:Nat)(h:Int->Bool)(g:Int->SV)(z:SV)(m:Nat):(Obj.mapo o (.ints n h g z)).lt m↔z.lt m/\∀a,(g a).lt m:=by
 constructor
 ·exact fun⟨h1,h2⟩=>⟨h1,fun a=>h2 (.int .i64 a)⟩
 ·rintro⟨h1,h2⟩;refine⟨h1,fun v=> ?_⟩;simp only[z2y.val]
  split
  ·exact h2 _
  ·exact h1
theorem fam_own (o:Bool)(e:TypeId)(sz:Nat)(G:Nat->Obj):(∀k,(fam o e sz G k).own=o)↔∀i,(G i).own=o:=by
 constructor
 ·exact fun h i=>h (i+1)
 ·intro h k
  cases k with
  |zero=>rfl
  |succ i=>exact h i
theorem fam_own1 {o:Bool}{e:TypeId}{sz:Nat}{G:Nat->Obj}(h:∀i,(G i).own=o)(k:Nat):(fam o e sz G k).own=o:=(fam_own o e sz G).2 h k
theorem z3z (ρ:Nat->Nat)(o:Bool)(e:TypeId)(sz:Nat)(G:Nat->Obj):(fun k=>(fam o e sz G k).ren ρ)=fam o e sz (fun i=>(G i).ren ρ):=by
 funext k
 cases k<;>rfl
theorem fam_givesP {π:Pn}{o o':Bool}{e e':TypeId}{sz sz':Nat}{G G':Nat->Obj}{c c' f id j m:Nat}(hid:id=f)(h1:(o'=true->o=true/\e'=e)/\sz'=sz)(h0:0<c)(h:∀i,i+1<c'->i≠j->i+1<c/\zt π (G i) (G' i)/\(G' i).lt m):
  ∀k,k<c'->¬(id=f/\k=j+1)->k<c/\zt π (fam o e sz G k) (fam o' e' sz' G' k)/\(fam o' e' sz' G' k).lt m:=by
 intro k hk hn
 cases k with
 |zero=>
  refine⟨h0,?_,fun i j s hi _=>absurd hi (qR _)⟩;simp only[fam,zt,zr];exact⟨h1.1,h1.2,qc _,fun i hi=>absurd hi (qR _)⟩
 |succ i=>exact h i hk fun e=>hn ⟨hid,by omega⟩
theorem z1g {ρ:Nat->Nat}{f j a m:Nat}{os l:List (Nat×Nat×(Nat->Obj))}{id c:Nat}{F:Nat->Obj}{o':Obj}(hf:find os (ρ id)=some (c,F))(hc:0<c)(hid:id≠f)(h:zt (mvP ρ f j a) (F 0) o')(hl:o'.lt m)(hm:id<m)(ht:z1m ρ f j a m os l):z1m ρ f j a m os ((id,uQ o')::l):=by
 refine⟨⟨?_,fun e=>absurd e hid⟩,hm,ht⟩;rw[hf];intro k hk _
 have hk0:k=0:=by
  have:k<1:=hk;omega
 subst hk0;exact⟨hc,h,hl⟩
theorem z4f {ρ:Nat->Nat}{f j a m:Nat}{os l:List (Nat×Nat×(Nat->Obj))}{c c' ca:Nat}{Fa:Nat->Obj}{o o':Bool}{e e':TypeId}{sz sz':Nat}{G G':Nat->Obj}(hf:find os (ρ f)=some (c,fam o e sz G))(hfa:find os a=some (ca,Fa))(hca:0<ca)
  (h1:(o'=true->o=true/\e'=e)/\sz'=sz) (h0:0<c) (h:∀i,i+1<c'->i≠j->i+1<c/\zt (mvP ρ f j a) (G i) (G' i)/\(G' i).lt m) (ha:zt (mvP ρ f j a) (Fa 0) (G' j)) (hal:(G' j).lt m) (hm:f<m) (ht:z1m ρ f j a m os l):
  z1m ρ f j a m os ((f,(c',fam o' e' sz' G'))::l):=by
 refine⟨⟨?_,fun _=> ?_⟩,hm,ht⟩
 ·rw[hf];exact fam_givesP rfl h1 h0 h
 ·rw[hfa];exact⟨hca,ha,hal⟩
theorem z1m.consO {ρ:Nat->Nat}{f j a m:Nat}{os l:List (Nat×Nat×(Nat->Obj))}{id c c':Nat}{o o':Bool}{e e':TypeId}{sz sz':Nat}{G G':Nat->Obj}(hf:find os (ρ id)=some (c,fam o e sz G))(hid:id≠f)
  (h1:(o'=true->o=true/\e'=e)/\sz'=sz) (hc:c'<=c) (h:∀i,i+1<c'->zt (mvP ρ f j a) (G i) (G' i)/\(G' i).lt m) (hm:id<m) (ht:z1m ρ f j a m os l):
  z1m ρ f j a m os ((id,(c',fam o' e' sz' G'))::l):=by
 refine⟨⟨?_,fun e=>absurd e hid⟩,hm,ht⟩;rw[hf];intro k hk _
 cases k with
 |zero=>
  refine⟨by omega,?_,fun i j s hi _=>absurd hi (qR _)⟩;simp only[fam,zt,zr];exact⟨h1.1,h1.2,qc _,fun i hi=>absurd hi (qR _)⟩
 |succ i=>exact⟨by omega,h i hk⟩
theorem zr.of {π:Pn}{r r':Row}(h1:r'.own=true->r.own=true/\r'.e=r.e)(h2:r'.sz=r.sz)(h3:r'.n<=r.n)(h4:∀i,i<r'.n->r.f i=SV.renPL π (r'.f i)):zt π (.row r) (.row r'):=⟨h1,h2,h3,h4⟩
end
end Go.Sk
namespace Go.Proofs
open Tryz
open Go.Sk
theorem Tryz.tyNodess:z1s prog 131=⟨true,.slice 23,1,24,[]⟩:=by kernel_rfl
theorem Tryz.szNodess:z2l prog 131=1:=by kernel_rfl
def cnd (cs:List (List Nd))(i:Nat):List Nd:=cs.getD i []
def clR (g:Bool)(f:Nat)(cs:List (List Nd)):Nat->List SV:=fun i=>[.slc g f (i+1) 0 (cnd cs i).length]
def clF (o:Bool)(cs:List (List Nd)):Nat->Sk.Obj:=fun i=> .row ⟨o,false,62,3,(cnd cs i).length,nds (cnd cs i)⟩
theorem clR_ap (g:Bool)(f:Nat)(cs:List (List Nd))(i:Nat):clR g f cs i=[.slc g f (i+1) 0 (cnd cs i).length]:=rfl
theorem clR_fold (g:Bool)(f:Nat)(cs:List (List Nd)):(fun i=>[SV.slc g f (i+1) 0 (cnd cs i).length])=clR g f cs:=rfl
theorem clF_ap (o:Bool)(cs:List (List Nd))(i:Nat):clF o cs i= .row ⟨o,false,62,3,(cnd cs i).length,nds (cnd cs i)⟩:=rfl
theorem clR_ren (ρ:Nat->Nat)(g:Bool)(f:Nat)(cs:List (List Nd)):(fun i=>SV.renL ρ (clR g f cs i))=clR g (ρ f) cs:=by funext i;simp[clR,SV.renL,SV.ren]
theorem clR_ren' (ρ:Nat->Nat)(g:Bool)(f:Nat)(cs:List (List Nd))(i:Nat):SV.renL ρ (clR g f cs i)=clR g (ρ f) cs i:=jH (clR_ren ρ g f cs) i
theorem clR_lt (m:Nat)(g:Bool)(f:Nat)(cs:List (List Nd))(i:Nat):SV.ltL m (clR g f cs i)↔f<m:=by simp[clR,SV.ltL,SV.lt]
theorem clF_gives (ρ:Nat->Nat)(o o':Bool)(cs:List (List Nd))(i:Nat):z1d ρ (clF o cs i) (clF o' cs i)↔(o'=true->o=true):=by
 simp[clF,z1d,z3g,nds_ren']
theorem clFm_lt (m:Nat)(o:Bool)(cs:List (List Nd))(i:Nat):(clF o cs i).lt m:=Obj.lt_row.2 fun q _=>z4u m _ q
theorem clF_own (o:Bool)(cs:List (List Nd))(i:Nat):(clF o cs i).own=o:=rfl
theorem clF_fown (o:Bool)(e:Go.TypeId)(sz:Nat)(cs:List (List Nd))(k:Nat):(fam o e sz (clF o cs) k).own=o:=fam_own1 (clF_own o cs) k
theorem clF_ren (ρ:Nat->Nat)(o:Bool)(cs:List (List Nd)):(fun i=>(clF o cs i).ren ρ)=clF o cs:=by
 funext i;simp[clF,Obj.ren,Row.ren,z2e]
theorem cnd_lt {cs:List (List Nd)}{i:Nat}(h:i<cs.length):cnd cs i=cs[i]:=by simp[cnd,List.getD,h]
noncomputable def lvBox (lv:Int):Nat×(Nat->Sk.Obj):=uQ (.row ⟨false,true,3,1,1,fun _=>[.int .i64 lv]⟩)
noncomputable def ndBox (x:Nd):Nat×(Nat->Sk.Obj):=uQ (.row ⟨false,true,62,3,1,fun _=>[.int .i64 x.id,.str x.key,.int .u32 x.word]⟩)
theorem z33 (π:Pn)(xs:List Nd)(i:Nat):SV.renPL π (nds xs i)=nds xs i:=by simp[nds,Nd.sv,SV.renPL,SV.renP]
theorem clR_renP (ρ:Nat->Nat)(g:Bool)(f j a:Nat)(cs:List (List Nd))(i:Nat):SV.renPL (mvP ρ f j a) (clR g f cs i)=if i=j then [.slc g a 0 0 (cnd cs i).length] else [.slc g (ρ f) (i+1) 0 (cnd cs i).length]:=by
 simp only[clR,SV.renPL,SV.renP,mvP,QT,j6]
 split<;>rfl
theorem clF_givesP (π:Pn)(o o':Bool)(cs cs':List (List Nd))(i:Nat)(h:o'=true->o=true)(e:cnd cs' i=cnd cs i):zt π (clF o cs i) (clF o' cs' i):=⟨fun h2=>⟨h h2,rfl⟩,rfl,by rw[e];exact qc _,fun q _=>by rw[e];exact(z33 π _ q).symm⟩
theorem clF_newP (π:Pn)(n:Nat)(l:List Nd)(cs:List (List Nd))(i:Nat)(hn:l.length=n)(e:cnd cs i=l):zt π (.row ⟨true,false,62,3,n,nds l⟩) (clF true cs i):=⟨fun _=>⟨rfl,rfl⟩,rfl,by rw[e,hn];exact qc _,fun q _=>by rw[e];exact(z33 π _ q).symm⟩
theorem cnd_append {cs:List (List Nd)}{c:List Nd}{i:Nat}(h:i<cs.length):cnd (cs++[c]) i=cnd cs i:=by simp[cnd,List.getD,Qv h]
theorem cnd_last (cs:List (List Nd))(c:List Nd):cnd (cs++[c]) cs.length=c:=by simp[cnd,List.getD]
theorem cnd_set (cs:List (List Nd))(k i:Nat)(c:List Nd)(h:k<cs.length):cnd (cs.set k c) i=if i=k then c else cnd cs i:=by
 simp only[cnd,List.getD,JL]
 by_cases e:k=i
 ·subst e;simp[h]
 ·rw[qb e,qb (fun h=>e h.symm)]
def ec21:=aj @ndBox.eq_1 @lvBox.eq_1
def ec22:=aj @Tryz.tyNodess @Tryz.szNodess
def ec23:=aj @clR_ap @clF_ap
def ec24:=aj @rowsOf_nd' @app_ndsL
def InEm.exE:=aj9 @zg @zh @zi @zo @zl z5u @zp z47 (aj6 z4n ec21 ec22 @z2h ec23 ec24)
def ec25:=aj5 @clR_ren' @clR_lt @clF_gives @clFm_lt @clF_fown
def ec26:=aj3 @fam_gives @fam_gives' @fam_own
def InEm.gxE:=aj6 z47 ec16 z4n ec21 ec25 ec26
def ec27:=aj @clF_ren @clR_ren
def InEm.axE:=aj9 @zg @zh @zi @zo @zl z5u @zp z47 (aj8 z4n ec21 ec22 @z2h ec24 @z2e @z3z ec27)
open InEm (gxE axE exE)
open D0 (oxE sdE)
theorem clsTest_spec (cs:List (List Nd))(k:Nat)(x:Nd)(lv:Int)(hk:k<cs.length)(hne:cnd cs k≠[]):
  zf prog 126 [.slc true 0 (k+1) 0 (cnd cs k).length,.ptr 1 0 0 0,.ptr 2 0 0 0] ⟨3,[(0,(cs.length+1,fam false 62 3 (clF false cs))),(1,ndBox x),(2,lvBox lv)]⟩
   (fun s H1=>s= .bool (z41 (hdN (cnd cs k)).word x.word lv)/\H1=⟨3,[]⟩):=by
 have hl:0<(cnd cs k).length:=J2.2 hne;unfold ndBox lvBox;refine zf.ofC false 13 [.tmp 4] func126 rfl rfl ntmps126 results126 rfl ?_;intro w0 own0 β0 Q hQ hQn;simp only[z1c];refine Zrs [0,1,2] ?_;refine z6 ?_;refine Zrd [4] [0,1,2,3,4,5,6,7,8] [[],[],[],[],[],[],[],[0,1,2],[]] [[],[],[],[],[],[],[],[0,1,2],[0,1,2]] ?_;intro K hK;iterate 7 (refine Zo (Zi [] []) ?_)
 refine Zo (Zi [0,1,2] [0,1,2]) ?_;refine Zc1 (same_w_spec (nd (cnd cs k) 0).word x.word lv) (id) ?_;refine Zo (Zi [] [0,1,2]) ?_;refine zx (Zpr (hK _ _ ?_));clear hK K;refine ze (hQ _ _ ?_);refine zc (H':=⟨3,[]⟩) (.inl rfl) ?_;refine Zou ?_;refine⟨Zs,(Zg id),Zs,?_⟩
 all_goals first|trivial|exact⟨rfl,trivial⟩
theorem clsIndex_spec (cs:List (List Nd))(n:Nat)(hn:cs.length=n)(x:Nd)(lv:Int)(hx:n<=1000000)(hne:∀k,k<cs.length->cnd cs k≠[]):
  zf prog 125 [.slc false 0 0 0 n,.fn 126 [.ptr 2 0 0 0,.ptr 3 0 0 0]] ⟨4,[(0,uQ (.row ⟨false,false,23,1,n,clR true 1 cs⟩)),(1,(n+1,fam false 62 3 (clF false cs))),(2,ndBox x),(3,lvBox lv)]⟩
   (fun s H1=>s= .int .i64 (idxB n fun i=>z41 (hdN (cnd cs i)).word x.word lv)/\H1=⟨4,[]⟩):=by
 subst hn;refine zf.ofC false 19 [.tmp 4] func125 rfl rfl ntmps125 results125 rfl ?_;intro w0 own0 β0 Q hQ hQn;simp only[z1c];refine Zrs [0,1] ?_;refine z6 ?_;refine Zrs [0,1,7,8] ?_;refine zb fun Q0 hN0 hX0 hR0 hE0=> ?_;refine zn (σ:=Nat) (fun i=>i<=cs.length/\∀q,q<i->z41 (hdN (cnd cs q)).word x.word lv=false) (fun i=>cs.length-i) (fun i=>[(0,.slc false 0 0 0 cs.length),(1,.fn 126 [.ptr 2 0 0 0,.ptr 3 0 0 0]),(7,.int .i64 cs.length),(8,.int .i64 i)]) (fun _=>⟨4,[(0,uQ (.row ⟨false,false,23,1,cs.length,clR true 1 cs⟩)),(1,(cs.length+1,fam false 62 3 (clF false cs))),(2,ndBox x),(3,lvBox lv)]⟩) 0 ⟨qo _,fun q h=>by omega⟩ (ρ:=id) (have xE:=aj @ndBox.eq_1 @lvBox.eq_1;Zgx id) ?_;rintro i hi QL1 hL1 hRL1 hEL1;refine Zrs [0,1,7,8,9] ?_;refine z6 ?_;refine z7 _ rfl ?_ ?_
 ·intro h9;replace h9:=Znb h9;obtain⟨hi1,hi2⟩:=hi;refine za (z6 (zb fun Q1 hN1 hX1 hR1 hE1=> ?_));refine Zrs [0,1,5,7,8] ?_;refine sg [0,1,5,7,8,16] rfl ?_;intro K hK;iterate 5 (refine Zo Zl ?_)
  refine Zo Zl ?_;refine Zc1 (clsTest_spec cs i x lv (by omega) (hne i (by omega))) (fun q=>q+1) ?_;refine z8 (Zpr (hK _ _ ?_));clear hK K;refine z7 _ rfl ?_ ?_
  ·intro h16
   try replace h16:=Znb h16
   refine Zrs [4] ?_;refine ze (hR1 _ _ (hRL1 _ _ (hR0 _ _ (hQ _ _ ?_))));refine zc (H':=⟨4,[]⟩) (.inl rfl) ?_;refine Zou ?_;refine⟨Zs,(Zg id),Zs,?_⟩;rw[idxB_at (p:=fun i=>z41 (hdN (cnd cs i)).word x.word lv) h16 (by omega) hi2];exact⟨rfl,by trivial⟩
  ·intro h16
   try replace h16:=Znb h16
   refine za (zd (hN1 _ _ ?_));refine Zrg [0,1,7,8] ?_;refine zd (hL1 _ _ ?_);rw[show(i:Int)+1=((i+1:Nat):Int) from by omega];refine⟨i+1,⟨⟨by omega,fun q hq=> ?_⟩,by omega⟩,id,(have xE:=aj @ndBox.eq_1 @lvBox.eq_1;Zgx id)⟩
   by_cases e:q=i
   ·subst e;exact h16
   ·exact hi2 q (by omega)
 ·intro h9;replace h9:=Znb h9;obtain⟨hi1,hi2⟩:=hi;refine zm (hEL1 _ _ _ (hX0 _ _ ?_));refine Zrs [4] ?_;refine ze (hQ _ _ ?_);refine zc (H':=⟨4,[]⟩) (.inl rfl) ?_;refine Zou ?_;refine⟨Zs,(Zg id),Zs,?_⟩;rw[idxB_none (p:=fun i=>z41 (hdN (cnd cs i)).word x.word lv) fun q hq=>hi2 q (by omega)];exact⟨rfl,by trivial⟩
end Go.Proofs
namespace Go.Sk
open Go.RowKit
section
def shP (ρ:Nat->Nat)(f:Nat)(μ:Nat->Nat):Pn:=fun id k=>(ρ id,if id=f then μ k else k)
end
section
structure GpQ (X:Cx) (π:Pn) (fr:Fr) (H:AH) (fr1:Fr) (H1:AH):Prop where
 a1:frGivesP π H1.nxt fr fr1
 a4:ownU H1.os
 a7:∀x∈H.os,x.1<X.m0->∀k,(x.2.2 k).own=(x.2.2 0).own
 a8:keepB X.m0 H.os H1.os
structure GpR (X:Cx) (ρ:Nat->Nat) (f:Nat) (H1:AH):Prop where
 a3:injB ρ H1.os=true
 a5:(List.range X.m0).all (fun id=>ρ id==id)=true
 a6:X.m0<=H1.nxt
 a6f:X.m0<=f
 a9:bigB X.m0 ρ H1.os=true
structure GpA (X:Cx) (ρ:Nat->Nat) (a:Nat) (H1:AH):Prop where
 a4a:(H1.os.all fun x=> !(ρ x.1==a))=true
 a6a:X.m0<=a
theorem gpS {X:Cx}{fr:Fr}{H:AH}{fr1:Fr}{H1:AH}(ρ:Nat->Nat)(f j a:Nat)(a2:z1m ρ f j a H1.nxt H.os H1.os)(q:GpQ X (mvP ρ f j a) fr H fr1 H1)(r:GpR X ρ f H1)(t:GpA X ρ a H1):z5g X (mvP ρ f j a) fr H fr1 H1:=
 z5g.mk' ρ f j a q.a1 a2 r.a3 q.a4 t.a4a r.a5 r.a6 r.a6f t.a6a q.a7 q.a8 r.a9
end
end Go.Sk
namespace Go.Sk
open Go.RowKit Go.Proofs
theorem Zu {a:Prop}(h:a:=by simp[frGivesP,Sk.get,SV.renP,SV.renPL,mvP,shP,SV.lt,SV.ltL,ownU,uQ,keepB,Sk.find,Obj.own.eq_1,Obj.own.eq_2,Obj.own.eq_3,Obj.own.eq_4,gxE]):a:=h
theorem Zgp {X:Cx}{fr:Fr}{H:AH}{fr1:Fr}{H1:AH}(ρ:Nat->Nat)(f j a:Nat)(a2:z1m ρ f j a H1.nxt H.os H1.os)(q:GpQ X (mvP ρ f j a) fr H fr1 H1:=by constructor<;>exact Zu)(r:GpR X ρ f H1:=by exact⟨rfl,rfl,qd rfl,qd rfl,rfl⟩)(t:GpA X ρ a H1:=by exact⟨rfl,qd rfl⟩):z5g X (mvP ρ f j a) fr H fr1 H1:=gpS ρ f j a a2 q r t
end Go.Sk
namespace Go.Proofs
open Tryz
open Go.Sk
theorem insC_len (lv:Int)(x:Nd):∀cs:List (List Nd),(insC lv x cs).length<=cs.length+1
 |[]=>qc _
 |c::cs=>by
  rw[insC];split
  ·simp
  ·have:=insC_len lv x cs;simp;omega
theorem clsG_snoc (lv:Int)(l:List Nd)(x:Nd)(cs:List (List Nd)):clsG lv (l++[x]) cs=insC lv x (clsG lv l cs):=by simp[clsG]
theorem insC_new {lv:Int}{x:Nd}:∀{cs:List (List Nd)},(∀q,q<cs.length->z41 (hdN (cnd cs q)).word x.word lv=false)->insC lv x cs=cs++[[x]]
 |[],_=>rfl
 |c::cs,h=>by
  have h0:=h 0 (by simp);rw[insC,qb (by rw[show hdN c=hdN (cnd (c::cs) 0) from rfl,h0];exact qp),insC_new fun q hq=>h (q+1) (by simp;omega)]
  rfl
theorem insC_old {lv:Int}{x:Nd}:∀{cs:List (List Nd)} {k:Nat},k<cs.length->z41 (hdN (cnd cs k)).word x.word lv=true->(∀q,q<k->z41 (hdN (cnd cs q)).word x.word lv=false)->insC lv x cs=cs.set k (cnd cs k++[x])
 |[],k,h,_,_=>by simp at h
 |c::cs,0,_,h,_=>by rw[insC,qf (by exact h)];rfl
 |c::cs,k+1,hk,h,h2=>by
  have h0:=h2 0 (by omega);rw[insC,qb (by rw[show hdN c=hdN (cnd (c::cs) 0) from rfl,h0];exact qp),insC_old (k:=k) (by simpa using hk) h fun q hq=>h2 (q+1) (by omega)]
  rfl
theorem clsG_len' (lv:Int):∀(l:List Nd) (cs:List (List Nd)),(clsG lv l cs).length<=cs.length+l.length
 |[],cs=>qc _
 |x::l,cs=>by
  have h1:=clsG_len' lv l (insC lv x cs);have h2:=insC_len lv x cs
  show(clsG lv l (insC lv x cs)).length<=_
  simp;omega
theorem clsG_len (lv:Int)(xs:List Nd){i:Nat}(hi:i<=xs.length){cs:List (List Nd)}(h:clsG lv (xs.take i) []=cs):cs.length<=i:=by
 have:=clsG_len' lv (xs.take i) [];rw[h] at this;simp at this;omega
def ec28:=aj @app_at @rows_nil1
def InFm.exE:=aj9 @zg @zh @zi @zo @zl z5u @zp z47 (aj7 z4n ec28 ec21 ec22 @z2h ec23 ec24)
def ec29:=aj @fam_g0 @fam_l0
def InFm.gxE:=aj7 z47 ec16 z4n ec21 ec25 ec26 ec29
def InFm.axE:=aj9 @zg @zh @zi @zo @zl z5u @zp z47 (aj9 z4n ec28 ec21 ec22 @z2h ec24 @z2e @z3z ec27)
open InFm (gxE axE exE)
open D0 (oxE sdE)
theorem classes_spec (xs:List Nd)(n:Nat)(hn:xs.length=n)(lv:Int)(hx:n<=1000000):
  zf prog 88 [.slc false 0 0 0 n,.int .i64 lv] ⟨1,[(0,uQ (.row ⟨false,false,62,3,n,nds xs⟩))]⟩
   (fun s H1=>s= .slc true 1 0 0 (z4l xs lv).length/\H1=⟨3,[(1,uQ (.row ⟨true,false,23,1,(z4l xs lv).length,clR true 2 (z4l xs lv)⟩)),(2,((z4l xs lv).length+1,fam true 62 3 (clF true (z4l xs lv))))]⟩):=by
 subst hn;refine zf.ofC false 39 [.tmp 4] func88 rfl rfl ntmps88 results88 rfl ?_;intro w0 own0 β0 Q hQ hQn;simp only[z1c];refine Zrs [0,3] ?_;refine z6 ?_;refine Zrs [0,3,10] ?_;refine z7 _ rfl ?_ ?_
 ·intro h10;replace h10:=Znb h10;refine Zrs [4] ?_;refine z29 4 23 1 (clR true 3 []) rfl ?_;dsimp only;refine z2x 62 3 (clF true []) ?_;dsimp only;refine ze (hQ _ _ ?_);rw[show z4l xs lv=[] by rw[z4l,qf h10]];refine zu (fun q=>if q=1 then 2 else if q=2 then 3 else q) (.slc true 1 0 0 ([]:List (List Nd)).length) (⟨3,[(1,uQ (.row ⟨true,false,23,1,([]:List (List Nd)).length,clR true 2 []⟩)),(2,(([]:List (List Nd)).length+1,fam true 62 3 (clF true [])))]⟩) (.inl rfl) ?_;refine Zou ?_;refine⟨Zs,Zs,(Zg (fun q=>if q=1 then 2 else if q=2 then 3 else q)),Zs,?_⟩
  all_goals first|trivial|exact⟨rfl,trivial⟩
 ·intro h10;replace h10:=Znb h10;refine za ?_;refine Zrs [0,3,5] ?_;refine z6 ?_;refine Zrs [3,5,11,12,13] ?_;refine z29 5 23 1 (clR true 3 []) rfl ?_;dsimp only;refine z2x 62 3 (clF true []) ?_;dsimp only;refine zb fun Q0 hN0 hX0 hR0 hE0=> ?_;refine zn (σ:=Nat) (fun i=>i<=xs.length) (fun i=>xs.length-i) (fun i=>[(3,.ptr 1 0 0 0),(5,.slc true 2 0 0 (clsG lv (xs.take i) []).length),(11,.slc false 0 0 0 xs.length),(12,.int .i64 xs.length),(13,.int .i64 i)]) (fun i=>⟨4,[(2,uQ (.row ⟨true,false,23,1,(clsG lv (xs.take i) []).length,clR true 3 (clsG lv (xs.take i) [])⟩)),(3,((clsG lv (xs.take i) []).length+1,fam true 62 3 (clF true (clsG lv (xs.take i) [])))),(1,uQ (.row ⟨true,true,3,1,1,fun _=>[.int .i64 lv]⟩)),(0,uQ (.row ⟨false,false,62,3,xs.length,nds xs⟩))]⟩) 0 (qo _) (ρ:=id) (have xE:=@clsG.eq_1;Zgx id) ?_;rintro i hi QL1 hL1 hRL1 hEL1;refine Zrs [3,5,11,12,13,14] ?_;refine z6 ?_;refine z7 _ rfl ?_ ?_
  ·intro h14;replace h14:=Znb h14;have hok:=clsG_ok (by omega:lv<=16) (xs.take i) (s:=[]) (cs:=[]) ⟨fun c h=>(by cases h),fun c h=>(by cases h),JH⟩ fun y h=>(by cases h);obtain⟨cs,hcs⟩:∃cs,clsG lv (xs.take i) []=cs:=⟨_,rfl⟩;rw[hcs] at hok ⊢;have hne:∀k,k<cs.length->cnd cs k≠[]:=fun k hk=>by rw[cnd_lt hk];exact hok.1.ne _ (qN hk)
   have hcl:cs.length<=i:=clsG_len lv xs hi hcs;refine za (z6 (zb fun Q1 hN1 hX1 hR1 hE1=> ?_));refine Zrs [3,5,7,11,12,13] ?_;refine sg [3,5,7,8,11,12,13] rfl ?_;intro K hK;iterate 2 (refine Zo Zl ?_)
   refine Zo Zl ?_;refine Zc1 (clsIndex_spec cs cs.length rfl (nd xs i) lv (by omega) hne) (fun q=>if q=0 then 2 else if q=1 then 3 else if q=2 then 4 else 1) ?_;refine Zo Zl ?_;refine z8 (Zpr (hK _ _ ?_));clear hK K;refine z6 ?_;refine Zrs [3,5,7,8,11,12,13,21] ?_;refine z7 _ rfl ?_ ?_
   ·intro h21
    have hnone:∀q,q<cs.length->z41 (hdN (cnd cs q)).word (nd xs i).word lv=false:=by
     rcases z3n cs.length (fun q=>z41 (hdN (cnd cs q)).word (nd xs i).word lv) with⟨_,h⟩|⟨j,h,_⟩
     ·exact h
     ·simp only[h,qj] at h21;omega
    refine Zrs [3,5,7,8,11,12,13] ?_;refine Zrg [3,5,7,8,11,12,13] ?_;refine Zrd [3,5,11,12,13] [0,1,2,3,4,5,6,7,8,9,10] [[],[],[],[],[],[],[],[],[],[],[6]] [[],[],[],[],[],[],[],[],[],[],[6]] ?_;intro K hK;iterate 10 (refine Zo (Zi [] []) ?_)
    refine Zo (Zi [6] [6]) ?_;refine zx (Zpr (hK _ _ ?_));clear hK K;refine zd (hN1 _ _ ?_);have hins:insC lv (nd xs i) cs=cs++[[nd xs i]]:=insC_new hnone
    have hout:∀q,q<cs.length+1->(if q=cs.length then [SV.slc true 8 0 0 1] else app (clR true 3 cs) cs.length (z42 1 1 [SV.nils]) q)=SV.renPL (mvP (fun q=>if q=2 then 6 else q) 3 cs.length 8) (clR true 3 (cs++[[nd xs i]]) q):=fun q hq=>by
     rw[clR_renP]
     split
     ·rename_i e;subst e;rw[cnd_last];rfl
     ·rw[cnd_append (by omega),app,qf (by omega)];rfl
    refine z4o (fr':=[(3,.ptr 1 0 0 0),(5,.slc true 2 0 0 (cs.length+1)),(11,.slc false 0 0 0 xs.length),(12,.int .i64 xs.length),(13,.int .i64 i)]) (H':=⟨4,[(2,uQ (.row ⟨true,false,23,1,cs.length+1,clR true 3 (cs++[[nd xs i]])⟩)),(3,(cs.length+1+1,fam true 62 3 (clF true (cs++[[nd xs i]])))),(1,uQ (.row ⟨true,true,3,1,1,fun _=>[.int .i64 lv]⟩)),(0,uQ (.row ⟨false,false,62,3,xs.length,nds xs⟩))]⟩) _ (Zgp (fun q=>if q=2 then 6 else q) (3) (cs.length) (8) (z1g rfl qm (by decide) (zr.of (fun _=>⟨rfl,rfl⟩) rfl (qc _) hout) (Obj.lt_row.2 fun q _=>(clR_lt _ _ _ _ q).2 (qd rfl)) (qd rfl) (z4f rfl rfl qm ⟨fun _=>⟨rfl,rfl⟩,rfl⟩ (jh _) (fun q hq hne=>⟨by omega,clF_givesP _ _ _ _ _ _ id (cnd_append (by omega)),clFm_lt _ _ _ _⟩) (clF_newP _ _ _ _ _ rfl (cnd_last _ _)) (clFm_lt _ _ _ _) (qd rfl) (z1g rfl qm (by decide) (zr.of (fun _=>⟨rfl,rfl⟩) rfl (qc _) fun _ _=>rfl) (Obj.lt_row.2 fun q _=>by simp[SV.ltL,SV.lt]) (qd rfl) (z1g rfl qm (by decide) (zr.of (fun h=>by cases h) rfl (qc _) fun q _=>(z33 _ _ q).symm) (Obj.lt_row.2 fun q _=>z4u _ _ q) (qd rfl) trivial))))) ?_;refine Zrg [3,5,11,12,13] ?_;refine zd (hL1 _ _ ?_);have hstep:clsG lv (xs.take (i+1)) []=cs++[[nd xs i]]:=by rw[take_nd (by omega),clsG_snoc,hcs,hins]
    rw[show(i:Int)+1=((i+1:Nat):Int) from by omega];refine⟨i+1,⟨by omega,by omega⟩,id,?_⟩;simp only[hstep,Qn,QC];exact(Zg id)
   ·intro h21
    obtain⟨k,hk1,hk2,hk3,hk4⟩:∃k:Nat,idxB cs.length (fun q=>z41 (hdN (cnd cs q)).word (nd xs i).word lv)=k/\k<cs.length/\z41 (hdN (cnd cs k)).word (nd xs i).word lv=true/\∀q,q<k->z41 (hdN (cnd cs q)).word (nd xs i).word lv=false:=by
     rcases z3n cs.length (fun q=>z41 (hdN (cnd cs q)).word (nd xs i).word lv) with⟨h,_⟩|⟨j,h,h2,h3,h4⟩
     ·simp[h] at h21
     ·exact⟨j,h,h2,h3,h4⟩
    rw[hk1]
    have hml:(cnd cs k).length<=i:=by
     have h1:=hok.1.eq (cnd cs k) (by rw[cnd_lt hk2];exact qN hk2);have h2:(grpW ([]++xs.take i) lv (hdN (cnd cs k)).word).length<=([]++xs.take i).length:=jF ..;rw[<-h1] at h2;simp at h2;omega
    refine za ?_;refine Zrd [3,5,11,12,13] [0,1,2,3,4,5,6,7,8,9,10] [[],[],[],[],[],[],[],[],[3],[],[2]] [[3],[3],[],[],[],[],[],[],[3],[3],[2,3]] ?_;intro K hK;iterate 2 (refine Zo (Zi [] [3]) ?_)
    iterate 6 (refine Zo (Zi [] []) ?_)
    refine Zo (Zi [3] [3]) ?_;refine Zo (Zi [] [3]) ?_;refine Zo (Zi [2] [2,3]) ?_;refine zx (Zpr (hK _ _ ?_));clear hK K;refine zd (hN1 _ _ ?_);have hins:=insC_old hk2 hk3 hk4
    have hout:∀q,q<cs.length->(if q=k then [SV.slc true 6 0 0 ((cnd cs k).length+1)] else clR true 3 cs q)=SV.renPL (mvP id 3 k 6) (clR true 3 (cs.set k (cnd cs k++[nd xs i])) q):=fun q hq=>by
     rw[clR_renP,cnd_set _ _ _ _ hk2]
     split
     ·simp
     ·rfl
    refine z4o (fr':=[(3,.ptr 1 0 0 0),(5,.slc true 2 0 0 cs.length),(11,.slc false 0 0 0 xs.length),(12,.int .i64 xs.length),(13,.int .i64 i)]) (H':=⟨4,[(2,uQ (.row ⟨true,false,23,1,cs.length,clR true 3 (cs.set k (cnd cs k++[nd xs i]))⟩)),(3,(cs.length+1,fam true 62 3 (clF true (cs.set k (cnd cs k++[nd xs i]))))),(1,uQ (.row ⟨true,true,3,1,1,fun _=>[.int .i64 lv]⟩)),(0,uQ (.row ⟨false,false,62,3,xs.length,nds xs⟩))]⟩) _ (Zgp (id) (3) (k) (6) (z1g rfl qm (by decide) (zr.of (fun _=>⟨rfl,rfl⟩) rfl (qc _) hout) (Obj.lt_row.2 fun q _=>(clR_lt _ _ _ _ q).2 (qd rfl)) (qd rfl) (z4f rfl rfl qm ⟨fun _=>⟨rfl,rfl⟩,rfl⟩ (jh _) (fun q hq hne=>⟨by omega,by rw[qb hne];exact clF_givesP _ _ _ _ _ _ id (by rw[cnd_set _ _ _ _ hk2,qb hne]),clFm_lt _ _ _ _⟩) (clF_newP _ _ _ _ _ (by simp) (by rw[cnd_set _ _ _ _ hk2,qf rfl])) (clFm_lt _ _ _ _) (qd rfl) (z1g rfl qm (by decide) (zr.of (fun _=>⟨rfl,rfl⟩) rfl (qc _) fun _ _=>rfl) (Obj.lt_row.2 fun q _=>by simp[SV.ltL,SV.lt]) (qd rfl) (z1g rfl qm (by decide) (zr.of (fun h=>by cases h) rfl (qc _) fun q _=>(z33 _ _ q).symm) (Obj.lt_row.2 fun q _=>z4u _ _ q) (qd rfl) trivial))))) ?_;refine Zrg [3,5,11,12,13] ?_
    refine zd (hL1 _ _ ?_);have hstep:clsG lv (xs.take (i+1)) []=cs.set k (cnd cs k++[nd xs i]):=by rw[take_nd (by omega),clsG_snoc,hcs,hins]
    rw[show(i:Int)+1=((i+1:Nat):Int) from by omega];refine⟨i+1,⟨by omega,by omega⟩,id,?_⟩;simp only[hstep,qD];exact(Zg id)
  ·intro h14
   refine zm (hEL1 _ _ _ (hX0 _ _ ?_));refine Zrs [4] ?_;refine ze (hQ _ _ ?_)
   have he:clsG lv (xs.take i) []=z4l xs lv:=by
    have h14':¬(i:Int)<xs.length:=by simpa using h14
    rw[Qt (by omega),z4l,qb (by omega)]
   rw[he];refine zu (fun q=>if q=1 then 2 else if q=2 then 3 else q) (.slc true 1 0 0 (z4l xs lv).length) (⟨3,[(1,uQ (.row ⟨true,false,23,1,(z4l xs lv).length,clR true 2 (z4l xs lv)⟩)),(2,((z4l xs lv).length+1,fam true 62 3 (clF true (z4l xs lv))))]⟩) (.inl rfl) ?_;refine Zou ?_;refine⟨Zs,Zs,(Zg (fun q=>if q=1 then 2 else if q=2 then 3 else q)),Zs,?_⟩
   all_goals first|trivial|exact⟨rfl,trivial⟩
end Go.Proofs
