/-
  Walks and plain facts, joined: part 11 of 11.
  Conditions: those that each statement names.
-/
import Derived.Test.YtpnefndionckaaaGreatDoorRmj
import Derived.Test.YtpnefndionckaaaGreatDoorRme
import Derived.Test.YtpnefndionckaaaGreatDoorRmc
import Derived.Test.YtpnefndionckaaaGreatDoorRmf
import Derived.Test.YtpnefndionckaaaGreatDoorRmg
set_option linter.unusedSimpArgs false
set_option linter.unusedVariables false
set_option linter.defProp false
set_option maxRecDepth 4000
set_option maxHeartbeats 8000000
namespace Go.Proofs
open Tryz
open Go.Sk
section
theorem eqNdS (a b:Nd):EqT prog 62 [.int .i64 a.id,.str a.key,.int .u32 a.word] [.int .i64 b.id,.str b.key,.int .u32 b.word]:=
 EqIn.top (K:=2) (by omega) (by kernel_rfl) (EqIn.of 1 (by omega) [(false,3,0),(false,9,1),(false,60,2)] (by kernel_rfl) (by kernel_rfl) (by kernel_rfl)
  (.sc (by kernel_rfl) ⟨rfl,.i64,by kernel_rfl⟩ (.sc (by kernel_rfl) (show Tryz.prog.underlying 9=some .string by kernel_rfl) (.sc (by kernel_rfl) ⟨rfl,.u32,by kernel_rfl⟩ (.nil _)))))
theorem eqL_ndS (a b:Nd):eqL [.int .i64 a.id,.str a.key,.int .u32 a.word] [.int .i64 b.id,.str b.key,.int .u32 b.word]=decide (a=b):=by
 cases a;cases b
 rw[Qe];simp[eqL,eqS,ba_beqK]
theorem eqL_cbS (a b:Cb):eqL [.int .i64 a.kind,.int .i64 a.node,.int .i64 a.lvl] [.int .i64 b.kind,.int .i64 b.node,.int .i64 b.lvl]=decide (a=b):=by
 cases a;cases b
 rw[Qe];simp[eqL,eqS]
def shPj (i j:Nat):Pn:=fun id k=>if id=0 then(0,3*i+1) else if id=1 then(0,3*i+2) else if id=2 then(1,3*j+1) else if id=3 then(1,3*j+2) else if id=4 then(0,3*i+3) else if id=5 then(1,3*j+3) else(id,k)
theorem sameShapeM_spec (A B:List Ly)(ha:lyB A)(hb:lyB B)(i j p q:Nat)(hi:i<p)(hj:j<q):
  zf prog 53 [.agg [.int .i64 (lyA A i).lvl,.int .u32 (lyA A i).wd,.slc false 0 (3*i+1) 0 (lyA A i).ids.length,.slc false 0 (3*i+2) 0 (lyA A i).cs.length,.slc false 0 (3*i+3) 0 (lyA A i).ps.length],.agg [.int .i64 (lyA B j).lvl,.int .u32 (lyA B j).wd,.slc false 1 (3*j+1) 0 (lyA B j).ids.length,.slc false 1 (3*j+2) 0 (lyA B j).cs.length,.slc false 1 (3*j+3) 0 (lyA B j).ps.length]]
   ⟨6,[(0,(3*p+1,fam false 3 1 (lyF false A))),(1,(3*q+1,fam false 3 1 (lyF false B)))]⟩ (fun s H1=>s= .bool (shpS (lyA A i) (lyA B j))/\H1=⟨6,[]⟩):=by
 have h:=sameShape_spec (lyA A i) (lyA B j) (lyA A i).ps.length (lyA B j).ps.length (ha.2 i).1 (hb.2 j).1 (ha.2 i).2.1 (hb.2 j).2.1
 have g:=h.mem (shPj i j) (os1:=[(0,(3*p+1,fam false 3 1 (lyF false A))),(1,(3*q+1,fam false 3 1 (lyF false B)))])
  (by
   refine⟨⟨by show 0<6;decide,fun k=>rfl,fun k' hk=>⟨Obj.lt_row.2 fun q _=>z1u _ _ q,?_⟩⟩,⟨by show 1<6;decide,fun k=>rfl,fun k' hk=>⟨Obj.lt_row.2 fun q _=>cls_lt _ _ q,?_⟩⟩,⟨by show 2<6;decide,fun k=>rfl,fun k' hk=>⟨Obj.lt_row.2 fun q _=>z1u _ _ q,?_⟩⟩,⟨by show 3<6;decide,fun k=>rfl,fun k' hk=>⟨Obj.lt_row.2 fun q _=>cls_lt _ _ q,?_⟩⟩,trivial⟩
   ·show 3*i+1<3*p+1/\zt _ (fam false 3 1 (lyF false A) (3*i+1)) _
    refine⟨by omega,?_⟩;rw[z2q,lyF_0];exact⟨fun h=>(by cases h),rfl,qc _,fun q _=>(z2u _ _ q).symm⟩
   ·show 3*i+2<3*p+1/\zt _ (fam false 3 1 (lyF false A) ((3*i+1)+1)) _
    refine⟨by omega,?_⟩;rw[z2q,lyF_1];exact⟨fun h=>(by cases h),rfl,qc _,fun q _=>(z4q _ _ q).symm⟩
   ·show 3*j+1<3*q+1/\zt _ (fam false 3 1 (lyF false B) (3*j+1)) _
    refine⟨by omega,?_⟩;rw[z2q,lyF_0];exact⟨fun h=>(by cases h),rfl,qc _,fun q _=>(z2u _ _ q).symm⟩
   ·show 3*j+2<3*q+1/\zt _ (fam false 3 1 (lyF false B) ((3*j+1)+1)) _
    refine⟨by omega,?_⟩;rw[z2q,lyF_1]
    exact⟨fun h=>(by cases h),rfl,qc _,fun q _=>(z4q _ _ q).symm⟩)
  ⟨by simp[SV.lt,SV.ltL],by simp[SV.lt,SV.ltL],trivial⟩ (by
   intro id k hid;have hid:id<6:=hid
   show(shPj i j id k).1<6
   simp only[shPj];repeat' split
   all_goals first|exact hid|(show 0<6;decide)|(show 1<6;decide)) (by
   intro x hx k;simp only[qB,QQ,Je] at hx;rcases hx with e|e<;>subst e
   ·exact z4t false _ _ A k
   ·exact z4t false _ _ B k)
 have e:SV.renPL (shPj i j) [.agg [.int .i64 (lyA A i).lvl,.int .u32 (lyA A i).wd,.slc false 0 0 0 (lyA A i).ids.length,.slc false 1 0 0 (lyA A i).cs.length,.slc false 4 0 0 (lyA A i).ps.length],.agg [.int .i64 (lyA B j).lvl,.int .u32 (lyA B j).wd,.slc false 2 0 0 (lyA B j).ids.length,.slc false 3 0 0 (lyA B j).cs.length,.slc false 5 0 0 (lyA B j).ps.length]]=[.agg [.int .i64 (lyA A i).lvl,.int .u32 (lyA A i).wd,.slc false 0 (3*i+1) 0 (lyA A i).ids.length,.slc false 0 (3*i+2) 0 (lyA A i).cs.length,.slc false 0 (3*i+3) 0 (lyA A i).ps.length],.agg [.int .i64 (lyA B j).lvl,.int .u32 (lyA B j).wd,.slc false 1 (3*j+1) 0 (lyA B j).ids.length,.slc false 1 (3*j+2) 0 (lyA B j).cs.length,.slc false 1 (3*j+3) 0 (lyA B j).ps.length]]:=rfl;rw[e] at g;refine g.imp ?_;rintro s H' ⟨s0,H0',⟨rfl,rfl⟩,rfl,rfl⟩;exact⟨rfl,rfl⟩
def lsPj (i j:Nat):Pn:=fun id k=>if id=0 then(0,3*i+2) else if id=1 then(0,3*i+3) else if id=2 then(1,3*j+2) else if id=3 then(1,3*j+3) else(id,k)
theorem sameLM_spec (A B:List Ly)(ha:lyB A)(i j p q:Nat)(hi:i<p)(hj:j<q):
  zf prog 54 [.agg [.slc false 0 (3*i+2) 0 (lyA A i).cs.length,.slc false 0 (3*i+3) 0 (lyA A i).ps.length],.agg [.slc false 1 (3*j+2) 0 (lyA B j).cs.length,.slc false 1 (3*j+3) 0 (lyA B j).ps.length]]
   ⟨4,[(0,(3*p+1,fam false 3 1 (lyF false A))),(1,(3*q+1,fam false 3 1 (lyF false B)))]⟩ (fun s H1=>s= .bool (decide (((lyA A i).cs,(lyA A i).ps)=((lyA B j).cs,(lyA B j).ps)))/\H1=⟨4,[]⟩):=by
 have h:=same_spec (lyA A i).cs (lyA A i).ps (lyA B j).cs (lyA B j).ps _ _ _ _ rfl rfl rfl rfl (by have:=(ha.2 i).2.1;omega) (by have:=(ha.2 i).2.2;omega)
 have g:=h.mem (lsPj i j) (os1:=[(0,(3*p+1,fam false 3 1 (lyF false A))),(1,(3*q+1,fam false 3 1 (lyF false B)))])
  (by
   refine⟨⟨by show 0<4;decide,fun k=>rfl,fun k' hk=>⟨Obj.lt_row.2 fun q _=>cls_lt _ _ q,?_⟩⟩,⟨by show 1<4;decide,fun k=>rfl,fun k' hk=>⟨Obj.lt_row.2 fun q _=>prs_lt _ _ q,?_⟩⟩,⟨by show 2<4;decide,fun k=>rfl,fun k' hk=>⟨Obj.lt_row.2 fun q _=>cls_lt _ _ q,?_⟩⟩,⟨by show 3<4;decide,fun k=>rfl,fun k' hk=>⟨Obj.lt_row.2 fun q _=>prs_lt _ _ q,?_⟩⟩,trivial⟩
   ·show 3*i+2<3*p+1/\zt _ (fam false 3 1 (lyF false A) ((3*i+1)+1)) _
    refine⟨by omega,?_⟩;rw[z2q,lyF_1];exact⟨fun h=>(by cases h),rfl,qc _,fun q _=>(z4q _ _ q).symm⟩
   ·show 3*i+3<3*p+1/\zt _ (fam false 3 1 (lyF false A) ((3*i+2)+1)) _
    refine⟨by omega,?_⟩;rw[z2q,lyF_2];exact⟨fun h=>(by cases h),rfl,qc _,fun q _=>(prs_renP _ _ q).symm⟩
   ·show 3*j+2<3*q+1/\zt _ (fam false 3 1 (lyF false B) ((3*j+1)+1)) _
    refine⟨by omega,?_⟩;rw[z2q,lyF_1];exact⟨fun h=>(by cases h),rfl,qc _,fun q _=>(z4q _ _ q).symm⟩
   ·show 3*j+3<3*q+1/\zt _ (fam false 3 1 (lyF false B) ((3*j+2)+1)) _
    refine⟨by omega,?_⟩;rw[z2q,lyF_2]
    exact⟨fun h=>(by cases h),rfl,qc _,fun q _=>(prs_renP _ _ q).symm⟩)
  ⟨by simp[SV.lt,SV.ltL],by simp[SV.lt,SV.ltL],trivial⟩ (by
   intro id k hid;have hid:id<4:=hid
   show(lsPj i j id k).1<4
   simp only[lsPj];repeat' split
   all_goals first|exact hid|(show 0<4;decide)|(show 1<4;decide)) (by
   intro x hx k;simp only[qB,QQ,Je] at hx;rcases hx with e|e<;>subst e
   ·exact z4t false _ _ A k
   ·exact z4t false _ _ B k)
 have e:SV.renPL (lsPj i j) [.agg [.slc false 0 0 0 (lyA A i).cs.length,.slc false 1 0 0 (lyA A i).ps.length],.agg [.slc false 2 0 0 (lyA B j).cs.length,.slc false 3 0 0 (lyA B j).ps.length]]=[.agg [.slc false 0 (3*i+2) 0 (lyA A i).cs.length,.slc false 0 (3*i+3) 0 (lyA A i).ps.length],.agg [.slc false 1 (3*j+2) 0 (lyA B j).cs.length,.slc false 1 (3*j+3) 0 (lyA B j).ps.length]]:=rfl;rw[e] at g;refine g.imp ?_;rintro s H' ⟨s0,H0',⟨rfl,rfl⟩,rfl,rfl⟩;exact⟨rfl,rfl⟩
theorem shpS_same {a b:Ly}:(shpS a b && decide ((a.cs,a.ps)=(b.cs,b.ps)))=decide (a=b):=by
 rw[Qe,qh,qj,qj]
 constructor
 ·rintro⟨h,e⟩;rw[shpS,qh,headS] at h;simp only[qh,qv,qj] at h;obtain⟨e1,e2⟩:=Prod.mk.inj e
  cases a;cases b
  simp only at*;simp[h.1.1.1.1,h.1.1.1.2,h.1.1.2,e1,e2]
 ·rintro rfl;refine⟨?_,rfl⟩;rw[shpS,qh,headS];refine⟨by simp,?_⟩;rw[z1y fun i _=> ?_];· rfl
  rw[keyQ,qq,sEq_iff];exact qL rfl
theorem ly_ext {A B:List Ly}(hl:A.length=B.length)(h:∀q,q<A.length->lyA A q=lyA B q):A=B:=
 Qx hl fun q h1 h2=>by rw[<-lyA_lt h1,<-lyA_lt h2];exact h q h1
theorem cb_ext {A B:List Cb}(hl:A.length=B.length)(h:∀q,q<A.length->cbA A q=cbA B q):A=B:=
 Qx hl fun q h1 h2=>by rw[<-cbA_lt h1,<-cbA_lt h2];exact h q h1
theorem nd_extS {A B:List Nd}(hl:A.length=B.length)(h:∀q,q<A.length->nd A q=nd B q):A=B:=
 Qx hl fun q h1 h2=>by rw[<-z3e h1,<-z3e h2];exact h q h1
def JoPm.exE:=aj9 @z1b @zg @zh @zq @zk @z14 @z1a ec2 (aj9 @zi @zy @zo @zl z5u @zp z47 z4n (aj9 @zz ec3 ec5 @z19.eq_1 @z12.eq_1 @ints.eq_1 ec34 ec35 (aj ec36 @eqNdS)))
def JoPm.axE:=aj9 @z1b @zg @zh @zq @zk @z14 @z1a ec2 (aj9 @zi @zy @zo @zl z5u @zp z47 z4n (aj9 @zz ec3 ec5 @z19.eq_1 @z12.eq_1 ec34 ec35 @eqNdS (aj6 @z1v @z2e @z2t @z34 ec38 @z3z)))
theorem JoPm.sdE {a:Prop}(h:a:=by first|exact D0.sdE|exact eqNdS _ _|(intro _;exact eqNdS _ _)|exact eqCb _ _ _ _ _ _|(intro _;exact eqCb _ _ _ _ _ _)):a:=h
open JnNm (gxE oxE)
open JoPm (axE sdE exE)
theorem sameF_spec (a b:Fo)(ha:lyB a.ly)(hb:lyB b.ly)(n k m n' k' m':Nat)(hn:a.ns.length=n)(hk:a.ly.length=k)(hm:a.cb.length=m)(hn':b.ns.length=n')(hk':b.ly.length=k')(hm':b.cb.length=m')(hx:n<=1000000)(hy:m<=1000000)(hz:k<=1000000000000000):
  zf prog 18 [.agg [.slc false 0 0 0 n,.int .i64 a.ht,.slc false 1 0 0 k,.slc false 3 0 0 m],.agg [.slc false 4 0 0 n',.int .i64 b.ht,.slc false 5 0 0 k',.slc false 7 0 0 m']]
   ⟨8,[(0,uQ (.row ⟨false,false,62,3,n,nds a.ns⟩)),(1,uQ (.row ⟨false,false,89,5,k,lyR 2 a.ly⟩)),(2,(3*k+1,fam false 3 1 (lyF false a.ly))),(3,uQ (.row ⟨false,false,58,3,m,cbs a.cb⟩)),(4,uQ (.row ⟨false,false,62,3,n',nds b.ns⟩)),(5,uQ (.row ⟨false,false,89,5,k',lyR 6 b.ly⟩)),(6,(3*k'+1,fam false 3 1 (lyF false b.ly))),(7,uQ (.row ⟨false,false,58,3,m',cbs b.cb⟩))]⟩
   (fun s H1=>s= .bool (decide (a=b))/\H1=⟨8,[]⟩):=by
 obtain⟨ns,ht,L,C⟩:=a;obtain⟨ns',ht',L',C'⟩:=b;dsimp only at ha hb hn hk hm hn' hk' hm' ⊢;subst hn hk hm hn' hk' hm';refine zf.ofC false 111 [.tmp 4] func18 rfl rfl ntmps18 results18 rfl ?_;intro w0 own0 β0 Q hQ hQn;simp only[z1c];refine Zrs [2,3] ?_;refine z6 ?_;refine Zrs [2,3,39] ?_;refine z7 _ rfl ?_ ?_
 ·intro h39
  have hne:¬((⟨ns,ht,L,C⟩:Fo)=⟨ns',ht',L',C'⟩):=fun e=>by
   injection e with e1 e2 e3 e4
   subst e1 e2 e3 e4;simp at h39
  refine Zrs [4] ?_;refine ze (hQ _ _ ?_);rw[qM hne];refine zc (H':=⟨8,[]⟩) (.inl rfl) ?_;refine Zou ?_;refine⟨Zs,(Zg id),Zs,?_⟩
  all_goals(first|trivial|exact⟨rfl,trivial⟩)
 ·intro h39
  obtain⟨hh,hnl,hll,hcl⟩:ht=ht'/\ns.length=ns'.length/\L.length=L'.length/\C.length=C'.length:=by
   simp at h39;omega
  refine za (z6 ?_);refine Zrs [2,3,5] ?_;refine zb fun Q0 hN0 hX0 hR0 hE0=> ?_;refine zn (σ:=Nat) (fun i=>i<=ns.length/\∀q,q<i->nd ns q=nd ns' q) (fun i=>ns.length-i) (fun i=>[(2,.ptr 8 0 0 0),(3,.ptr 9 0 0 0),(5,.int .i64 i)]) (fun _=>⟨10,[(9,uQ (.row ⟨true,true,34,4,1,fun _=>[.slc false 4 0 0 ns'.length,.int .i64 ht',.slc false 5 0 0 L'.length,.slc false 7 0 0 C'.length]⟩)),(8,uQ (.row ⟨true,true,34,4,1,fun _=>[.slc false 0 0 0 ns.length,.int .i64 ht,.slc false 1 0 0 L.length,.slc false 3 0 0 C.length]⟩)),(0,uQ (.row ⟨false,false,62,3,ns.length,nds ns⟩)),(1,uQ (.row ⟨false,false,89,5,L.length,lyR 2 L⟩)),(2,(3*L.length+1,fam false 3 1 (lyF false L))),(3,uQ (.row ⟨false,false,58,3,C.length,cbs C⟩)),(4,uQ (.row ⟨false,false,62,3,ns'.length,nds ns'⟩)),(5,uQ (.row ⟨false,false,89,5,L'.length,lyR 6 L'⟩)),(6,(3*L'.length+1,fam false 3 1 (lyF false L'))),(7,uQ (.row ⟨false,false,58,3,C'.length,cbs C'⟩))]⟩) 0 ⟨qo _,fun q h=>absurd h (qR _)⟩ (ρ:=id) (Zg id) ?_;rintro i hi QL1 hL1 hRL1 hEL1;refine z6 ?_;refine Zrs [2,3,5,44] ?_;refine z7 _ rfl ?_ ?_
  ·intro h44;replace h44:=Znb h44;obtain⟨hi1,hi2⟩:=hi;have hiL:i<ns'.length:=by omega
   refine za (z6 (zb fun Q1 hN1 hX1 hR1 hE1=> ?_));refine z6 ?_;refine Zrd [2,3,5,57] [0,1,2,3,4,5,6,7,8,9,10] [[],[],[],[],[],[],[],[],[],[],[]] [[],[],[],[],[],[],[],[],[],[],[]] ?_;intro K hK;iterate 11 (refine Zo (Zi [] []) ?_)
   rw[eqL_ndS];repeat(with_reducible apply qe;exact sdE)
   refine zx (Zpr (hK _ _ ?_));clear hK K;refine z7 _ rfl ?_ ?_
   ·intro h57;have h57':nd ns i≠nd ns' i:=by simpa using h57
    refine Zrs [4] ?_;refine ze (hR1 _ _ (hRL1 _ _ (hR0 _ _ (hQ _ _ ?_))))
    have hne:¬((⟨ns,ht,L,C⟩:Fo)=⟨ns',ht',L',C'⟩):=fun e=>by
     injection e with e1 e2 e3 e4
     exact h57' (by rw[e1])
    rw[qM hne];refine zc (H':=⟨8,[]⟩) (.inl rfl) ?_;refine Zou ?_;refine⟨Zs,(Zg id),Zs,?_⟩
    all_goals(first|trivial|exact⟨rfl,trivial⟩)
   ·intro h57;have h57':nd ns i=nd ns' i:=by simpa using h57
    refine za (zd (hN1 _ _ ?_));refine Zrg [2,3,5] ?_;refine zd (hL1 _ _ ?_);rw[show(i:Int)+1=((i+1:Nat):Int) from by omega];refine⟨i+1,⟨⟨by omega,fun q hq=> ?_⟩,by omega⟩,id,(Zg id)⟩
    by_cases e:q=i
    ·subst e;exact h57'
    ·exact hi2 q (by omega)
  ·intro h44;replace h44:=Znb h44;obtain⟨hi1,hi2⟩:=hi;have hns:ns=ns':=nd_extS hnl fun q hq=>hi2 q (by omega);refine zm (hEL1 _ _ _ (hX0 _ _ (z6 ?_)));refine Zrs [2,3,6] ?_;refine zb fun Q2 hN2 hX2 hR2 hE2=> ?_;refine zn (σ:=Nat) (fun i=>i<=C.length/\∀q,q<i->cbA C q=cbA C' q) (fun i=>C.length-i) (fun i=>[(2,.ptr 8 0 0 0),(3,.ptr 9 0 0 0),(6,.int .i64 i)]) (fun _=>⟨10,[(9,uQ (.row ⟨true,true,34,4,1,fun _=>[.slc false 4 0 0 ns'.length,.int .i64 ht',.slc false 5 0 0 L'.length,.slc false 7 0 0 C'.length]⟩)),(8,uQ (.row ⟨true,true,34,4,1,fun _=>[.slc false 0 0 0 ns.length,.int .i64 ht,.slc false 1 0 0 L.length,.slc false 3 0 0 C.length]⟩)),(0,uQ (.row ⟨false,false,62,3,ns.length,nds ns⟩)),(1,uQ (.row ⟨false,false,89,5,L.length,lyR 2 L⟩)),(2,(3*L.length+1,fam false 3 1 (lyF false L))),(3,uQ (.row ⟨false,false,58,3,C.length,cbs C⟩)),(4,uQ (.row ⟨false,false,62,3,ns'.length,nds ns'⟩)),(5,uQ (.row ⟨false,false,89,5,L'.length,lyR 6 L'⟩)),(6,(3*L'.length+1,fam false 3 1 (lyF false L'))),(7,uQ (.row ⟨false,false,58,3,C'.length,cbs C'⟩))]⟩) 0 ⟨qo _,fun q h=>absurd h (qR _)⟩ (ρ:=id) (Zg id) ?_;rintro j hj QL2 hL2 hRL2 hEL2;refine z6 ?_;refine Zrs [2,3,6,62] ?_;refine z7 _ rfl ?_ ?_
   ·intro h62;replace h62:=Znb h62;obtain⟨hj1,hj2⟩:=hj;have hjL:j<C'.length:=by omega
    refine za (z6 (zb fun Q3 hN3 hX3 hR3 hE3=> ?_));refine z6 ?_;refine Zrd [2,3,6,75] [0,1,2,3,4,5,6,7,8,9,10] [[],[],[],[],[],[],[],[],[],[],[]] [[],[],[],[],[],[],[],[],[],[],[]] ?_;intro K hK;iterate 11 (refine Zo (Zi [] []) ?_)
    rw[eqL_cbS];repeat(with_reducible apply qe;exact sdE)
    refine zx (Zpr (hK _ _ ?_));clear hK K;refine z7 _ rfl ?_ ?_
    ·intro h75;have h75':cbA C j≠cbA C' j:=by simpa using h75
     refine Zrs [4] ?_;refine ze (hR3 _ _ (hRL2 _ _ (hR2 _ _ (hQ _ _ ?_))))
     have hne:¬((⟨ns,ht,L,C⟩:Fo)=⟨ns',ht',L',C'⟩):=fun e=>by
      injection e with e1 e2 e3 e4
      exact h75' (by rw[e4])
     rw[qM hne];refine zc (H':=⟨8,[]⟩) (.inl rfl) ?_;refine Zou ?_;refine⟨Zs,(Zg id),Zs,?_⟩
     all_goals(first|trivial|exact⟨rfl,trivial⟩)
    ·intro h75;have h75':cbA C j=cbA C' j:=by simpa using h75
     refine za (zd (hN3 _ _ ?_));refine Zrg [2,3,6] ?_;refine zd (hL2 _ _ ?_);rw[show(j:Int)+1=((j+1:Nat):Int) from by omega];refine⟨j+1,⟨⟨by omega,fun q hq=> ?_⟩,by omega⟩,id,(Zg id)⟩
     by_cases e:q=j
     ·subst e;exact h75'
     ·exact hj2 q (by omega)
   ·intro h62;replace h62:=Znb h62;obtain⟨hj1,hj2⟩:=hj;have hCe:C=C':=cb_ext hcl fun q hq=>hj2 q (by omega);refine zm (hEL2 _ _ _ (hX2 _ _ (z6 ?_)));refine Zrs [2,3,7] ?_;refine zb fun Q4 hN4 hX4 hR4 hE4=> ?_;refine zn (σ:=Nat) (fun i=>i<=L.length/\∀q,q<i->lyA L q=lyA L' q) (fun i=>L.length-i) (fun i=>[(2,.ptr 8 0 0 0),(3,.ptr 9 0 0 0),(7,.int .i64 i)]) (fun _=>⟨10,[(9,uQ (.row ⟨true,true,34,4,1,fun _=>[.slc false 4 0 0 ns'.length,.int .i64 ht',.slc false 5 0 0 L'.length,.slc false 7 0 0 C'.length]⟩)),(8,uQ (.row ⟨true,true,34,4,1,fun _=>[.slc false 0 0 0 ns.length,.int .i64 ht,.slc false 1 0 0 L.length,.slc false 3 0 0 C.length]⟩)),(0,uQ (.row ⟨false,false,62,3,ns.length,nds ns⟩)),(1,uQ (.row ⟨false,false,89,5,L.length,lyR 2 L⟩)),(2,(3*L.length+1,fam false 3 1 (lyF false L))),(3,uQ (.row ⟨false,false,58,3,C.length,cbs C⟩)),(4,uQ (.row ⟨false,false,62,3,ns'.length,nds ns'⟩)),(5,uQ (.row ⟨false,false,89,5,L'.length,lyR 6 L'⟩)),(6,(3*L'.length+1,fam false 3 1 (lyF false L'))),(7,uQ (.row ⟨false,false,58,3,C'.length,cbs C'⟩))]⟩) 0 ⟨qo _,fun q h=>absurd h (qR _)⟩ (ρ:=id) (Zg id) ?_;rintro z hz3 QL3 hL3 hRL3 hEL3;refine z6 ?_;refine Zrs [2,3,7,80] ?_;refine z7 _ rfl ?_ ?_
    ·intro h80;replace h80:=Znb h80;obtain⟨hz1,hz2⟩:=hz3;have hzL:z<L'.length:=by omega
     refine za (z6 (zb fun Q5 hN5 hX5 hR5 hE5=> ?_));refine z6 ?_;refine Cs.regNil [2,3,7,110] (.op 0 (.op 1 (.op 2 (.op 3 (.op 4 (.op 5 (.op 6 (.op 7 (.op 8 (.op 9 (.op 10 (.op 11 (.op 12 (.op 13 (.op 14 (.op 15 (.op 16 (.op 17 (.op 18 (.op 19 (.op 20 (.op 21 (.op 22 (.op 23 (.op 24 (.op 25 (.op 26 (.op 27 .done)))))))))))))))))))))))))))) [[],[],[],[],[],[],[],[],[],[],[],[],[],[],[],[],[],[],[],[],[],[],[],[],[],[],[],[]] [[],[],[],[],[],[],[],[],[],[],[],[],[],[],[],[],[],[],[],[],[],[],[],[],[],[],[],[]] Tryz.mo rfl rfl (by kernel_rfl) (by kernel_rfl) (by kernel_rfl) ?_;intro K hK hG
     have hk16:∀B:Bool,B= !decide (lyA L z=lyA L' z)->K [(2,.ptr 8 0 0 0),(3,.ptr 9 0 0 0),(7,.int .i64 z),(110,.bool B)] ⟨10,[(9,uQ (.row ⟨true,true,34,4,1,fun _=>[.slc false 4 0 0 ns'.length,.int .i64 ht',.slc false 5 0 0 L'.length,.slc false 7 0 0 C'.length]⟩)),(8,uQ (.row ⟨true,true,34,4,1,fun _=>[.slc false 0 0 0 ns.length,.int .i64 ht,.slc false 1 0 0 L.length,.slc false 3 0 0 C.length]⟩)),(0,uQ (.row ⟨false,false,62,3,ns.length,nds ns⟩)),(1,uQ (.row ⟨false,false,89,5,L.length,lyR 2 L⟩)),(2,(3*L.length+1,fam false 3 1 (lyF false L))),(3,uQ (.row ⟨false,false,58,3,C.length,cbs C⟩)),(4,uQ (.row ⟨false,false,62,3,ns'.length,nds ns'⟩)),(5,uQ (.row ⟨false,false,89,5,L'.length,lyR 6 L'⟩)),(6,(3*L'.length+1,fam false 3 1 (lyF false L'))),(7,uQ (.row ⟨false,false,58,3,C'.length,cbs C'⟩))]⟩:=by
      intro B hB;subst hB;refine hK _ _ ?_;clear hG hK K;refine z7 _ rfl ?_ ?_
      ·intro h110;have h110':¬lyA L z=lyA L' z:=by simpa using h110
       refine Zrs [4] ?_;refine ze (hR5 _ _ (hRL3 _ _ (hR4 _ _ (hQ _ _ ?_))))
       have hne:¬((⟨ns,ht,L,C⟩:Fo)=⟨ns',ht',L',C'⟩):=fun e=>by
        injection e with e1 e2 e3 e4
        exact h110' (by rw[e3])
       rw[qM hne];refine zc (H':=⟨8,[]⟩) (.inl rfl) ?_;refine Zou ?_;refine⟨Zs,(Zg id),Zs,?_⟩
       all_goals(first|trivial|exact⟨rfl,trivial⟩)
      ·intro h110;have h110':lyA L z=lyA L' z:=by simpa using h110
       refine za (zd (hN5 _ _ ?_));refine Zrg [2,3,7] ?_;refine zd (hL3 _ _ ?_);rw[show(z:Int)+1=((z+1:Nat):Int) from by omega];refine⟨z+1,⟨⟨by omega,fun q hq=> ?_⟩,by omega⟩,id,(Zg id)⟩
       by_cases e:q=z
       ·subst e;exact h110'
       ·exact hz2 q (by omega)
     refine Zo (ZT [] [] []) ?_;refine Zo (ZT [] [] []) ?_;refine Zo (ZT [] [] []) ?_;refine Zo (ZT [] [] []) ?_;refine Zo (ZT [] [] []) ?_;refine Zo (ZT [] [] []) ?_;refine Zo (ZT [] [] []) ?_;refine Zo (ZT [] [] []) ?_;refine Zo (ZT [] [] []) ?_;refine Zo (ZT [] [] []) ?_;refine Zo (ZT [] [] []) ?_;refine Zc1 (sameShapeM_spec L L' ha hb z z L.length L'.length (by omega) (by omega)) (fun q=>if q=0 then 2 else if q=1 then 6 else q) ?_;refine Zo (ZT [] [] []) ?_;refine Zo (ZT [] [] []) ?_;refine Zo (ZT [] [] []) ?_;refine Zo (ZT [] [] []) ?_;refine Zo (ZT [] [] []) ?_;refine Zo (ZT [] [] []) ?_;refine Zo (ZT [] [] []) ?_;refine Zo (ZT [] [] []) ?_;refine Zo (ZT [] [] []) ?_;refine Zo (ZT [] [] []) ?_;refine Zo (ZT [] [] []) ?_;refine Zo (ZT [] [] []) ?_;refine Zo (ZT [] [] []) ?_;refine Zo (ZT [] [] []) ?_;refine z16 _ [] [] [] rfl rfl rfl rfl ?_;refine z1w rfl rfl ?_;refine Zgr ?_
     first|refine z1r ?_ ?_|refine(fun(h1:false=true->_) (h2:false=false->_)=>qe h1 fun _=>h2 rfl) ?_ ?_|refine qe ?_ ?_
     ·intro hg25
      first
       |(simp at hg25;done)
       |skip
        try replace hg25:=Znb hg25
        refine Zo id ?_;refine Zc1 (sameLM_spec L L' ha z z L.length L'.length (by omega) (by omega)) (fun q=>if q=0 then 2 else if q=1 then 6 else q) ?_;refine Zo (ZT [] [] []) ?_
        try with_reducible refine qe (by clear hk16;simp_all;done) ?_
        repeat(with_reducible apply qe;exact sdE)
        refine Zo (ZT [] [] []) ?_
        try with_reducible refine qe (by clear hk16;simp_all;done) ?_
        repeat(with_reducible apply qe;exact sdE)
        refine z17 ?_;refine Zpr ?_;refine hk16 _ ?_;rw[<-shpS_same];clear hk16 hG hK K;simp_all
     ·intro hg25;refine⟨.bool false,?_⟩
      first
       |(simp at hg25;done)
       |skip
        try replace hg25:=Znb hg25
        refine Zo (ZT [] [] []) ?_
        try with_reducible refine qe (by clear hk16;simp_all;done) ?_
        repeat(with_reducible apply qe;exact sdE)
        refine Zo (ZT [] [] []) ?_
        try with_reducible refine qe (by clear hk16;simp_all;done) ?_
        repeat(with_reducible apply qe;exact sdE)
        refine z17 ?_;refine Zpr ?_;refine hk16 _ ?_;rw[<-shpS_same];clear hk16 hG hK K;simp_all
    ·intro h80;replace h80:=Znb h80;obtain⟨hz1,hz2⟩:=hz3;have hLe:L=L':=ly_ext hll fun q hq=>hz2 q (by omega);refine zm (hEL3 _ _ _ (hX4 _ _ ?_));refine Zrs [4] ?_;refine ze (hQ _ _ ?_);subst hh hns hCe hLe;rw[qL rfl];refine zc (H':=⟨8,[]⟩) (.inl rfl) ?_;refine Zou ?_;refine⟨Zs,(Zg id),Zs,?_⟩
     all_goals(first|trivial|exact⟨rfl,trivial⟩)
end
section
theorem rowsOf_two (a b:Int):z42 1 2 [SV.int .i64 a,SV.int .i64 b]=ints [a,b]:=rfl
theorem rowsOf_five (a b c d e:Int):z42 1 5 [SV.int .i64 a,SV.int .i64 b,SV.int .i64 c,SV.int .i64 d,SV.int .i64 e]=ints [a,b,c,d,e]:=rfl
theorem nds_0 (xs:List Nd)(i:Nat):(nds xs i)[0]? =some (.int .i64 (nd xs i).id):=rfl
theorem nds_1 (xs:List Nd)(i:Nat):(nds xs i)[1]? =some (.str (nd xs i).key):=rfl
theorem nds_2 (xs:List Nd)(i:Nat):(nds xs i)[2]? =some (.int .u32 (nd xs i).word):=rfl
theorem nds_take (xs:List Nd)(i:Nat):(nds xs i).take 3=[.int .i64 (nd xs i).id,.str (nd xs i).key,.int .u32 (nd xs i).word]:=rfl
def ec51:=aj6 @rowsOf_two @rowsOf_five @nds_0 @nds_1 @nds_2 @nds_take
def RotEm.exE:=aj9 @zg @zh @zq @zk @z14 @z1a @zi @zy (aj9 @zo @zl z5u @zp ec0 @zw.eq_1 z47 @z19.eq_1 (aj7 @z12.eq_1 @app_nds ec24 @z1b @z2m ec51 @rowsOf_three))
def RotEm.gxE:=aj7 z47 ec16 @z19.eq_1 @z12.eq_1 @z1x @z1u @zw.eq_1
def RotEm.axE:=aj9 @zg @zh @zq @zk @z14 @z1a @zi @zy (aj9 @zo @zl z5u @zp ec0 @zw.eq_1 z47 @z19.eq_1 (aj9 @z12.eq_1 @app_nds ec24 @z1b @z2m ec51 @rowsOf_three @z2e @z1v))
open RotEm (gxE axE exE)
open D0 (sdE oxE)
theorem roster_spec (ls:List Int)(m at_:Nat)(n:Int)(hx:ls.length<=9223372036854775807)(hm:m<=ls.length)(ha:at_<=m)(hn:1<=n/\n<=64):
  zf prog 11 [.ptr 0 0 0 0,.int .i64 n] ⟨2,[(0,zw 1 m at_),(1,z19 ls)]⟩
   (fun s H'=> ∃(xs:List Nd) (at':Nat),at'<=m/\xs.length<=n/\z1j xs=0/\s= .slc true 2 0 0 xs.length/\H'=⟨3,[(2,z65 xs),(0,zw 1 m at')]⟩):=by
 refine zf.ofC false 37 [.tmp 4] func11 rfl rfl ntmps11 results11 rfl ?_;intro w0 own0 β0 Q hQ hQn;simp only[z1c];refine Zrs [0,1] ?_;refine Zrs [0,1,5] ?_;refine z6 ?_;refine sg [0,1,5,6] rfl ?_;intro K hK;iterate 3 (refine Zo Zl ?_)
 refine Zo Zl ?_;refine Zca (z20 ls m at_ (n+1) hx hm ha (by omega)) (id) ?_;rintro s0 H0 ⟨v,at1,h1,h2,h3,h4,rfl,rfl⟩ s1 H1 hs1 hH1;obtain⟨hs2,hH2⟩:=Zaf hs1 hH1;clear hs1 hH1;subst hs2 hH2;repeat(with_reducible apply qe;exact sdE)
 have hv:=h3 (by omega);refine Zo Zl ?_;refine z8 (Zpr (hK _ _ ?_));clear hK K;refine z29 5 62 3 (nds []) rfl ?_;dsimp only;refine zb fun Q0 hN0 hX0 hR0 hE0=> ?_;refine zn (σ:=List Nd×Nat×Nat) (fun σ=>σ.2.1<=m/\(σ.1.length:Int)+σ.2.2<=n/\z1j σ.1=0) (fun σ=>σ.2.2) (fun σ=>[(0,.ptr 0 0 0 0),(1,.int .i64 n),(5,.slc true 2 0 0 σ.1.length),(6,.int .i64 σ.2.2)]) (fun σ=>⟨3,[(2,z65 σ.1),(0,zw 1 m σ.2.1),(1,z19 ls)]⟩) ([],at1,v.toNat) ⟨h1,by simp;omega,rfl⟩ (ρ:=id) (by rw[show v=(v.toNat:Int) by omega];exact(Zg id)) ?_;rintro⟨ys,at2,k⟩ hi QL1 hL1 hRL1 hEL1;refine z6 ?_;refine Zrs [0,1,5,6,13] ?_;refine z7 _ rfl ?_ ?_
 ·intro h13;replace h13:=Znb h13;obtain⟨hi1,hi2,hi3⟩:=hi;dsimp only at hi1 hi2 hi3;refine za (z6 (zb fun Q1 hN1 hX1 hR1 hE1=> ?_));refine sg [0,1,5,6,7] rfl ?_;intro K hK;iterate 3 (refine Zo Zl ?_)
  refine Zo Zl ?_;refine Zca (z20 ls m at2 (3*n) hx hm hi1 (by omega)) (id) ?_;rintro s0 H0 ⟨u,at3,g1,g2,g3,g4,rfl,rfl⟩ s1 H1 hs1 hH1;obtain⟨hs2,hH2⟩:=Zaf hs1 hH1;clear hs1 hH1;subst hs2 hH2;repeat(with_reducible apply qe;exact sdE)
  have hu:=g3 (by omega);iterate 2 (refine Zo Zl ?_)
  refine Zo Zl ?_;refine Zca (key_spec ls m at3 hx hm g1) (id) ?_;rintro s0 H0 ⟨key,at4,g5,g6,rfl,rfl⟩ s1 H1 hs1 hH1;obtain⟨hs2,hH2⟩:=Zaf hs1 hH1;clear hs1 hH1;subst hs2 hH2;repeat(with_reducible apply qe;exact sdE)
  refine Zo Zl ?_;refine Zo Zl ?_;refine Zca (word_spec ls m at4 hx hm g5) (id) ?_;rintro s0 H0 ⟨w,at5,g7,g8,g9,rfl,rfl⟩ s1 H1 hs1 hH1;obtain⟨hs2,hH2⟩:=Zaf hs1 hH1;clear hs1 hH1;subst hs2 hH2;repeat(with_reducible apply qe;exact sdE)
  iterate 3 (refine Zo Zl ?_)
  refine z8 (Zpr (hK _ _ ?_));clear hK K;refine z6 ?_;refine Zrt [0,1,5,6,7,31] (.op 0 (.op 2 (.two 1 3 (.op 3 (.op 4 (.op 5 .done))) (.op 1 (.op 4 (.op 5 .done)))))) [[],[],[],[],[999999],[]] [[],[],[],[],[],[]] ?_;intro K hK hG
  have hk6:K [(0,.ptr 0 0 0 0),(1,.int .i64 n),(5,.slc true 2 0 0 ys.length),(6,.int .i64 k),(7,.ptr 3 0 0 0),(31,.bool (z1j (ys++[⟨1+u,key,w⟩])==0))] ⟨4,[(3,uQ (.row ⟨true,true,62,3,1,fun _=>[.int .i64 (1+u),.str key,.int .u32 w]⟩)),(2,z65 ys),(0,zw 1 m at5),(1,z19 ls)]⟩:=by
   refine hK _ _ ?_;clear hG hK K;refine z7 _ rfl ?_ ?_
   ·intro h31;replace h31:=Znb h31;refine Zrg [0,1,5,6] ?_;refine zd (hN1 _ _ ?_);refine Zrg [0,1,5,6] ?_;refine zd (hL1 _ _ ?_);refine⟨(ys++[⟨1+u,key,w⟩],at5,k-1),⟨⟨g7,by simp only[Qn,QC];omega,h31⟩,by dsimp only;omega⟩,fun i=>if i=2 then 5 else i,(have xE:((k-1:Nat):Int)=(k:Int)-1:=(by omega);Zgx (fun i=>if i=2 then 5 else i))⟩
   ·intro h31;replace h31:=Znb h31;refine za (zd (hN1 _ _ ?_));refine Zrg [0,1,5,6] ?_;refine zd (hL1 _ _ ?_);refine⟨(ys,at5,k-1),⟨⟨g7,by dsimp only;omega,hi3⟩,by dsimp only;omega⟩,id,(have xE:((k-1:Nat):Int)=(k:Int)-1:=(by omega);Zgx id)⟩
  refine Zo (ZT [] [] []) ?_;refine Zo (ZT [] [] []) ?_;refine z26 ?_ ?_
  ·skip
   refine Zo (ZT [] [] []) ?_;refine Zo (ZT [] [] []) ?_;refine Zo (ZT [0,1,2,3,4,5] [] []) ?_;refine Zo (ZT [] [] []) ?_;refine Zc1 (refIs_spec (ys++[⟨1+u,key,w⟩]) (ys.length+1) (by simp) (by omega)) (fun _=>6) ?_;refine z17 ?_;refine Zpr ?_;exact hG _ _ _ _ id (Zg id) hk6
  ·skip
   refine Zo (ZT [] [] []) ?_;refine Zo (ZT [] [] []) ?_;refine Zo (ZT [0,1,2,3,4,5] [] []) ?_;refine Zo (ZT [] [] []) ?_;refine Zc1 (refIs_spec (ys++[⟨1+u,key,w⟩]) (ys.length+1) (by simp) (by omega)) (fun _=>6) ?_;refine z17 ?_;refine Zpr ?_;exact hG _ _ _ _ id (Zg id) hk6
 ·intro h13;replace h13:=Znb h13;obtain⟨hi1,hi2,hi3⟩:=hi;dsimp only at hi1 hi2 hi3;refine zm (hEL1 _ _ _ (hX0 _ _ ?_));refine Zrs [4] ?_;refine ze (hQ _ _ ?_);refine zc (H':=⟨3,[(2,z65 ys),(0,zw 1 m at2)]⟩) (.inl rfl) ?_;refine Zou ?_;refine⟨Zs,(Zg id),Zs,?_⟩;exact⟨ys,at2,hi1,by omega,hi3,by trivial,by trivial⟩
theorem some_spec (ls:List Int)(m at_:Nat)(n:Int)(hx:ls.length<=9223372036854775807)(hm:m<=ls.length)(ha:at_<=m)(hn:1<=n/\n<=64):
  zf prog 56 [.ptr 0 0 0 0,.int .i64 n] ⟨2,[(0,zw 1 m at_),(1,z19 ls)]⟩
   (fun s H'=> ∃(xs:List Nd) (at':Nat),at'<=m/\0<xs.length/\xs.length<=n/\z1j xs=0/\s= .slc true 2 0 0 xs.length/\H'=⟨3,[(2,z65 xs),(0,zw 1 m at')]⟩):=by
 refine zf.ofC false 24 [.tmp 4] func56 rfl rfl ntmps56 results56 rfl ?_;intro w0 own0 β0 Q hQ hQn;simp only[z1c];refine Zrs [0,1] ?_;refine sg [0,1,5] rfl ?_;intro K hK;iterate 2 (refine Zo Zl ?_)
 refine Zo Zl ?_;refine Zca (roster_spec ls m at_ n hx hm ha hn) (id) ?_;rintro s0 H0 ⟨xs,at1,h1,h2,h3,rfl,rfl⟩ s1 H1 hs1 hH1;obtain⟨hs2,hH2⟩:=Zaf hs1 hH1;clear hs1 hH1;subst hs2 hH2;repeat(with_reducible apply qe;exact sdE)
 refine Zo Zl ?_;refine z8 (Zpr (hK _ _ ?_));clear hK K;refine z6 ?_;refine Zrs [0,1,5,11] ?_;refine z7 _ rfl ?_ ?_
 ·intro h11;replace h11:=Znb h11;refine z4p [5] rfl ?_;intro K hK;iterate 3 (refine Zo Zl ?_)
  refine Zo Zl ?_;refine Zca (z20 ls m at1 (3*n) hx hm h1 (by omega)) (id) ?_;rintro s0 H0 ⟨u,at3,g1,g2,g3,g4,rfl,rfl⟩ s1 H1 hs1 hH1;obtain⟨hs2,hH2⟩:=Zaf hs1 hH1;clear hs1 hH1;subst hs2 hH2;repeat(with_reducible apply qe;exact sdE)
  have hu:=g3 (by omega);iterate 2 (refine Zo Zl ?_)
  refine Zo Zl ?_;refine Zca (key_spec ls m at3 hx hm g1) (id) ?_;rintro s0 H0 ⟨key,at4,g5,g6,rfl,rfl⟩ s1 H1 hs1 hH1;obtain⟨hs2,hH2⟩:=Zaf hs1 hH1;clear hs1 hH1;subst hs2 hH2;repeat(with_reducible apply qe;exact sdE)
  refine Zo Zl ?_;refine Zo Zl ?_;refine Zca (word_spec ls m at4 hx hm g5) (id) ?_;rintro s0 H0 ⟨w,at5,g7,g8,g9,rfl,rfl⟩ s1 H1 hs1 hH1;obtain⟨hs2,hH2⟩:=Zaf hs1 hH1;clear hs1 hH1;subst hs2 hH2;repeat(with_reducible apply qe;exact sdE)
  iterate 3 (refine Zo Zl ?_)
  refine z8 (Zpr (hK _ _ ?_));clear hK K;refine Zrs [4] ?_;refine ze (hQ _ _ ?_);refine zu (fun i=>if i=2 then 3 else i) (.slc true 2 0 0 1) (⟨3,[(2,z65 [⟨1+u,key,w⟩]),(0,zw 1 m at5)]⟩) (.inl rfl) ?_;refine Zou ?_;refine⟨Zs,Zs,(Zg (fun i=>if i=2 then 3 else i)),Zs,?_⟩;refine⟨[⟨1+u,key,w⟩],at5,g7,by simp,by simp;omega,?_,by trivial,by trivial⟩
  have h1:badN ⟨1+u,key,w⟩=false:=by
   simp only[badN,okKey,okWord,qi,qg,qq,qj];omega
  rw[z1j,qb (by simp),z1y (fun i hi=> ?_),qb qp,z1y (fun i hi=> ?_),qb qp]
  ·simp only[QC] at hi;have:i=0:=by omega
   subst this;exact z1y fun k hk=>by omega
  ·simp only[QC] at hi;have:i=0:=by omega
   subst this;exact h1
 ·intro h11;replace h11:=Znb h11;refine za ?_;refine Zrs [4] ?_;refine ze (hQ _ _ ?_);refine zc (H':=⟨3,[(2,z65 xs),(0,zw 1 m at1)]⟩) (.inl rfl) ?_;refine Zou ?_;refine⟨Zs,(Zg id),Zs,?_⟩;exact⟨xs,at1,h1,by omega,h2,h3,by trivial,by trivial⟩
theorem id_spec (ls:List Int)(m at_:Nat)(hx:ls.length<=9223372036854775807)(hm:m<=ls.length)(ha:at_<=m)(xs:List Nd)(n:Nat)(hn:xs.length=n)(hnx:n<=1000000):
  zf prog 24 [.ptr 0 0 0 0,.slc false 2 0 0 n] ⟨3,[(0,zw 1 m at_),(1,z19 ls),(2,uQ (.row ⟨false,false,62,3,n,nds xs⟩))]⟩
   (fun s H'=> ∃(v:Int) (at':Nat),at'<=m/\s= .int .i64 v/\H'=⟨3,[(0,zw 1 m at')]⟩):=by
 refine zf.ofC false 23 [.tmp 4] func24 rfl rfl ntmps24 results24 rfl ?_;intro w0 own0 β0 Q hQ hQn;simp only[z1c];refine Zrs [0,1] ?_;refine z6 ?_;refine sg [0,1,11] rfl ?_;intro K hK
 have hk1:∀(B:Bool) (at1:Nat),at1<=m->(B=false->0<n)->K [(0,.ptr 0 0 0 0),(1,.slc false 2 0 0 n),(11,.bool B)] ⟨3,[(0,zw 1 m at1),(1,z19 ls),(2,uQ (.row ⟨false,false,62,3,n,nds xs⟩))]⟩:=by
  intro B at1 h1 hB;refine hK _ _ ?_;clear hK K;refine z7 _ rfl ?_ ?_
  ·intro h11
   refine sg [4] rfl ?_;intro K hK;iterate 2 (refine Zo Zl ?_)
   refine Zo Zl ?_;refine Zca (pick_spec ls [0,-1,999,4611686018427387904,1] m at1 hx hm h1 (by simp) (by simp)) (fun i=>if i=2 then 3 else i) ?_;rintro s0 H0 ⟨i6,at6,p1,p2,rfl,rfl⟩ s1 H1 hs1 hH1;obtain⟨hs2,hH2⟩:=Zaf hs1 hH1;clear hs1 hH1;subst hs2 hH2;repeat(with_reducible apply qe;exact sdE)
   refine Zo Zl ?_;refine z8 (Zpr (hK _ _ ?_));clear hK K;refine ze (hQ _ _ ?_);refine zc (H':=⟨3,[(0,zw 1 m at6)]⟩) (.inl rfl) ?_;refine Zou ?_;refine⟨Zs,(Zg id),Zs,?_⟩;exact⟨_,at6,p1,rfl,by trivial⟩
  ·intro h11;have hpos:=hB h11;refine za ?_;refine sg [4] rfl ?_;intro K hK;iterate 4 (refine Zo Zl ?_)
   refine Zo Zl ?_;refine Zca (z20 ls m at1 n hx hm h1 (by omega)) (id) ?_;rintro s0 H0 ⟨u,at3,g1,g2,g3,g4,rfl,rfl⟩ s1 H1 hs1 hH1;obtain⟨hs2,hH2⟩:=Zaf hs1 hH1;clear hs1 hH1;subst hs2 hH2;repeat(with_reducible apply qe;exact sdE)
   have hu:=g3 (by omega);iterate 4 (refine Zo Zl ?_)
   refine z8 (Zpr (hK _ _ ?_));clear hK K;refine ze (hQ _ _ ?_);refine zc (H':=⟨3,[(0,zw 1 m at3)]⟩) (.inl rfl) ?_;refine Zou ?_;refine⟨Zs,(Zg id),Zs,?_⟩;exact⟨_,at3,g1,rfl,by trivial⟩
 iterate 5 (refine Zo Zl ?_)
 refine z11 ?_;refine z1w rfl rfl ?_;refine Zgr ?_;refine z1r ?_ ?_
 ·intro hg5
  first
   |(simp at hg5;done)
   |skip
    try replace hg5:=Znb hg5
    refine Zo id ?_;refine Zca (bool_spec ls m at_ 8 hx hm ha (by omega) (by omega)) (id) ?_;rintro s0 H0 ⟨b,at1,h1,rfl,rfl⟩ s1 H1 hs1 hH1;obtain⟨hs2,hH2⟩:=Zaf hs1 hH1;clear hs1 hH1;subst hs2 hH2;repeat(with_reducible apply qe;exact sdE)
    refine Zo Zl ?_;refine z8 ?_;refine Zpr ?_;refine hk1 _ at1 h1 ?_;intro hb;simp at hb;omega
 ·intro hg5;refine⟨.bool false,?_⟩
  first
   |(simp at hg5;done)
   |skip
    try replace hg5:=Znb hg5
    refine Zo Zl ?_;refine z8 ?_;refine Zpr ?_;refine hk1 _ at_ ha ?_;intro hb;simp at hb hg5;omega
end
section
theorem sameNew_spec (ns:List Nd)(dn:List Int)(m n k:Nat)(ht:Int)(h:Fsh (z3x ns dn m ht))(hn:ns.length=n)(hk:(z3x ns dn m ht).ly.length=k)(hx:n<=1000000)(hy:m<=1000000):
  zf prog 18 [.agg [.slc false 0 0 0 n,.int .i64 ht,.slc false 1 0 0 k,.slc false 3 0 0 m],.agg [.slc false 4 0 0 n,.int .i64 ht,.slc false 5 0 0 k,.slc false 7 0 0 m]]
   ⟨8,[(0,uQ (.row ⟨false,false,62,3,n,nds ns⟩)),(1,uQ (.row ⟨false,false,89,5,k,lyR 2 (z3x ns dn m ht).ly⟩)),(2,(3*k+1,fam false 3 1 (lyF false (z3x ns dn m ht).ly))),(3,uQ (.row ⟨false,false,58,3,m,cbs (List.replicate m noCb)⟩)),(4,uQ (.row ⟨false,false,62,3,n,nds ns⟩)),(5,uQ (.row ⟨false,false,89,5,k,lyR 6 (z3x ns dn m ht).ly⟩)),(6,(3*k+1,fam false 3 1 (lyF false (z3x ns dn m ht).ly))),(7,uQ (.row ⟨false,false,58,3,m,cbs (List.replicate m noCb)⟩))]⟩
   (fun s H1=>s= .bool true/\H1=⟨8,[]⟩):=by
 have hm:(z3x ns dn m ht).cb.length=m:=Qr;have g:=sameF_spec (z3x ns dn m ht) (z3x ns dn m ht) h.lyB h.lyB n k m n k m hn hk hm hn hk hm hx hy (by have:=h.lyB.1;omega);rw[qL rfl] at g;exact g
theorem findI_idL {xs:List Nd}{dn:List Int}(h:dn.Sublist (idL5 xs)):∀v∈dn,0<=findI xs v:=fun v hv=>by
 have:=h.subset hv;rw[idL5,Qy] at this;obtain⟨x,hx,rfl⟩:=this;exact findI_of hx
def JoQm.exE:=aj9 @z1b @zg @zh @zq @zk @z14 @z1a ec2 (aj9 @zi @zy @zo @zl z5u @zp z47 z4n (aj9 @zz ec3 ec5 @z19.eq_1 @z12.eq_1 @ints.eq_1 ec34 ec35 (aj4 ec36 ec0 @zw.eq_1 @z1f)))
def JoQm.gxE:=aj9 @z1b z47 ec16 z4n ec3 ec7 ec8 @z19.eq_1 (aj7 @z12.eq_1 @z1x @z1u ec37 ec26 ec29 @zw.eq_1)
def JoQm.axE:=aj9 @z1b @zg @zh @zq @zk @z14 @z1a ec2 (aj9 @zi @zy @zo @zl z5u @zp z47 z4n (aj9 @zz ec3 ec5 @z19.eq_1 @z12.eq_1 ec34 ec35 ec0 (aj8 @zw.eq_1 @z1f @z1v @z2e @z2t @z34 ec38 @z3z)))
open JoQm (gxE axE exE)
open JnNm (oxE)
open D0 (sdE)
theorem made_spec (ls:List Int)(mm at_:Nat)(hx:ls.length<=9223372036854775807)(hm:mm<=ls.length)(ha:at_<=mm):
  zf prog 20 [.ptr 0 0 0 0] ⟨2,[(0,zw 1 mm at_),(1,z19 ls)]⟩
   (fun s H'=> ∃(ns:List Nd) (dn:List Int) (m:Nat) (ht:Int) (at':Nat),(MkF ns m ht/\at'<=mm)/\s= .tup [.agg [.slc true 2 0 0 ns.length,.int .i64 ht,.slc true 3 0 0 (z3x ns dn m ht).ly.length,.slc true 5 0 0 m],.bool true]/\
    H'=⟨6,[(0,zw 1 mm at'),(2,uQ (.row ⟨true,false,62,3,ns.length,nds ns⟩)),(3,uQ (.row ⟨true,false,89,5,(z3x ns dn m ht).ly.length,lyR 4 (z3x ns dn m ht).ly⟩)),(4,(3*(z3x ns dn m ht).ly.length+1,fam true 3 1 (lyF true (z3x ns dn m ht).ly))),(5,uQ (.row ⟨true,false,58,3,m,cbs (List.replicate m noCb)⟩))]⟩):=by
 refine zf.ofC false 71 [.cell 2 34,.tmp 3] func20 rfl rfl ntmps20 results20 rfl ?_;intro w0 own0 β0 Q hQ hQn;simp only[z1c];refine Zrs [0,2] ?_;refine sg [0,2,4] rfl ?_;intro K hK;refine Zo Zl ?_;refine Zo Zl ?_;refine Zca (some_spec ls mm at_ 6 hx hm ha (by omega)) (id) ?_;rintro s0 H0 ⟨xs,at1,g1,g2,g3,g4,rfl,rfl⟩ s1 H1 hs1 hH1;obtain⟨hs2,hH2⟩:=Zaf hs1 hH1;clear hs1 hH1;subst hs2 hH2;repeat(with_reducible apply qe;exact sdE)
 refine Zo Zl ?_;refine z8 (Zpr (hK _ _ ?_));clear hK K;refine Zrs [0,2,4,5] ?_;refine z6 ?_;refine Zrs [0,2,4,5,6] ?_;refine z29 5 3 1 (ints []) rfl ?_;dsimp only;refine zb fun Q0 hN0 hX0 hR0 hE0=> ?_;refine zn (σ:=Nat×List Int×Nat) (fun σ=>σ.1<=xs.length/\σ.2.1.Sublist (idL5 (xs.take σ.1))/\σ.2.2<=mm) (fun σ=>xs.length-σ.1) (fun σ=>[(0,.ptr 0 0 0 0),(2,.ptr 2 0 0 0),(4,.slc true 3 0 0 xs.length),(5,.slc true 4 0 0 σ.2.1.length),(6,.int .i64 σ.1)]) (fun σ=>⟨5,[(4,uQ (.row ⟨true,false,3,1,σ.2.1.length,ints σ.2.1⟩)),(3,uQ (.row ⟨true,false,62,3,xs.length,nds xs⟩)),(2,uQ (.row ⟨true,true,34,4,1,fun _=>[.nils,.int .i64 0,.nils,.nils]⟩)),(0,zw 1 mm σ.2.2),(1,z19 ls)]⟩) (0,[],at1) ⟨qo _,by simp[idL5],g1⟩ (ρ:=id) (have xE:=@z65.eq_1;Zgx id) ?_;rintro⟨i,dn,at2⟩ hi QL1 hL1 hRL1 hEL1;obtain⟨hi1,hi2,hi3⟩:=hi;dsimp only at hi1 hi2 hi3
 have hdl:dn.length<=6:=by
  have:=hi2.length_le;rw[idL5,qA,qS] at this;omega
 refine z6 ?_;refine Zrs [0,2,4,5,6,18] ?_;refine z7 _ rfl ?_ ?_
 ·intro h18;replace h18:=Znb h18;refine za (z6 (zb fun Q1 hN1 hX1 hR1 hE1=> ?_));refine sg [0,2,4,5,6,22] rfl ?_;intro K hK;refine Zo Zl ?_;refine Zo Zl ?_;refine Zca (bool_spec ls mm at2 2 hx hm hi3 (by omega) (by omega)) (id) ?_;rintro s0 H0 ⟨b,at3,k1,rfl,rfl⟩ s1 H1 hs1 hH1;obtain⟨hs2,hH2⟩:=Zaf hs1 hH1;clear hs1 hH1;subst hs2 hH2;repeat(with_reducible apply qe;exact sdE)
  refine z8 (Zpr (hK _ _ ?_));clear hK K;refine z7 _ rfl ?_ ?_
  ·intro h22
   refine Zrg [0,2,4,5,6] ?_;refine zd (hN1 _ _ ?_);refine Zrg [0,2,4,5,6] ?_;refine zd (hL1 _ _ ?_);rw[app_intsN rfl,show(i:Int)+1=((i+1:Nat):Int) from by omega];refine⟨(i+1,dn++[(nd xs i).id],at3),⟨⟨by dsimp only;omega,?_,k1⟩,by dsimp only;omega⟩,fun q=>if q=4 then 6 else q,(Zg (fun q=>if q=4 then 6 else q))⟩;dsimp only;rw[idL5_take (by omega)];exact hi2.append (List.Sublist.refl _)
  ·intro h22
   refine za (zd (hN1 _ _ ?_));refine Zrg [0,2,4,5,6] ?_;refine zd (hL1 _ _ ?_);rw[show(i:Int)+1=((i+1:Nat):Int) from by omega];refine⟨(i+1,dn,at3),⟨⟨by dsimp only;omega,?_,k1⟩,by dsimp only;omega⟩,id,(Zg id)⟩;dsimp only;rw[idL5_take (by omega)];exact hi2.trans (List.sublist_append_left ..)
 ·intro h18;replace h18:=Znb h18;have hie:i=xs.length:=by omega
  subst hie;rw[Qt (qc _)] at hi2;have hnd:dn.Nodup:=hi2.nodup (ids_nodup g4);refine zm (hEL1 _ _ _ (hX0 _ _ ?_));refine sg [2,4,5,7,8] rfl ?_;intro K hK;refine Zo Zl ?_;refine Zo Zl ?_;refine Zca (z20 ls mm at2 2 hx hm hi3 (by omega)) (id) ?_;rintro s0 H0 ⟨v,at4,v1,v2,v3,v4,rfl,rfl⟩ s1 H1 hs1 hH1;obtain⟨hs2,hH2⟩:=Zaf hs1 hH1;clear hs1 hH1;subst hs2 hH2;repeat(with_reducible apply qe;exact sdE)
  have v5:=v3 (by omega);obtain⟨m,hmv⟩:∃m:Nat,2+v=m:=⟨(2+v).toNat,by omega⟩;refine Zo Zl ?_;rw[hmv];repeat(with_reducible apply qe;exact sdE)
  refine Zo Zl ?_;refine Zo Zl ?_;refine Zca (z20 ls mm at4 4 hx hm v1 (by omega)) (id) ?_;rintro s0 H0 ⟨u,at5,u1,u2,u3,u4,rfl,rfl⟩ s1 H1 hs1 hH1;obtain⟨hs2,hH2⟩:=Zaf hs1 hH1;clear hs1 hH1;subst hs2 hH2;repeat(with_reducible apply qe;exact sdE)
  have u5:=u3 (by omega);have hsh:=newF_sh (dn:=dn) g4 (by omega) u2 (show u<=16 by omega) (m:=m) (by omega) (by omega);have hmk:MkF xs m u:=⟨g4,by omega,by omega,by omega,u2,by omega⟩;iterate 2 (refine Zo Zl ?_)
  refine z8 (Zpr (hK _ _ ?_));clear hK K;refine sg [2,4,5,7,8,9,10] rfl ?_;intro K hK;iterate 4 (refine Zo Zl ?_)
  refine Zo Zl ?_;refine Zc1 (New_ok xs dn m xs.length dn.length u rfl rfl g4 (by omega) (by omega) (by omega) u2 (by omega) (by omega) (findI_idL hi2) hnd) (fun q=>if q=0 then 3 else if q=1 then 4 else q) ?_;iterate 6 (refine Zo Zl ?_)
  refine z8 (Zpr (hK _ _ ?_));clear hK K;refine sg [2,7,9,10,11,12] rfl ?_;intro K hK;iterate 4 (refine Zo Zl ?_)
  refine Zo Zl ?_;refine Zc1 (refNewF_spec xs dn m xs.length dn.length u rfl rfl g4 (by omega) (by omega) u2 (by omega) (by omega) (findI_idL hi2) hnd) (fun q=>if q=0 then 3 else if q=1 then 4 else q) ?_;iterate 6 (refine Zo Zl ?_)
  refine z8 (Zpr (hK _ _ ?_));clear hK K;refine z6 ?_;refine Zrt [2,3] (.op 0 (.op 1 (.op 2 (.op 3 (.op 4 (.op 5 (.op 6 (.op 7 (.op 8 (.op 9 (.op 10 (.op 11 (.op 12 (.op 13 (.op 16 (.two 14 19 (.op 15 (.op 17 (.op 18 (.op 19 (.op 20 .done))))) (.op 14 (.op 15 (.op 17 (.op 18 (.op 20 .done))))))))))))))))))))) [[],[],[],[],[],[],[],[],[],[],[],[],[],[],[],[],[],[],[],[2],[]] [[],[],[],[],[],[],[],[],[],[],[],[],[],[2],[2],[2],[2],[2],[2],[2],[2]] ?_;intro K hK hG
  have hk11:K [(2,.ptr 2 0 0 0),(3,.bool true)] ⟨9,[(2,uQ (.row ⟨true,true,34,4,1,fun _=>[.slc true 5 0 0 xs.length,.int .i64 u,.slc true 6 0 0 (z3x xs dn m u).ly.length,.slc true 8 0 0 m]⟩)),(5,uQ (.row ⟨true,false,62,3,xs.length,nds xs⟩)),(6,uQ (.row ⟨true,false,89,5,(z3x xs dn m u).ly.length,lyR 7 (z3x xs dn m u).ly⟩)),(7,(3*(z3x xs dn m u).ly.length+1,fam true 3 1 (lyF true (z3x xs dn m u).ly))),(8,uQ (.row ⟨true,false,58,3,m,cbs (List.replicate m noCb)⟩)),(0,zw 1 mm at5)]⟩:=by
   refine hK _ _ ?_;clear hG hK K;refine ze (hQ _ _ ?_);refine zu (fun q=>if q=2 then 5 else if q=3 then 6 else if q=4 then 7 else if q=5 then 8 else q) (.tup [.agg [.slc true 2 0 0 xs.length,.int .i64 u,.slc true 3 0 0 (z3x xs dn m u).ly.length,.slc true 5 0 0 m],.bool true]) (⟨6,[(0,zw 1 mm at5),(2,uQ (.row ⟨true,false,62,3,xs.length,nds xs⟩)),(3,uQ (.row ⟨true,false,89,5,(z3x xs dn m u).ly.length,lyR 4 (z3x xs dn m u).ly⟩)),(4,(3*(z3x xs dn m u).ly.length+1,fam true 3 1 (lyF true (z3x xs dn m u).ly))),(5,uQ (.row ⟨true,false,58,3,m,cbs (List.replicate m noCb)⟩))]⟩) (.inl rfl) ?_;refine Zou ?_;refine⟨Zs,Zs,(Zg (fun q=>if q=2 then 5 else if q=3 then 6 else if q=4 then 7 else if q=5 then 8 else q)),Zs,?_⟩;exact⟨xs,dn,m,u,at5,⟨hmk,u1⟩,by trivial,by trivial⟩
  refine Zo (ZT [] [] []) ?_;refine Zo (ZT [] [] []) ?_;refine Zo (ZT [] [] []) ?_;refine Zo (ZT [] [] []) ?_;refine Zo (ZT [] [] []) ?_;refine Zo (ZT [] [] []) ?_;refine Zo (ZT [] [] []) ?_;refine Zo (ZT [] [] []) ?_;refine Zo (ZT [] [] []) ?_;refine Zo (ZT [] [] []) ?_;refine z16 _ [] [] [] rfl rfl rfl rfl ?_;refine z1w rfl rfl ?_;refine Zgr ?_;refine⟨fun _=> ?_,fun h=>(by cases h)⟩;refine Zo id ?_;refine Zc1 (sameNew_spec xs dn m xs.length (z3x xs dn m u).ly.length u hsh rfl rfl (by omega) (by omega)) (fun q=>if q=0 then 5 else if q=1 then 6 else if q=2 then 7 else if q=3 then 8 else q+6) ?_;refine Zo (ZT [] [] []) ?_;refine Zo (ZT [] [] []) ?_;refine Zo (ZT [] [2] []) ?_;refine Zo (ZT [] [2] []) ?_;refine z26 ?_ ?_
  ·skip
   refine Zo (ZT [] [2] []) ?_;refine Zo (ZT [] [2] []) ?_;refine Zo (ZT [] [2] []) ?_;refine Zo (ZT [] [2] []) ?_;refine Zo (ZT [2] [2] []) ?_;refine Zo (ZT [] [2] []) ?_;refine z17 ?_;refine Zpr ?_;exact hG _ _ _ _ id (Zg id) hk11
  ·skip
   refine Zo (ZT [2] [2] []) ?_;refine Zo (ZT [] [2] []) ?_;refine Zo (ZT [] [2] []) ?_;refine Zo (ZT [] [2] []) ?_;refine Zo (ZT [] [2] []) ?_;refine Zo (ZT [] [2] []) ?_;refine z17 ?_;refine Zpr ?_;exact hG _ _ _ _ id (Zg id) hk11
end
end Go.Proofs
