/-
  Walks and plain facts, joined: part 6 of 6.
  Conditions: those that each statement names.
-/
import Derived.Test.YtpnefndionckaaaGreatDoorRke
import Derived.Test.YtpnefndionckaaaGreatDoorRkb
import Derived.Test.YtpnefndionckaaaGreatDoorRkc
import Derived.Test.YtpnefndionckaaaGreatDoorRkd
set_option linter.unusedSimpArgs false
set_option linter.unusedVariables false
set_option linter.defProp false
set_option maxRecDepth 4000
set_option maxHeartbeats 8000000
namespace Go.Proofs
open Go.Sk
theorem sameNew_spec (ns:List Nd)(dn:List Int)(m n k:Nat)(ht:Int)(h:Fsh (z3e ns dn m ht))(hn:ns.length=n)(hk:(z3e ns dn m ht).ly.length=k)(hx:n≤1000000)(hy:m≤1000000):
  zf Tryz.prog 18 [.agg [.slc false 0 0 0 n,.int .i64 ht,.slc false 1 0 0 k,.slc false 3 0 0 m],.agg [.slc false 4 0 0 n,.int .i64 ht,.slc false 5 0 0 k,.slc false 7 0 0 m]]
   ⟨8,[(0,uQ (.row ⟨false,false,62,3,n,nds ns⟩)),(1,uQ (.row ⟨false,false,89,5,k,lyR 2 (z3e ns dn m ht).ly⟩)),(2,(3*k+1,fam false 3 1 (lyF false (z3e ns dn m ht).ly))),(3,uQ (.row ⟨false,false,58,3,m,cbs (List.replicate m noCb)⟩)),(4,uQ (.row ⟨false,false,62,3,n,nds ns⟩)),(5,uQ (.row ⟨false,false,89,5,k,lyR 6 (z3e ns dn m ht).ly⟩)),(6,(3*k+1,fam false 3 1 (lyF false (z3e ns dn m ht).ly))),(7,uQ (.row ⟨false,false,58,3,m,cbs (List.replicate m noCb)⟩))]⟩
   (fun s H1=>s= .bool true∧H1=⟨8,[]⟩):=by
 have hm:(z3e ns dn m ht).cb.length=m:=List.length_replicate;have g:=sameF_spec (z3e ns dn m ht) (z3e ns dn m ht) h.lyB h.lyB n k m n k m hn hk hm hn hk hm hx hy (by have:=h.lyB.1;omega);rw[decide_eq_true rfl] at g;exact g
theorem findI_idL {xs:List Nd}{dn:List Int}(h:dn.Sublist (idL5 xs)):∀v∈dn,0≤findI xs v:=fun v hv=>by
 have:=h.subset hv;rw[idL5,List.mem_map] at this;obtain⟨x,hx,rfl⟩:=this;exact findI_of hx
def JoQm.exE:=aj @z1c (aj @zg (aj @zi (aj @zq (aj @zk (aj @z14 (aj @z19 (aj ec2 (aj @zj (aj @zy (aj @zu (aj @zl (aj ec13 (aj @zw (aj z40 (aj z4t (aj @z10 (aj ec3 (aj ec5 (aj @z18.eq_1 (aj @z11.eq_1 (aj @ints.eq_1 (aj ec34 (aj ec35 (aj ec36 (aj ec0 (aj @z12.eq_1 @z1i))))))))))))))))))))))))))
def JoQm.gxE:=aj @z1c (aj z40 (aj ec16 (aj z4t (aj ec3 (aj ec7 (aj ec8 (aj @z18.eq_1 (aj @z11.eq_1 (aj @z2d (aj @z20 (aj ec37 (aj ec26 (aj ec29 @z12.eq_1)))))))))))))
def JoQm.axE:=aj @z1c (aj @zg (aj @zi (aj @zq (aj @zk (aj @z14 (aj @z19 (aj ec2 (aj @zj (aj @zy (aj @zu (aj @zl (aj ec13 (aj @zw (aj z40 (aj z4t (aj @z10 (aj ec3 (aj ec5 (aj @z18.eq_1 (aj @z11.eq_1 (aj ec34 (aj ec35 (aj ec0 (aj @z12.eq_1 (aj @z1i (aj @z1s (aj @z2g (aj @z2s (aj @z3d (aj ec38 @z47))))))))))))))))))))))))))))))
open JoQm (gxE axE exE)
open JnNm (oxE)
open D0 (sdE)
theorem made_spec (ls:List Int)(mm at_:Nat)(hx:ls.length≤9223372036854775807)(hm:mm≤ls.length)(ha:at_≤mm):
  zf Tryz.prog 20 [.ptr 0 0 0 0] ⟨2,[(0,z12 1 mm at_),(1,z18 ls)]⟩
   (fun s H'=> ∃(ns:List Nd) (dn:List Int) (m:Nat) (ht:Int) (at':Nat),(MkF ns m ht∧at'≤mm)∧s= .tup [.agg [.slc true 2 0 0 ns.length,.int .i64 ht,.slc true 3 0 0 (z3e ns dn m ht).ly.length,.slc true 5 0 0 m],.bool true]∧
    H'=⟨6,[(0,z12 1 mm at'),(2,uQ (.row ⟨true,false,62,3,ns.length,nds ns⟩)),(3,uQ (.row ⟨true,false,89,5,(z3e ns dn m ht).ly.length,lyR 4 (z3e ns dn m ht).ly⟩)),(4,(3*(z3e ns dn m ht).ly.length+1,fam true 3 1 (lyF true (z3e ns dn m ht).ly))),(5,uQ (.row ⟨true,false,58,3,m,cbs (List.replicate m noCb)⟩))]⟩):=by
 refine zf.ofC false 71 [.cell 2 34,.tmp 3] Tryz.func20 rfl rfl Tryz.ntmps20 Tryz.results20 rfl ?_;intro w0 own0 β0 Q hQ hQn;simp only[z16];refine Zrs [0,2] ?_;refine sg [0,2,4] rfl ?_;intro K hK;refine Zo Zl ?_;refine Zo Zl ?_;refine Zca (some_spec ls mm at_ 6 hx hm ha (by omega)) (id) ?_;rintro s0 H0 ⟨xs,at1,g1,g2,g3,g4,rfl,rfl⟩ s1 H1 hs1 hH1;obtain⟨hs2,hH2⟩:=Zaf hs1 hH1;clear hs1 hH1;subst hs2 hH2;repeat(with_reducible apply And.intro;exact sdE)
 refine Zo Zl ?_;refine z8 (Zpr (hK _ _ ?_));clear hK K;refine Zrs [0,2,4,5] ?_;refine z6 ?_;refine Zrs [0,2,4,5,6] ?_;refine z2f 5 3 1 (ints []) rfl ?_;dsimp only;refine zc fun Q0 hN0 hX0 hR0 hE0=> ?_;refine zr (σ:=Nat×List Int×Nat) (fun σ=>σ.1≤xs.length∧σ.2.1.Sublist (idL5 (xs.take σ.1))∧σ.2.2≤mm) (fun σ=>xs.length-σ.1) (fun σ=>[(0,.ptr 0 0 0 0),(2,.ptr 2 0 0 0),(4,.slc true 3 0 0 xs.length),(5,.slc true 4 0 0 σ.2.1.length),(6,.int .i64 σ.1)]) (fun σ=>⟨5,[(4,uQ (.row ⟨true,false,3,1,σ.2.1.length,ints σ.2.1⟩)),(3,uQ (.row ⟨true,false,62,3,xs.length,nds xs⟩)),(2,uQ (.row ⟨true,true,34,4,1,fun _=>[.nils,.int .i64 0,.nils,.nils]⟩)),(0,z12 1 mm σ.2.2),(1,z18 ls)]⟩) (0,[],at1) ⟨Nat.zero_le _,by simp[idL5],g1⟩ (ρ:=id) (have xE:=@ownNds.eq_1;Zgx id) ?_;rintro⟨i,dn,at2⟩ hi QL1 hL1 hRL1 hEL1;obtain⟨hi1,hi2,hi3⟩:=hi;dsimp only at hi1 hi2 hi3
 have hdl:dn.length≤6:=by
  have:=hi2.length_le;rw[idL5,List.length_map,List.length_take] at this;omega
 refine z6 ?_;refine Zrs [0,2,4,5,6,18] ?_;refine z7 _ rfl ?_ ?_
 ·intro h18;replace h18:=Znb h18;refine za (z6 (zc fun Q1 hN1 hX1 hR1 hE1=> ?_));refine sg [0,2,4,5,6,22] rfl ?_;intro K hK;refine Zo Zl ?_;refine Zo Zl ?_;refine Zca (bool_spec ls mm at2 2 hx hm hi3 (by omega) (by omega)) (id) ?_;rintro s0 H0 ⟨b,at3,k1,rfl,rfl⟩ s1 H1 hs1 hH1;obtain⟨hs2,hH2⟩:=Zaf hs1 hH1;clear hs1 hH1;subst hs2 hH2;repeat(with_reducible apply And.intro;exact sdE)
  refine z8 (Zpr (hK _ _ ?_));clear hK K;refine z7 _ rfl ?_ ?_
  ·intro h22
   refine Zrg [0,2,4,5,6] ?_;refine ze (hN1 _ _ ?_);refine Zrg [0,2,4,5,6] ?_;refine ze (hL1 _ _ ?_);rw[app_intsN rfl,show(i:Int)+1=((i+1:Nat):Int) from by omega];refine⟨(i+1,dn++[(nd xs i).id],at3),⟨⟨by dsimp only;omega,?_,k1⟩,by dsimp only;omega⟩,fun q=>if q=4 then 6 else q,(Zg (fun q=>if q=4 then 6 else q))⟩;dsimp only;rw[idL5_take (by omega)];exact hi2.append (List.Sublist.refl _)
  ·intro h22
   refine za (ze (hN1 _ _ ?_));refine Zrg [0,2,4,5,6] ?_;refine ze (hL1 _ _ ?_);rw[show(i:Int)+1=((i+1:Nat):Int) from by omega];refine⟨(i+1,dn,at3),⟨⟨by dsimp only;omega,?_,k1⟩,by dsimp only;omega⟩,id,(Zg id)⟩;dsimp only;rw[idL5_take (by omega)];exact hi2.trans (List.sublist_append_left ..)
 ·intro h18;replace h18:=Znb h18;have hie:i=xs.length:=by omega
  subst hie;rw[List.take_of_length_le (Nat.le_refl _)] at hi2;have hnd:dn.Nodup:=hi2.nodup (ids_nodup g4);refine zo (hEL1 _ _ _ (hX0 _ _ ?_));refine sg [2,4,5,7,8] rfl ?_;intro K hK;refine Zo Zl ?_;refine Zo Zl ?_;refine Zca (z1v ls mm at2 2 hx hm hi3 (by omega)) (id) ?_;rintro s0 H0 ⟨v,at4,v1,v2,v3,v4,rfl,rfl⟩ s1 H1 hs1 hH1;obtain⟨hs2,hH2⟩:=Zaf hs1 hH1;clear hs1 hH1;subst hs2 hH2;repeat(with_reducible apply And.intro;exact sdE)
  have v5:=v3 (by omega);obtain⟨m,hmv⟩:∃m:Nat,2+v=m:=⟨(2+v).toNat,by omega⟩;refine Zo Zl ?_;rw[hmv];repeat(with_reducible apply And.intro;exact sdE)
  refine Zo Zl ?_;refine Zo Zl ?_;refine Zca (z1v ls mm at4 4 hx hm v1 (by omega)) (id) ?_;rintro s0 H0 ⟨u,at5,u1,u2,u3,u4,rfl,rfl⟩ s1 H1 hs1 hH1;obtain⟨hs2,hH2⟩:=Zaf hs1 hH1;clear hs1 hH1;subst hs2 hH2;repeat(with_reducible apply And.intro;exact sdE)
  have u5:=u3 (by omega);have hsh:=newF_sh (dn:=dn) g4 (by omega) u2 (show u≤16 by omega) (m:=m) (by omega) (by omega);have hmk:MkF xs m u:=⟨g4,by omega,by omega,by omega,u2,by omega⟩;iterate 2 (refine Zo Zl ?_)
  refine z8 (Zpr (hK _ _ ?_));clear hK K;refine sg [2,4,5,7,8,9,10] rfl ?_;intro K hK;iterate 4 (refine Zo Zl ?_)
  refine Zo Zl ?_;refine Zc1 (New_ok xs dn m xs.length dn.length u rfl rfl g4 (by omega) (by omega) (by omega) u2 (by omega) (by omega) (findI_idL hi2) hnd) (fun q=>if q=0 then 3 else if q=1 then 4 else q) ?_;iterate 6 (refine Zo Zl ?_)
  refine z8 (Zpr (hK _ _ ?_));clear hK K;refine sg [2,7,9,10,11,12] rfl ?_;intro K hK;iterate 4 (refine Zo Zl ?_)
  refine Zo Zl ?_;refine Zc1 (refNewF_spec xs dn m xs.length dn.length u rfl rfl g4 (by omega) (by omega) u2 (by omega) (by omega) (findI_idL hi2) hnd) (fun q=>if q=0 then 3 else if q=1 then 4 else q) ?_;iterate 6 (refine Zo Zl ?_)
  refine z8 (Zpr (hK _ _ ?_));clear hK K;refine z6 ?_;refine Zrt [2,3] (.op 0 (.op 1 (.op 2 (.op 3 (.op 4 (.op 5 (.op 6 (.op 7 (.op 8 (.op 9 (.op 10 (.op 11 (.op 12 (.op 13 (.op 16 (.two 14 19 (.op 15 (.op 17 (.op 18 (.op 19 (.op 20 .done))))) (.op 14 (.op 15 (.op 17 (.op 18 (.op 20 .done))))))))))))))))))))) [[],[],[],[],[],[],[],[],[],[],[],[],[],[],[],[],[],[],[],[2],[]] [[],[],[],[],[],[],[],[],[],[],[],[],[],[2],[2],[2],[2],[2],[2],[2],[2]] ?_;intro K hK hG
  have hk11:K [(2,.ptr 2 0 0 0),(3,.bool true)] ⟨9,[(2,uQ (.row ⟨true,true,34,4,1,fun _=>[.slc true 5 0 0 xs.length,.int .i64 u,.slc true 6 0 0 (z3e xs dn m u).ly.length,.slc true 8 0 0 m]⟩)),(5,uQ (.row ⟨true,false,62,3,xs.length,nds xs⟩)),(6,uQ (.row ⟨true,false,89,5,(z3e xs dn m u).ly.length,lyR 7 (z3e xs dn m u).ly⟩)),(7,(3*(z3e xs dn m u).ly.length+1,fam true 3 1 (lyF true (z3e xs dn m u).ly))),(8,uQ (.row ⟨true,false,58,3,m,cbs (List.replicate m noCb)⟩)),(0,z12 1 mm at5)]⟩:=by
   refine hK _ _ ?_;clear hG hK K;refine zd (hQ _ _ ?_);refine zp (fun q=>if q=2 then 5 else if q=3 then 6 else if q=4 then 7 else if q=5 then 8 else q) (.tup [.agg [.slc true 2 0 0 xs.length,.int .i64 u,.slc true 3 0 0 (z3e xs dn m u).ly.length,.slc true 5 0 0 m],.bool true]) (⟨6,[(0,z12 1 mm at5),(2,uQ (.row ⟨true,false,62,3,xs.length,nds xs⟩)),(3,uQ (.row ⟨true,false,89,5,(z3e xs dn m u).ly.length,lyR 4 (z3e xs dn m u).ly⟩)),(4,(3*(z3e xs dn m u).ly.length+1,fam true 3 1 (lyF true (z3e xs dn m u).ly))),(5,uQ (.row ⟨true,false,58,3,m,cbs (List.replicate m noCb)⟩))]⟩) (.inl rfl) ?_;refine Zou ?_;refine⟨Zs,Zs,(Zg (fun q=>if q=2 then 5 else if q=3 then 6 else if q=4 then 7 else if q=5 then 8 else q)),Zs,?_⟩;exact⟨xs,dn,m,u,at5,⟨hmk,u1⟩,by trivial,by trivial⟩
  refine Zo (ZT [] [] []) ?_;refine Zo (ZT [] [] []) ?_;refine Zo (ZT [] [] []) ?_;refine Zo (ZT [] [] []) ?_;refine Zo (ZT [] [] []) ?_;refine Zo (ZT [] [] []) ?_;refine Zo (ZT [] [] []) ?_;refine Zo (ZT [] [] []) ?_;refine Zo (ZT [] [] []) ?_;refine Zo (ZT [] [] []) ?_;refine runT_op _ [] [] [] rfl rfl rfl rfl ?_;refine z1z rfl rfl ?_;refine Zgr ?_;refine⟨fun _=> ?_,fun h=>(by cases h)⟩;refine Zo id ?_;refine Zc1 (sameNew_spec xs dn m xs.length (z3e xs dn m u).ly.length u hsh rfl rfl (by omega) (by omega)) (fun q=>if q=0 then 5 else if q=1 then 6 else if q=2 then 7 else if q=3 then 8 else q+6) ?_;refine Zo (ZT [] [] []) ?_;refine Zo (ZT [] [] []) ?_;refine Zo (ZT [] [2] []) ?_;refine Zo (ZT [] [2] []) ?_;refine z1x ?_ ?_
  ·skip
   refine Zo (ZT [] [2] []) ?_;refine Zo (ZT [] [2] []) ?_;refine Zo (ZT [] [2] []) ?_;refine Zo (ZT [] [2] []) ?_;refine Zo (ZT [2] [2] []) ?_;refine Zo (ZT [] [2] []) ?_;refine z15 ?_;refine Zpr ?_;exact hG _ _ _ _ id (Zg id) hk11
  ·skip
   refine Zo (ZT [2] [2] []) ?_;refine Zo (ZT [] [2] []) ?_;refine Zo (ZT [] [2] []) ?_;refine Zo (ZT [] [2] []) ?_;refine Zo (ZT [] [2] []) ?_;refine Zo (ZT [] [2] []) ?_;refine z15 ?_;refine Zpr ?_;exact hG _ _ _ _ id (Zg id) hk11
end Go.Proofs

namespace Go.Proofs
open Go.Sk
section
variable {fo:Fo} {ls:Nat→List Int} {E:Int→Bool}
theorem stepFR_keeps (h:FI fo ls)(p:Int):(z3o fo p).ns=fo.ns∧(z3o fo p).ht=fo.ht∧(z3o fo p).cb.length=fo.cb.length∧(z3o fo p).ly.length=fo.ly.length:=by
 unfold z3o;rw[h.vf];simp only[Bool.not_true,Bool.false_eq_true,if_false]
 split
 ·split
  ·split
   ·exact⟨rfl,rfl,List.length_set,rfl⟩
   ·exact⟨rfl,rfl,List.length_set,z4r ..⟩
  ·exact⟨rfl,rfl,rfl,z4r ..⟩
 ·exact⟨rfl,rfl,rfl,rfl⟩
theorem startFR_keeps {p kind id:Int}(he:z21 fo p kind id=0):(z13 fo p kind id).ns=fo.ns∧(z13 fo p kind id).ht=fo.ht∧(z13 fo p kind id).cb.length=fo.cb.length∧(z13 fo p kind id).ly.length=fo.ly.length:=by
 rw[z13,if_pos he];exact⟨rfl,rfl,List.length_set,z4r ..⟩
end
end Go.Proofs

namespace Go.Proofs
open Go.Sk
open JoQm (gxE axE exE)
open JnNm (oxE)
open D0 (sdE)
theorem leftT_spec (ls : List Int) (m at_ : Nat) : zf Tryz.prog 22 [.ptr 0 0 0 0] ⟨2, [(0, z12 1 m at_), (1, z18 ls)]⟩
   (fun s H1=>(∃b,s= .bool b)∧H1=⟨2,[(0,z12 1 m at_)]⟩):=by
 refine zf.ofC false 13 [.tmp 2] Tryz.func22 rfl rfl Tryz.ntmps22 Tryz.results22 rfl ?_;intro w0 own0 β0 Q hQ hQn;simp only[z16];refine Zrs [0] ?_;refine z6 ?_;refine Zrd [2] [0,1,2,3,4,5,6,7,8,9,10] [[],[],[],[],[],[],[],[],[],[],[]] [[],[],[],[],[],[],[],[],[],[],[]] ?_;intro K hK;iterate 11 (refine Zo (Zi [] []) ?_)
 refine zz (Zpr (hK _ _ ?_));clear hK K;refine zd (hQ _ _ ?_);refine zb (H':=⟨2,[(0,z12 1 m at_)]⟩) (.inl rfl) ?_;refine Zou ?_;refine⟨Zs,(Zg id),Zs,?_⟩;exact⟨⟨_,rfl⟩,trivial⟩
noncomputable def plSF (b:Bool)(fo:Fo):SV:= .agg (if b then [.slc true 2 0 0 fo.ns.length,.int .i64 fo.ht,.slc true 3 0 0 fo.ly.length,.slc true 5 0 0 fo.cb.length] else [.slc true 6 0 0 fo.ns.length,.int .i64 fo.ht,.slc true 7 0 0 fo.ly.length,.slc true 9 0 0 fo.cb.length])
noncomputable def plHF (b:Bool)(fo:Fo)(t:Nat×(Nat→Sk.Obj)):AH:=if b then⟨6,[(0,t)]⟩ else⟨10,[(0,t),(6,uQ (.row ⟨true,false,62,3,fo.ns.length,nds fo.ns⟩)),(7,uQ (.row ⟨true,false,89,5,fo.ly.length,lyR 8 fo.ly⟩)),(8,(3*fo.ly.length+1,fam true 3 1 (lyF true fo.ly))),(9,uQ (.row ⟨true,false,58,3,fo.cb.length,cbs fo.cb⟩))]⟩
noncomputable def plGF (mm:Nat)(ls:List Int)(σ:Bool×Fo×(Nat→List Int)×Nat×Nat):AH:=if σ.1 then⟨8,[(0,z12 1 mm σ.2.2.2.1),(6,uQ (.row ⟨true,true,34,4,1,fun _=>[.slc true 2 0 0 σ.2.1.ns.length,.int .i64 σ.2.1.ht,.slc true 3 0 0 σ.2.1.ly.length,.slc true 5 0 0 σ.2.1.cb.length]⟩)),(7,uQ (.row ⟨true,true,34,4,1,fun _=>[.nils,.int .i64 0,.nils,.nils]⟩)),(1,z18 ls),(2,uQ (.row ⟨false,false,62,3,σ.2.1.ns.length,nds σ.2.1.ns⟩)),(3,uQ (.row ⟨false,false,89,5,σ.2.1.ly.length,lyR 4 σ.2.1.ly⟩)),(4,(3*σ.2.1.ly.length+1,fam false 3 1 (lyF false σ.2.1.ly))),(5,uQ (.row ⟨false,false,58,3,σ.2.1.cb.length,cbs σ.2.1.cb⟩))]⟩ else⟨12,[(0,z12 1 mm σ.2.2.2.1),(6,uQ (.row ⟨true,true,34,4,1,fun _=>[.slc true 8 0 0 σ.2.1.ns.length,.int .i64 σ.2.1.ht,.slc true 9 0 0 σ.2.1.ly.length,.slc true 11 0 0 σ.2.1.cb.length]⟩)),(7,uQ (.row ⟨true,true,34,4,1,fun _=>[.nils,.int .i64 0,.nils,.nils]⟩)),(1,z18 ls),(8,uQ (.row ⟨true,false,62,3,σ.2.1.ns.length,nds σ.2.1.ns⟩)),(9,uQ (.row ⟨true,false,89,5,σ.2.1.ly.length,lyR 10 σ.2.1.ly⟩)),(10,(3*σ.2.1.ly.length+1,fam true 3 1 (lyF true σ.2.1.ly))),(11,uQ (.row ⟨true,false,58,3,σ.2.1.cb.length,cbs σ.2.1.cb⟩))]⟩
structure Led (fo fo':Fo) (lv:Nat→List Int):Prop where
 fi:FI fo' lv
 ns:fo'.ns=fo.ns
 ht:fo'.ht=fo.ht
 cb:fo'.cb.length=fo.cb.length
theorem Led.start {fo f:Fo}{lv:Nat→List Int}(h:Led fo f lv){q k v:Int}(he:z21 f q k v=0):Led fo (z13 f q k v) lv:=by
 obtain⟨e1,e2,e3,_⟩:=startFR_keeps he;exact⟨h.fi.start he,e1.trans h.ns,e2.trans h.ht,e3.trans h.cb⟩
theorem Led.step {fo f:Fo}{lv:Nat→List Int}(h:Led fo f lv){q:Int}(he:stepFB f q=true):∃lv',Led fo (z3o f q) lv':=by
 obtain⟨e1,e2,e3,_⟩:=stepFR_keeps h.fi q;obtain⟨lv',g,_⟩:=h.fi.step he (Nat.le_refl _);exact⟨lv',g,e1.trans h.ns,e2.trans h.ht,e3.trans h.cb⟩
theorem playF_spec (ls:List Int)(mm at_:Nat)(hx:ls.length≤9223372036854775807)(hm:mm≤ls.length)(ha:at_≤mm)(fo:Fo)(lv:Nat→List Int)(h:FI fo lv)(n k m:Nat)(hn:fo.ns.length=n)(hk:fo.ly.length=k)(hmc:fo.cb.length=m)(N:Nat)(hN:N≤1000000):
  zf Tryz.prog 30 [.ptr 0 0 0 0,.agg [.slc true 2 0 0 n,.int .i64 fo.ht,.slc true 3 0 0 k,.slc true 5 0 0 m],.int .i64 N] ⟨6,[(0,z12 1 mm at_),(1,z18 ls),(2,uQ (.row ⟨false,false,62,3,n,nds fo.ns⟩)),(3,uQ (.row ⟨false,false,89,5,k,lyR 4 fo.ly⟩)),(4,(3*k+1,fam false 3 1 (lyF false fo.ly))),(5,uQ (.row ⟨false,false,58,3,m,cbs fo.cb⟩))]⟩
   (fun s H1=> ∃(b:Bool) (f:Fo) (lv':Nat→List Int) (at1:Nat),(at1≤mm∧Led fo f lv'∧(b=true→f=fo))∧s=plSF b f∧H1=plHF b f (z12 1 mm at1)):=by
 subst hn hk hmc;refine zf.ofC false 54 [.cell 6 34] Tryz.func30 rfl rfl Tryz.ntmps30 Tryz.results30 rfl ?_;intro w0 own0 β0 Q hQ hQn;simp only[z16];refine Zrs [0,2,4,6] ?_;refine z6 ?_;refine Zrs [0,2,4,6,7] ?_;refine zc fun Q0 hN0 hX0 hR0 hE0=> ?_;refine zr (σ:=Bool×Fo×(Nat→List Int)×Nat×Nat) (fun σ=>(σ.2.2.2.1≤mm∧σ.2.2.2.2≤N)∧Led fo σ.2.1 σ.2.2.1∧(σ.1=true→σ.2.1=fo)) (fun σ=>N-σ.2.2.2.2) (fun σ=>[(0,.ptr 0 0 0 0),(2,.int .i64 N),(4,.ptr 6 0 0 0),(6,.ptr 7 0 0 0),(7,.int .i64 σ.2.2.2.2)]) (plGF mm ls) (true,fo,lv,at_,0) ⟨⟨ha,Nat.zero_le _⟩,⟨h,rfl,rfl,rfl⟩,fun _=>rfl⟩ (ρ:=id) (by simp only[plGF,if_true];exact(Zg id)) ?_;rintro⟨b,f,lw,at2,i⟩ hi QL1 hL1 hRL1 hEL1;obtain⟨⟨hi1,hi2⟩,hi3,hi4⟩:=hi;dsimp only at hi1 hi2 hi3 hi4;have h64:=hi3.fi.sh.few;have h8:=hi3.fi.sh.m8;have h1m:=hi3.fi.sh.m1;rcases b with _|_
 all_goals simp only[plGF,Bool.false_eq_true,if_false,if_true]
 ·skip
  refine z6 ?_;refine sg [0,2,4,6,7,19] rfl ?_;intro K hK
  have hk2:∀B:Bool,(B=true→i<N)→K [(0,.ptr 0 0 0 0),(2,.int .i64 N),(4,.ptr 6 0 0 0),(6,.ptr 7 0 0 0),(7,.int .i64 i),(19,.bool B)] ⟨12,[(0,z12 1 mm at2),(6,uQ (.row ⟨true,true,34,4,1,fun _=>[.slc true 8 0 0 f.ns.length,.int .i64 f.ht,.slc true 9 0 0 f.ly.length,.slc true 11 0 0 f.cb.length]⟩)),(7,uQ (.row ⟨true,true,34,4,1,fun _=>[.nils,.int .i64 0,.nils,.nils]⟩)),(1,z18 ls),(8,uQ (.row ⟨true,false,62,3,f.ns.length,nds f.ns⟩)),(9,uQ (.row ⟨true,false,89,5,f.ly.length,lyR 10 f.ly⟩)),(10,(3*f.ly.length+1,fam true 3 1 (lyF true f.ly))),(11,uQ (.row ⟨true,false,58,3,f.cb.length,cbs f.cb⟩))]⟩:=by
   intro B hB;refine hK _ _ ?_;clear hK K;refine z7 _ rfl ?_ ?_
   ·intro h19;have hin:=hB h19;refine za (z6 (zc fun Q1 hN1 hX1 hR1 hE1=> ?_));refine sg [0,2,4,6,7,8] rfl ?_;intro K hK;iterate 4 (refine Zo Zl ?_)
    refine Zo Zl ?_;refine Zca (z1v ls mm at2 f.cb.length hx hm hi1 (by omega)) (id) ?_;rintro s0 H0 ⟨q,at3,g1,g2,g3,g4,rfl,rfl⟩ s1 H1 hs1 hH1;obtain⟨hs2,hH2⟩:=Zaf hs1 hH1;clear hs1 hH1;subst hs2 hH2;repeat(with_reducible apply And.intro;exact sdE)
    refine Zo Zl ?_;refine z8 (Zpr (hK _ _ ?_));clear hK K;refine z6 ?_;refine sg [0,2,4,6,7,8,28] rfl ?_;intro K hK;refine Zo Zl ?_;refine Zo Zl ?_;refine Zca (bool_spec ls mm at3 4 hx hm g1 (by omega) (by omega)) (id) ?_;rintro s0 H0 ⟨b4,at4,e1,rfl,rfl⟩ s1 H1 hs1 hH1;obtain⟨hs2,hH2⟩:=Zaf hs1 hH1;clear hs1 hH1;subst hs2 hH2;repeat(with_reducible apply And.intro;exact sdE)
    refine z8 (Zpr (hK _ _ ?_));clear hK K;refine z7 _ rfl ?_ ?_
    ·intro h28
     refine z6 (z6 ?_);refine Zrt [0,2,4,6,7,9,10] (.op 0 (.op 1 (.op 2 (.op 5 (.op 6 (.op 7 (.two 3 13 (.op 4 (.two 8 13 (.two 9 13 (.op 10 (.op 11 (.op 12 (.op 13 (.op 14 (.op 15 .done)))))) (.op 9 (.op 10 (.op 11 (.op 12 (.op 14 (.op 15 .done))))))) (.op 8 (.op 9 (.op 10 (.op 11 (.op 12 (.op 14 (.op 15 .done))))))))) (.op 3 (.op 4 (.op 8 (.op 9 (.op 10 (.op 11 (.op 12 (.op 14 (.op 15 .done)))))))))))))))) [[],[],[],[0],[],[],[],[],[0],[],[],[],[],[],[],[]] [[0],[0],[],[0],[0],[0],[0],[0],[0],[0],[0],[0],[0],[0],[0],[0]] ?_;intro K hK hG
     have hk6:∀(kind v:Int) (at5:Nat),at5≤mm→K [(0,.ptr 0 0 0 0),(2,.int .i64 N),(4,.ptr 6 0 0 0),(6,.ptr 7 0 0 0),(7,.int .i64 i),(9,.ptr 16 0 0 0),(10,.int .i64 (z21 f q kind v))] ⟨17,[(0,z12 1 mm at5),(16,uQ (.row ⟨true,true,34,4,1,fun _=>[.slc true 12 0 0 (z13 f q kind v).ns.length,.int .i64 (z13 f q kind v).ht,.slc true 13 0 0 (z13 f q kind v).ly.length,.slc true 15 0 0 (z13 f q kind v).cb.length]⟩)),(12,uQ (.row ⟨true,false,62,3,(z13 f q kind v).ns.length,nds (z13 f q kind v).ns⟩)),(13,uQ (.row ⟨true,false,89,5,(z13 f q kind v).ly.length,lyR 14 (z13 f q kind v).ly⟩)),(14,(3*(z13 f q kind v).ly.length+1,fam true 3 1 (lyF true (z13 f q kind v).ly))),(15,uQ (.row ⟨true,false,58,3,(z13 f q kind v).cb.length,cbs (z13 f q kind v).cb⟩)),(6,uQ (.row ⟨true,true,34,4,1,fun _=>[.slc true 8 0 0 f.ns.length,.int .i64 f.ht,.slc true 9 0 0 f.ly.length,.slc true 11 0 0 f.cb.length]⟩)),(7,uQ (.row ⟨true,true,34,4,1,fun _=>[.nils,.int .i64 0,.nils,.nils]⟩)),(1,z18 ls),(8,uQ (.row ⟨true,false,62,3,f.ns.length,nds f.ns⟩)),(9,uQ (.row ⟨true,false,89,5,f.ly.length,lyR 10 f.ly⟩)),(10,(3*f.ly.length+1,fam true 3 1 (lyF true f.ly))),(11,uQ (.row ⟨true,false,58,3,f.cb.length,cbs f.cb⟩))]⟩:=by
      intro kind v at5 hk5;refine hK _ _ ?_;clear hG hK K;refine Zrs [0,2,4,6,7,9,43] ?_;refine z7 _ rfl ?_ ?_
      ·intro h43
       refine Zrg [0,2,4,6,7] ?_;refine zo (hX1 _ _ ?_);refine Zrg [0,2,4,6,7] ?_;refine ze (hL1 _ _ ?_);have hse:z21 f q kind v=0:=by simpa using h43
       rw[show(i:Int)+1=((i+1:Nat):Int) from by omega];refine⟨(false,z13 f q kind v,lw,at5,i+1),⟨⟨⟨hk5,by dsimp only;omega⟩,hi3.start hse,fun h=>by cases h⟩,by dsimp only;omega⟩,fun z=>if z=8 then 12 else if z=9 then 13 else if z=10 then 14 else if z=11 then 15 else z,?_⟩;simp only[plGF,Bool.false_eq_true,if_false];exact(Zg (fun z=>if z=8 then 12 else if z=9 then 13 else if z=10 then 14 else if z=11 then 15 else z))
      ·intro h43
       refine za (zo (hX1 _ _ ?_));refine Zrg [0,2,4,6,7] ?_;refine ze (hL1 _ _ ?_);rw[show(i:Int)+1=((i+1:Nat):Int) from by omega];refine⟨(false,f,lw,at5,i+1),⟨⟨⟨hk5,by dsimp only;omega⟩,hi3,fun h=>by cases h⟩,by dsimp only;omega⟩,id,?_⟩;simp only[plGF,Bool.false_eq_true,if_false];exact(Zg id)
     refine Zo (ZT [] [0] []) ?_;refine Zo (ZT [] [0] []) ?_;refine Zo (ZT [] [] []) ?_;refine Zo (ZT [] [0] []) ?_;refine Zo (ZT [] [0] []) ?_;refine Zo (ZT [] [0] []) ?_;refine z1x ?_ ?_
     ·skip
      refine Zo (ZT [0] [0] []) ?_;refine Zca (z1v ls mm at4 2 hx hm e1 (by omega)) (id) ?_;rintro s0 H0 ⟨v,at5,d1,d2,d3,d4,rfl,rfl⟩ s1 H1 hs1 hH1;obtain⟨hs2,hH2⟩:=Zaf hs1 hH1;clear hs1 hH1;subst hs2 hH2;repeat(with_reducible apply And.intro;exact sdE)
      have d5:=d3 (by omega);refine Zo (ZT [] [0] []) ?_;refine z1x ?_ ?_
      ·skip
       refine Zo (ZT [0] [0] []) ?_;refine Zca (id_spec ls mm at5 hx hm d1 f.ns f.ns.length rfl (by omega)) (fun z=>if z=2 then 8 else z) ?_;rintro s0 H0 ⟨w,at6,c1,rfl,rfl⟩ s1 H1 hs1 hH1;obtain⟨hs2,hH2⟩:=Zaf hs1 hH1;clear hs1 hH1;subst hs2 hH2;repeat(with_reducible apply And.intro;exact sdE)
       refine z1x ?_ ?_
       ·skip
        refine Zo (ZT [] [0] []) ?_;refine Zc1 (z4h f lw hi3.fi f.ns.length f.ly.length f.cb.length q (1+v) w rfl rfl rfl) (fun z=>z+8) ?_;refine Zo (ZT [] [0] []) ?_;refine Zo (ZT [] [0] []) ?_;refine Zo (ZT [] [0] []) ?_;refine Zo (ZT [] [0] [16]) ?_;refine Zo (ZT [16] [0] [16]) ?_;refine Zo (ZT [16] [0] [16]) ?_;refine z15 ?_;refine Zpr ?_;exact hG _ _ _ _ id (Zg id) (hk6 (1+v) w at6 c1)
       ·skip
        refine Zo (ZT [] [0] [12]) ?_;refine Zo (ZT [12] [0] [12]) ?_;refine Zc1 (z4h f lw hi3.fi f.ns.length f.ly.length f.cb.length q (1+v) w rfl rfl rfl) (fun z=>z+8) ?_;refine Zo (ZT [12] [0] [12]) ?_;refine Zo (ZT [12] [0] [12]) ?_;refine Zo (ZT [12] [0] [12]) ?_;refine Zo (ZT [12] [0] [12]) ?_;refine Zo (ZT [12] [0] [12]) ?_;refine z15 ?_;refine Zpr ?_;exact hG _ _ _ _ (fun z=>if z=12 then 13 else if z=13 then 14 else if z=14 then 15 else if z=15 then 16 else if z=16 then 12 else z) (Zg (fun z=>if z=12 then 13 else if z=13 then 14 else if z=14 then 15 else if z=15 then 16 else if z=16 then 12 else z)) (hk6 (1+v) w at6 c1)
      ·skip
       refine Zo (ZT [] [0] [12]) ?_;refine Zo (ZT [0,12] [0] [12]) ?_;refine Zca (id_spec ls mm at5 hx hm d1 f.ns f.ns.length rfl (by omega)) (fun z=>if z=2 then 8 else z) ?_;rintro s0 H0 ⟨w,at6,c1,rfl,rfl⟩ s1 H1 hs1 hH1;obtain⟨hs2,hH2⟩:=Zaf hs1 hH1;clear hs1 hH1;subst hs2 hH2;repeat(with_reducible apply And.intro;exact sdE)
       refine Zo (ZT [12] [0] [12]) ?_;refine Zc1 (z4h f lw hi3.fi f.ns.length f.ly.length f.cb.length q (1+v) w rfl rfl rfl) (fun z=>z+8) ?_;refine Zo (ZT [12] [0] [12]) ?_;refine Zo (ZT [12] [0] [12]) ?_;refine Zo (ZT [12] [0] [12]) ?_;refine Zo (ZT [12] [0] [12]) ?_;refine Zo (ZT [12] [0] [12]) ?_;refine z15 ?_;refine Zpr ?_;exact hG _ _ _ _ (fun z=>if z=12 then 13 else if z=13 then 14 else if z=14 then 15 else if z=15 then 16 else if z=16 then 12 else z) (Zg (fun z=>if z=12 then 13 else if z=13 then 14 else if z=14 then 15 else if z=15 then 16 else if z=16 then 12 else z)) (hk6 (1+v) w at6 c1)
     ·skip
      refine Zo (ZT [] [0] [12]) ?_;refine Zo (ZT [0,12] [0] [12]) ?_;refine Zca (z1v ls mm at4 2 hx hm e1 (by omega)) (id) ?_;rintro s0 H0 ⟨v,at5,d1,d2,d3,d4,rfl,rfl⟩ s1 H1 hs1 hH1;obtain⟨hs2,hH2⟩:=Zaf hs1 hH1;clear hs1 hH1;subst hs2 hH2;repeat(with_reducible apply And.intro;exact sdE)
      have d5:=d3 (by omega);refine Zo (ZT [12] [0] [12]) ?_;refine Zo (ZT [0,12] [0] [12]) ?_;refine Zca (id_spec ls mm at5 hx hm d1 f.ns f.ns.length rfl (by omega)) (fun z=>if z=2 then 8 else z) ?_;rintro s0 H0 ⟨w,at6,c1,rfl,rfl⟩ s1 H1 hs1 hH1;obtain⟨hs2,hH2⟩:=Zaf hs1 hH1;clear hs1 hH1;subst hs2 hH2;repeat(with_reducible apply And.intro;exact sdE)
      refine Zo (ZT [12] [0] [12]) ?_;refine Zc1 (z4h f lw hi3.fi f.ns.length f.ly.length f.cb.length q (1+v) w rfl rfl rfl) (fun z=>z+8) ?_;refine Zo (ZT [12] [0] [12]) ?_;refine Zo (ZT [12] [0] [12]) ?_;refine Zo (ZT [12] [0] [12]) ?_;refine Zo (ZT [12] [0] [12]) ?_;refine Zo (ZT [12] [0] [12]) ?_;refine z15 ?_;refine Zpr ?_;exact hG _ _ _ _ (fun z=>if z=12 then 13 else if z=13 then 14 else if z=14 then 15 else if z=15 then 16 else if z=16 then 12 else z) (Zg (fun z=>if z=12 then 13 else if z=13 then 14 else if z=14 then 15 else if z=15 then 16 else if z=16 then 12 else z)) (hk6 (1+v) w at6 c1)
    ·intro h28
     refine za ?_;refine sg [0,2,4,6,7,11,12] rfl ?_;intro K hK;iterate 2 (refine Zo Zl ?_)
     refine Zo Zl ?_;refine Zc1 (Step_spec f lw hi3.fi f.ns.length f.ly.length f.cb.length q rfl rfl rfl) (fun z=>z+8) ?_;iterate 6 (refine Zo Zl ?_)
     refine z8 (Zpr (hK _ _ ?_));clear hK K;refine Zrs [0,2,4,6,7,11,51] ?_;refine z7 _ rfl ?_ ?_
     ·intro h51
      refine Zrg [0,2,4,6,7] ?_;refine ze (hN1 _ _ ?_);refine Zrg [0,2,4,6,7] ?_;refine ze (hL1 _ _ ?_);obtain⟨lw',hl⟩:=hi3.step h51;obtain⟨k1,k2,k3,k4⟩:=stepFR_keeps hi3.fi q;rw[show(i:Int)+1=((i+1:Nat):Int) from by omega];refine⟨(false,z3o f q,lw',at4,i+1),⟨⟨⟨e1,by dsimp only;omega⟩,hl,fun h=>by cases h⟩,by dsimp only;omega⟩,fun z=>if z=8 then 12 else if z=9 then 13 else if z=10 then 14 else if z=11 then 15 else z,?_⟩;simp only[plGF,Bool.false_eq_true,if_false];rw[k1,k2,k3,k4];exact(Zg (fun z=>if z=8 then 12 else if z=9 then 13 else if z=10 then 14 else if z=11 then 15 else z))
     ·intro h51
      refine za (ze (hN1 _ _ ?_));refine Zrg [0,2,4,6,7] ?_;refine ze (hL1 _ _ ?_);rw[show(i:Int)+1=((i+1:Nat):Int) from by omega];refine⟨(false,f,lw,at4,i+1),⟨⟨⟨e1,by dsimp only;omega⟩,hi3,fun h=>by cases h⟩,by dsimp only;omega⟩,id,?_⟩;simp only[plGF,Bool.false_eq_true,if_false];exact(Zg id)
   ·intro h19
    refine zo (hEL1 _ _ _ (hX0 _ _ ?_));refine Zrs [6] ?_;refine zd (hQ _ _ ?_);refine zp (fun z=>if z=6 then 8 else if z=7 then 9 else if z=8 then 10 else if z=9 then 11 else z) (.agg [.slc true 6 0 0 f.ns.length,.int .i64 f.ht,.slc true 7 0 0 f.ly.length,.slc true 9 0 0 f.cb.length]) (⟨10,[(0,z12 1 mm at2),(6,uQ (.row ⟨true,false,62,3,f.ns.length,nds f.ns⟩)),(7,uQ (.row ⟨true,false,89,5,f.ly.length,lyR 8 f.ly⟩)),(8,(3*f.ly.length+1,fam true 3 1 (lyF true f.ly))),(9,uQ (.row ⟨true,false,58,3,f.cb.length,cbs f.cb⟩))]⟩) (.inl rfl) ?_;refine Zou ?_;refine⟨Zs,Zs,(Zg (fun z=>if z=6 then 8 else if z=7 then 9 else if z=8 then 10 else if z=9 then 11 else z)),Zs,?_⟩;exact⟨false,f,lw,at2,⟨hi1,hi3,fun h=>by cases h⟩,rfl,rfl⟩
  iterate 5 (refine Zo Zl ?_)
  refine z1k ?_;refine z1z rfl rfl ?_;refine Zgr ?_
  first|refine z1n ?_ ?_|refine(fun(h1:false=true→_) (h2:false=false→_)=>And.intro h1 fun _=>h2 rfl) ?_ ?_|refine And.intro ?_ ?_
  ·intro hg5
   first
    |(simp at hg5;done)
    |skip
     try replace hg5:=Znb hg5
     refine Zo id ?_;refine Zca (leftT_spec ls mm at2) (id) ?_;rintro s0 H0 ⟨⟨bb,rfl⟩,rfl⟩ s1 H1 hs1 hH1;obtain⟨hs2,hH2⟩:=Zaf hs1 hH1;clear hs1 hH1;subst hs2 hH2;repeat(with_reducible apply And.intro;exact sdE)
     refine Zo Zl ?_;refine z8 ?_;refine Zpr ?_;refine hk2 _ ?_;intro hb;simp at hb<;>omega
  ·intro hg5;refine⟨.bool false,?_⟩
   first
    |(simp at hg5;done)
    |skip
     try replace hg5:=Znb hg5
     refine Zo Zl ?_;refine z8 ?_;refine Zpr ?_;refine hk2 _ ?_;intro hb;simp at hb hg5<;>omega
 ·skip
  refine z6 ?_;refine sg [0,2,4,6,7,19] rfl ?_;intro K hK
  have hk2:∀B:Bool,(B=true→i<N)→K [(0,.ptr 0 0 0 0),(2,.int .i64 N),(4,.ptr 6 0 0 0),(6,.ptr 7 0 0 0),(7,.int .i64 i),(19,.bool B)] ⟨8,[(0,z12 1 mm at2),(6,uQ (.row ⟨true,true,34,4,1,fun _=>[.slc true 2 0 0 f.ns.length,.int .i64 f.ht,.slc true 3 0 0 f.ly.length,.slc true 5 0 0 f.cb.length]⟩)),(7,uQ (.row ⟨true,true,34,4,1,fun _=>[.nils,.int .i64 0,.nils,.nils]⟩)),(1,z18 ls),(2,uQ (.row ⟨false,false,62,3,f.ns.length,nds f.ns⟩)),(3,uQ (.row ⟨false,false,89,5,f.ly.length,lyR 4 f.ly⟩)),(4,(3*f.ly.length+1,fam false 3 1 (lyF false f.ly))),(5,uQ (.row ⟨false,false,58,3,f.cb.length,cbs f.cb⟩))]⟩:=by
   intro B hB;refine hK _ _ ?_;clear hK K;refine z7 _ rfl ?_ ?_
   ·intro h19;have hin:=hB h19;refine za (z6 (zc fun Q1 hN1 hX1 hR1 hE1=> ?_));refine sg [0,2,4,6,7,8] rfl ?_;intro K hK;iterate 4 (refine Zo Zl ?_)
    refine Zo Zl ?_;refine Zca (z1v ls mm at2 f.cb.length hx hm hi1 (by omega)) (id) ?_;rintro s0 H0 ⟨q,at3,g1,g2,g3,g4,rfl,rfl⟩ s1 H1 hs1 hH1;obtain⟨hs2,hH2⟩:=Zaf hs1 hH1;clear hs1 hH1;subst hs2 hH2;repeat(with_reducible apply And.intro;exact sdE)
    refine Zo Zl ?_;refine z8 (Zpr (hK _ _ ?_));clear hK K;refine z6 ?_;refine sg [0,2,4,6,7,8,28] rfl ?_;intro K hK;refine Zo Zl ?_;refine Zo Zl ?_;refine Zca (bool_spec ls mm at3 4 hx hm g1 (by omega) (by omega)) (id) ?_;rintro s0 H0 ⟨b4,at4,e1,rfl,rfl⟩ s1 H1 hs1 hH1;obtain⟨hs2,hH2⟩:=Zaf hs1 hH1;clear hs1 hH1;subst hs2 hH2;repeat(with_reducible apply And.intro;exact sdE)
    refine z8 (Zpr (hK _ _ ?_));clear hK K;refine z7 _ rfl ?_ ?_
    ·intro h28
     refine z6 (z6 ?_);refine Zrt [0,2,4,6,7,9,10] (.op 0 (.op 1 (.op 2 (.op 5 (.op 6 (.op 7 (.two 3 13 (.op 4 (.two 8 13 (.two 9 13 (.op 10 (.op 11 (.op 12 (.op 13 (.op 14 (.op 15 .done)))))) (.op 9 (.op 10 (.op 11 (.op 12 (.op 14 (.op 15 .done))))))) (.op 8 (.op 9 (.op 10 (.op 11 (.op 12 (.op 14 (.op 15 .done))))))))) (.op 3 (.op 4 (.op 8 (.op 9 (.op 10 (.op 11 (.op 12 (.op 14 (.op 15 .done)))))))))))))))) [[],[],[],[0],[],[],[],[],[0],[],[],[],[],[],[],[]] [[0],[0],[],[0],[0],[0],[0],[0],[0],[0],[0],[0],[0],[0],[0],[0]] ?_;intro K hK hG
     have hk6:∀(kind v:Int) (at5:Nat),at5≤mm→K [(0,.ptr 0 0 0 0),(2,.int .i64 N),(4,.ptr 6 0 0 0),(6,.ptr 7 0 0 0),(7,.int .i64 i),(9,.ptr 12 0 0 0),(10,.int .i64 (z21 f q kind v))] ⟨13,[(0,z12 1 mm at5),(12,uQ (.row ⟨true,true,34,4,1,fun _=>[.slc true 8 0 0 (z13 f q kind v).ns.length,.int .i64 (z13 f q kind v).ht,.slc true 9 0 0 (z13 f q kind v).ly.length,.slc true 11 0 0 (z13 f q kind v).cb.length]⟩)),(8,uQ (.row ⟨true,false,62,3,(z13 f q kind v).ns.length,nds (z13 f q kind v).ns⟩)),(9,uQ (.row ⟨true,false,89,5,(z13 f q kind v).ly.length,lyR 10 (z13 f q kind v).ly⟩)),(10,(3*(z13 f q kind v).ly.length+1,fam true 3 1 (lyF true (z13 f q kind v).ly))),(11,uQ (.row ⟨true,false,58,3,(z13 f q kind v).cb.length,cbs (z13 f q kind v).cb⟩)),(6,uQ (.row ⟨true,true,34,4,1,fun _=>[.slc true 2 0 0 f.ns.length,.int .i64 f.ht,.slc true 3 0 0 f.ly.length,.slc true 5 0 0 f.cb.length]⟩)),(7,uQ (.row ⟨true,true,34,4,1,fun _=>[.nils,.int .i64 0,.nils,.nils]⟩)),(1,z18 ls),(2,uQ (.row ⟨false,false,62,3,f.ns.length,nds f.ns⟩)),(3,uQ (.row ⟨false,false,89,5,f.ly.length,lyR 4 f.ly⟩)),(4,(3*f.ly.length+1,fam false 3 1 (lyF false f.ly))),(5,uQ (.row ⟨false,false,58,3,f.cb.length,cbs f.cb⟩))]⟩:=by
      intro kind v at5 hk5;refine hK _ _ ?_;clear hG hK K;refine Zrs [0,2,4,6,7,9,43] ?_;refine z7 _ rfl ?_ ?_
      ·intro h43
       refine Zrg [0,2,4,6,7] ?_;refine zo (hX1 _ _ ?_);refine Zrg [0,2,4,6,7] ?_;refine ze (hL1 _ _ ?_);have hse:z21 f q kind v=0:=by simpa using h43
       rw[show(i:Int)+1=((i+1:Nat):Int) from by omega];refine⟨(false,z13 f q kind v,lw,at5,i+1),⟨⟨⟨hk5,by dsimp only;omega⟩,hi3.start hse,fun h=>by cases h⟩,by dsimp only;omega⟩,id,?_⟩;simp only[plGF,Bool.false_eq_true,if_false];exact(Zg id)
      ·intro h43
       refine za (zo (hX1 _ _ ?_));refine Zrg [0,2,4,6,7] ?_;refine ze (hL1 _ _ ?_);rw[show(i:Int)+1=((i+1:Nat):Int) from by omega];refine⟨(true,f,lw,at5,i+1),⟨⟨⟨hk5,by dsimp only;omega⟩,hi3,hi4⟩,by dsimp only;omega⟩,id,?_⟩;simp only[plGF,if_true];exact(Zg id)
     refine Zo (ZT [] [0] []) ?_;refine Zo (ZT [] [0] []) ?_;refine Zo (ZT [] [] []) ?_;refine Zo (ZT [] [0] []) ?_;refine Zo (ZT [] [0] []) ?_;refine Zo (ZT [] [0] []) ?_;refine z1x ?_ ?_
     ·skip
      refine Zo (ZT [0] [0] []) ?_;refine Zca (z1v ls mm at4 2 hx hm e1 (by omega)) (id) ?_;rintro s0 H0 ⟨v,at5,d1,d2,d3,d4,rfl,rfl⟩ s1 H1 hs1 hH1;obtain⟨hs2,hH2⟩:=Zaf hs1 hH1;clear hs1 hH1;subst hs2 hH2;repeat(with_reducible apply And.intro;exact sdE)
      have d5:=d3 (by omega);refine Zo (ZT [] [0] []) ?_;refine z1x ?_ ?_
      ·skip
       refine Zo (ZT [0] [0] []) ?_;refine Zca (id_spec ls mm at5 hx hm d1 f.ns f.ns.length rfl (by omega)) (fun z=>if z=2 then 2 else z) ?_;rintro s0 H0 ⟨w,at6,c1,rfl,rfl⟩ s1 H1 hs1 hH1;obtain⟨hs2,hH2⟩:=Zaf hs1 hH1;clear hs1 hH1;subst hs2 hH2;repeat(with_reducible apply And.intro;exact sdE)
       refine z1x ?_ ?_
       ·skip
        refine Zo (ZT [] [0] []) ?_;refine Zc1 (z4h f lw hi3.fi f.ns.length f.ly.length f.cb.length q (1+v) w rfl rfl rfl) (fun z=>z+2) ?_;refine Zo (ZT [] [0] []) ?_;refine Zo (ZT [] [0] []) ?_;refine Zo (ZT [] [0] []) ?_;refine Zo (ZT [] [0] [12]) ?_;refine Zo (ZT [12] [0] [12]) ?_;refine Zo (ZT [12] [0] [12]) ?_;refine z15 ?_;refine Zpr ?_;exact hG _ _ _ _ id (Zg id) (hk6 (1+v) w at6 c1)
       ·skip
        refine Zo (ZT [] [0] [8]) ?_;refine Zo (ZT [8] [0] [8]) ?_;refine Zc1 (z4h f lw hi3.fi f.ns.length f.ly.length f.cb.length q (1+v) w rfl rfl rfl) (fun z=>z+2) ?_;refine Zo (ZT [8] [0] [8]) ?_;refine Zo (ZT [8] [0] [8]) ?_;refine Zo (ZT [8] [0] [8]) ?_;refine Zo (ZT [8] [0] [8]) ?_;refine Zo (ZT [8] [0] [8]) ?_;refine z15 ?_;refine Zpr ?_;exact hG _ _ _ _ (fun z=>if z=8 then 9 else if z=9 then 10 else if z=10 then 11 else if z=11 then 12 else if z=12 then 8 else z) (Zg (fun z=>if z=8 then 9 else if z=9 then 10 else if z=10 then 11 else if z=11 then 12 else if z=12 then 8 else z)) (hk6 (1+v) w at6 c1)
      ·skip
       refine Zo (ZT [] [0] [8]) ?_;refine Zo (ZT [0,8] [0] [8]) ?_;refine Zca (id_spec ls mm at5 hx hm d1 f.ns f.ns.length rfl (by omega)) (fun z=>if z=2 then 2 else z) ?_;rintro s0 H0 ⟨w,at6,c1,rfl,rfl⟩ s1 H1 hs1 hH1;obtain⟨hs2,hH2⟩:=Zaf hs1 hH1;clear hs1 hH1;subst hs2 hH2;repeat(with_reducible apply And.intro;exact sdE)
       refine Zo (ZT [8] [0] [8]) ?_;refine Zc1 (z4h f lw hi3.fi f.ns.length f.ly.length f.cb.length q (1+v) w rfl rfl rfl) (fun z=>z+2) ?_;refine Zo (ZT [8] [0] [8]) ?_;refine Zo (ZT [8] [0] [8]) ?_;refine Zo (ZT [8] [0] [8]) ?_;refine Zo (ZT [8] [0] [8]) ?_;refine Zo (ZT [8] [0] [8]) ?_;refine z15 ?_;refine Zpr ?_;exact hG _ _ _ _ (fun z=>if z=8 then 9 else if z=9 then 10 else if z=10 then 11 else if z=11 then 12 else if z=12 then 8 else z) (Zg (fun z=>if z=8 then 9 else if z=9 then 10 else if z=10 then 11 else if z=11 then 12 else if z=12 then 8 else z)) (hk6 (1+v) w at6 c1)
     ·skip
      refine Zo (ZT [] [0] [8]) ?_;refine Zo (ZT [0,8] [0] [8]) ?_;refine Zca (z1v ls mm at4 2 hx hm e1 (by omega)) (id) ?_;rintro s0 H0 ⟨v,at5,d1,d2,d3,d4,rfl,rfl⟩ s1 H1 hs1 hH1;obtain⟨hs2,hH2⟩:=Zaf hs1 hH1;clear hs1 hH1;subst hs2 hH2;repeat(with_reducible apply And.intro;exact sdE)
      have d5:=d3 (by omega);refine Zo (ZT [8] [0] [8]) ?_;refine Zo (ZT [0,8] [0] [8]) ?_;refine Zca (id_spec ls mm at5 hx hm d1 f.ns f.ns.length rfl (by omega)) (fun z=>if z=2 then 2 else z) ?_;rintro s0 H0 ⟨w,at6,c1,rfl,rfl⟩ s1 H1 hs1 hH1;obtain⟨hs2,hH2⟩:=Zaf hs1 hH1;clear hs1 hH1;subst hs2 hH2;repeat(with_reducible apply And.intro;exact sdE)
      refine Zo (ZT [8] [0] [8]) ?_;refine Zc1 (z4h f lw hi3.fi f.ns.length f.ly.length f.cb.length q (1+v) w rfl rfl rfl) (fun z=>z+2) ?_;refine Zo (ZT [8] [0] [8]) ?_;refine Zo (ZT [8] [0] [8]) ?_;refine Zo (ZT [8] [0] [8]) ?_;refine Zo (ZT [8] [0] [8]) ?_;refine Zo (ZT [8] [0] [8]) ?_;refine z15 ?_;refine Zpr ?_;exact hG _ _ _ _ (fun z=>if z=8 then 9 else if z=9 then 10 else if z=10 then 11 else if z=11 then 12 else if z=12 then 8 else z) (Zg (fun z=>if z=8 then 9 else if z=9 then 10 else if z=10 then 11 else if z=11 then 12 else if z=12 then 8 else z)) (hk6 (1+v) w at6 c1)
    ·intro h28
     refine za ?_;refine sg [0,2,4,6,7,11,12] rfl ?_;intro K hK;iterate 2 (refine Zo Zl ?_)
     refine Zo Zl ?_;refine Zc1 (Step_spec f lw hi3.fi f.ns.length f.ly.length f.cb.length q rfl rfl rfl) (fun z=>z+2) ?_;iterate 6 (refine Zo Zl ?_)
     refine z8 (Zpr (hK _ _ ?_));clear hK K;refine Zrs [0,2,4,6,7,11,51] ?_;refine z7 _ rfl ?_ ?_
     ·intro h51
      refine Zrg [0,2,4,6,7] ?_;refine ze (hN1 _ _ ?_);refine Zrg [0,2,4,6,7] ?_;refine ze (hL1 _ _ ?_);obtain⟨lw',hl⟩:=hi3.step h51;obtain⟨k1,k2,k3,k4⟩:=stepFR_keeps hi3.fi q;rw[show(i:Int)+1=((i+1:Nat):Int) from by omega];refine⟨(false,z3o f q,lw',at4,i+1),⟨⟨⟨e1,by dsimp only;omega⟩,hl,fun h=>by cases h⟩,by dsimp only;omega⟩,id,?_⟩;simp only[plGF,Bool.false_eq_true,if_false];rw[k1,k2,k3,k4];exact(Zg id)
     ·intro h51
      refine za (ze (hN1 _ _ ?_));refine Zrg [0,2,4,6,7] ?_;refine ze (hL1 _ _ ?_);rw[show(i:Int)+1=((i+1:Nat):Int) from by omega];refine⟨(true,f,lw,at4,i+1),⟨⟨⟨e1,by dsimp only;omega⟩,hi3,hi4⟩,by dsimp only;omega⟩,id,?_⟩;simp only[plGF,if_true];exact(Zg id)
   ·intro h19
    refine zo (hEL1 _ _ _ (hX0 _ _ ?_));refine Zrs [6] ?_;refine zd (hQ _ _ ?_);refine zp (id) (.agg [.slc true 2 0 0 f.ns.length,.int .i64 f.ht,.slc true 3 0 0 f.ly.length,.slc true 5 0 0 f.cb.length]) (⟨6,[(0,z12 1 mm at2)]⟩) (.inl rfl) ?_;refine Zou ?_;refine⟨Zs,Zs,(Zg (id)),Zs,?_⟩;exact⟨true,f,lw,at2,⟨hi1,hi3,hi4⟩,rfl,rfl⟩
  iterate 5 (refine Zo Zl ?_)
  refine z1k ?_;refine z1z rfl rfl ?_;refine Zgr ?_
  first|refine z1n ?_ ?_|refine(fun(h1:false=true→_) (h2:false=false→_)=>And.intro h1 fun _=>h2 rfl) ?_ ?_|refine And.intro ?_ ?_
  ·intro hg5
   first
    |(simp at hg5;done)
    |skip
     try replace hg5:=Znb hg5
     refine Zo id ?_;refine Zca (leftT_spec ls mm at2) (id) ?_;rintro s0 H0 ⟨⟨bb,rfl⟩,rfl⟩ s1 H1 hs1 hH1;obtain⟨hs2,hH2⟩:=Zaf hs1 hH1;clear hs1 hH1;subst hs2 hH2;repeat(with_reducible apply And.intro;exact sdE)
     refine Zo Zl ?_;refine z8 ?_;refine Zpr ?_;refine hk2 _ ?_;intro hb;simp at hb<;>omega
  ·intro hg5;refine⟨.bool false,?_⟩
   first
    |(simp at hg5;done)
    |skip
     try replace hg5:=Znb hg5
     refine Zo Zl ?_;refine z8 ?_;refine Zpr ?_;refine hk2 _ ?_;intro hb;simp at hb hg5<;>omega
end Go.Proofs

namespace Go.Sk
open Go.RowKit
theorem zf.nil {P : Program} {f : FuncId} {args args' : List SV} {n : Nat} {os os1 : List (Nat × Nat × (Nat → Obj))} {e : TypeId} {va : Bool} {sz : Nat} {F : Nat → List SV} {R : SV → AH → Prop}
    (h:zf P f args ⟨n+1,os1⟩ R) (hl:∀id k,look os1 id k=look ((n,uQ (.row ⟨false,va,e,sz,0,F⟩))::os) id k) (hm:∀y∈os1,(y.2.2 0).own=true→y∈os)
    (hd:∀β vs,z2h β args' vs→z2h β args vs) (hlt1:SV.ltL (n+1) args):zf P f args' ⟨n,os⟩ R:=by
  intro X β w vs hP hm0 hw hb ho hS hv hlt;have hm0:X.m0=n:=hm0
  have hS1:St X (β.set n fun _=>none) ⟨n+1,(n,uQ (.row ⟨false,va,e,sz,0,F⟩))::os⟩ w:=
    St.new' (H:=⟨n,os⟩) hS (fun k L _ he=>by cases he) (fun k k' L L' h h' he he' _=>by cases he) (fun k hk=> .inl ⟨rfl,rfl⟩) (fun k hk i j s hi _=>absurd hi (Nat.not_lt_zero _))
  have hrow:∀{k o},look ((n,uQ (.row ⟨false,va,e,sz,0,F⟩))::os) n k=some o→o.own=false:=fun {k o} g=>by
    rw[z1a,if_pos rfl] at g
    split at g
    · cases g;rfl
    · cases g
  have hne:∀{id k},id≠n→look ((n,uQ (.row ⟨false,va,e,sz,0,F⟩))::os) id k=look os id k:=fun {id k} g=>by rw[z1a,if_neg (Ne.symm g)]
  have how:(fun id k=> ∃o,look os1 id k=some o∧o.own=true)=fun id k=> ∃o,look os id k=some o∧o.own=true:=by
    funext id k
    apply propext
    constructor
    · rintro⟨o,g1,g2⟩;rw[hl] at g1
      by_cases g:id=n
      · subst g;rw[hrow g1] at g2;cases g2
      · rw[hne g] at g1;exact⟨o,g1,g2⟩
    · rintro⟨o,g1,g2⟩;have:id<n:=(hS.lt _ _ _ g1).1;exact⟨o,by rw[hl,hne (by omega)];exact g1,g2⟩
  have hkl:∀{id k},X.own0 id k→id<n:=fun {id k} g=>by have:=(hS.keep _ _ g).1;omega
  have hS2:St {X with m0:=n+1,β0:=β.set n fun _=>none} (β.set n fun _=>none) ⟨n+1,os1⟩ w:=by
    refine⟨hS1.os,hS1.tape,hS1.output,hS1.size,fun _ _ _=>rfl,fun id k o g=>hS1.holds id k o (by rw[←hl];exact g),fun id k id' k' o o' L L' g1 g2=>hS1.sep id k id' k' o o' L L' (by rw[←hl];exact g1) (by rw[←hl];exact g2),fun b hb' hn=>hS1.old b hb' fun id k o L g=>hn id k o L (by rw[hl];exact g),fun id k o L g go gb=> ?_,fun id k g=> ?_,Nat.le_refl _,fun id k o g=>hS1.lt id k o (by rw[←hl];exact g),?_,hS1.drawn⟩
    · rw[hl] at g;rcases hS1.mine id k o L g go gb with q|q
      · exact .inl ⟨Nat.lt_succ_of_lt (hm0 ▸ q.1),q.2⟩
      · refine .inr ⟨?_,q.2⟩;have:id≠n:=fun e=>by subst e;rw[hrow g] at go;cases go
        have:=q.1
        show n+1≤id
        omega
    · obtain⟨g1,o,g2,g3⟩:=hS1.keep id k g;exact⟨Nat.lt_succ_of_lt (hkl g),o,by rw[hl];exact g2,g3⟩
    · refine⟨fun g hg=> ?_,fun g hg=> ?_⟩
      · obtain⟨a,b,c⟩:=hS1.tabs.1 g hg
        exact ⟨a, b, fun id k L q1 q2 => c id k L q1 (by rw [hb]; have := hkl q1; have e : (β.set n fun _ => none) id k = β id k := by unfold Env.set; rw [if_neg (by omega)]
                                                         rw[←e];exact q2)⟩
      · obtain⟨a,b,c⟩:=hS1.tabs.2 g hg
        exact ⟨a, b, fun id k L q1 q2 => c id k L q1 (by rw [hb]; have := hkl q1; have e : (β.set n fun _ => none) id k = β id k := by unfold Env.set; rw [if_neg (by omega)]
                                                         rw[←e];exact q2)⟩
  refine(h {X with m0:=n+1,β0:=β.set n fun _=>none} _ w vs hP rfl hw rfl (ho.trans how.symm) hS2 (hd _ _ (z4j (Env.agree_set β n _) _ _ hlt hv)) hlt1).mono ?_;rintro e w' ⟨v,rfl,β',s,H',hR,h1,h2,h3,h4⟩;refine⟨v,rfl,β',s,H',hR,fun x hx=> ?_,h2,h3,?_⟩
  · obtain⟨q1,q2⟩:=h1 x hx;refine⟨q1,?_⟩;rcases q2 with q2|⟨y,y1,y2,y3,y4⟩
    · exact .inl (Nat.le_of_succ_le q2)
    · exact .inr ⟨y,hm y y1 y4,y2,y3,y4⟩
  · refine⟨h4.os,h4.tape,h4.output,h4.size,fun id k hid=> ?_,h4.holds,h4.sep,h4.old,fun id k o L g go gb=> ?_,fun id k g=> ?_,?_,h4.lt,hS.tabs,h4.drawn⟩
    · rw[hm0] at hid;rw[h4.fix id k (Nat.lt_succ_of_lt hid),hb]
      show(β.set n fun _=>none) id k=β id k
      unfold Env.set;rw[if_neg (by omega)]
    · rcases h4.mine id k o L g go gb with q|q
      · exact .inl ⟨by rw[hm0];exact hkl q.2,q.2⟩
      · exact .inr ⟨by rw[hm0];exact Nat.le_of_succ_le q.1,q.2⟩
    · exact⟨by rw[hm0];exact hkl g,(h4.keep id k g).2⟩
    · rw[hm0];exact Nat.le_of_succ_le h4.m0
end Go.Sk

namespace Go.Proofs
open Go.Sk
theorem New_nil (ns:List Nd)(m n:Nat)(ht:Int)(hn:ns.length=n)(hc:z1r ns=0)(hs:ns.length≤19)(m1:1≤m)(m8:m≤8)(h0:0≤ht)(h16:ht≤16):
  zf Tryz.prog 16 [.slc false 0 0 0 n,.nils,.int .i64 m,.int .i64 ht] ⟨1,[(0,uQ (.row ⟨false,false,62,3,n,nds ns⟩))]⟩
   (fun s H1=>s= .tup [.agg [.slc true 2 0 0 n,.int .i64 ht,.slc true 3 0 0 (z3e ns [] m ht).ly.length,.slc true 5 0 0 m],.int .i64 0]∧H1=⟨6,[(2,uQ (.row ⟨true,false,62,3,n,nds ns⟩)),(3,uQ (.row ⟨true,false,89,5,(z3e ns [] m ht).ly.length,lyR 4 (z3e ns [] m ht).ly⟩)),(4,(3*(z3e ns [] m ht).ly.length+1,fam true 3 1 (lyF true (z3e ns [] m ht).ly))),(5,uQ (.row ⟨true,false,58,3,m,cbs (List.replicate m noCb)⟩))]⟩):=by
 refine(New_ok ns [] m n 0 ht hn rfl hc hs m1 m8 h0 h16 (by decide) (fun v hv=>by cases hv) List.nodup_nil).nil (n:=1) (e:=3) (va:=false) (sz:=1) (F:=ints []) (fun id k=> ?_) (fun y hy ho=> ?_) (fun β vs hv=> ?_) (by simp[SV.ltL,SV.lt])
 ·rw[z1a,z1a,z1a,z1a]
  by_cases g:id=0
  ·subst g;rfl
  ·by_cases g1:id=1
   ·subst g1;rfl
   ·rw[if_neg (Ne.symm g),if_neg (Ne.symm g1),if_neg (Ne.symm g),if_neg (Ne.symm g1)]
 ·simp only[List.mem_cons,List.not_mem_nil,or_false] at hy;rcases hy with rfl|rfl
  ·exact List.mem_cons_self ..
  ·cases ho
 ·obtain⟨a,l,h1,⟨b,l2,h2,h3,e2⟩,e1⟩:=hv;have h2:b= .slice none 0 0:=h2;subst h2;exact⟨a,l,h1,⟨_,l2,⟨none,0,rfl,Nat.le_refl _,fun h=>absurd h (Nat.lt_irrefl _)⟩,h3,e2⟩,e1⟩
end Go.Proofs

namespace Go.Proofs
open Go.Sk
open D0 (oxE sdE)
end Go.Proofs

namespace Go.Proofs
open Go.Sk
end Go.Proofs

namespace Go.Proofs
open Go.Sk
open D0 (oxE sdE)
end Go.Proofs

namespace Go.Proofs
open Go.Sk
open D0 (oxE)
end Go.Proofs

namespace Go.Proofs
open Go.Sk
theorem clsK_ap (l:List Cl)(i:Nat):z2m l i=(cl l i).sv:=rfl
def numF (ids:List Int)(c:Int):Int:=if c<2 then 0 else nth ids (c-2).toNat
def lnkF (x:Ly)(c:Int):Int×Int:=(numF x.ids (cl x.cs c.toNat).left,numF x.ids (cl x.cs c.toNat).right)
def ec47:=aj @Tryz.szLink @Tryz.zLink
def JoEm.exE:=aj @z1c (aj @zg (aj @zi (aj @zq (aj @zk (aj @z14 (aj @z19 (aj ec2 (aj @zj (aj @zy (aj @zu (aj @zl (aj ec13 (aj @zw (aj z40 (aj z4t (aj @z10 (aj ec3 (aj ec5 (aj @z18.eq_1 (aj @z11.eq_1 (aj @ints.eq_1 (aj ec34 (aj ec35 (aj ec36 (aj @Tryz.tyLink (aj ec47 @clsK_ap))))))))))))))))))))))))))
def JoEm.axE:=aj @z1c (aj @zg (aj @zi (aj @zq (aj @zk (aj @z14 (aj @z19 (aj ec2 (aj @zj (aj @zy (aj @zu (aj @zl (aj ec13 (aj @zw (aj z40 (aj z4t (aj @z10 (aj ec3 (aj ec5 (aj @z18.eq_1 (aj @z11.eq_1 (aj ec34 (aj ec35 (aj @Tryz.tyLink (aj ec47 (aj @clsK_ap (aj @z1s (aj @z2g (aj @z2s (aj @z3d (aj ec38 @z47))))))))))))))))))))))))))))))
def JoEm.oxE:=aj @z10 (aj ec34 @Tryz.tyLink)
open JnNm (gxE)
open JoEm (axE oxE exE)
open D0 (sdE)
theorem number_spec (ids:List Int)(lv wd c:Int)(a n m:Nat)(ha:ids.length=a)(hx:a≤1000000)(h0:0≤c)(h1:c<a+2):
  zf Tryz.prog 122 [.agg [.int .i64 lv,.int .u32 wd,.slc false 0 0 0 a,.slc false 1 0 0 n,.slc false 2 0 0 m],.int .i64 c] ⟨3,[(0,uQ (.row ⟨false,false,3,1,a,ints ids⟩))]⟩
   (fun s H1=>s= .int .i64 (numF ids c)∧H1=⟨3,[]⟩):=by
 refine zf.ofC false 13 [.tmp 4] Tryz.func122 rfl rfl Tryz.ntmps122 Tryz.results122 rfl ?_;intro w0 own0 β0 Q hQ hQn;simp only[z16];refine Zrs [1,2] ?_;refine z6 ?_;refine Zrs [1,2,6] ?_;refine z7 _ rfl ?_ ?_
 ·intro h6;replace h6:=Znb h6;refine Zrs [4] ?_;refine zd (hQ _ _ ?_);refine zb (H':=⟨3,[]⟩) (.inl rfl) ?_;refine Zou ?_;refine⟨Zs,(Zg id),Zs,?_⟩;rw[numF,if_pos h6];exact⟨rfl,by trivial⟩
 ·intro h6;replace h6:=Znb h6;refine za ?_;refine Zrs [4] ?_;refine zd (hQ _ _ ?_);refine zb (H':=⟨3,[]⟩) (.inl rfl) ?_;refine Zou ?_;refine⟨Zs,(Zg id),Zs,?_⟩;rw[numF,if_neg (by omega)];exact⟨rfl,by trivial⟩
theorem link_spec (x:Ly)(c:Int)(a n m:Nat)(ha:x.ids.length=a)(hn:x.cs.length=n)(hx:a≤1000000)(hy:n≤1000000)(h0:0≤c)(h1:c<n)(hl:0≤(cl x.cs c.toNat).left∧(cl x.cs c.toNat).left<a+2)(hr:0≤(cl x.cs c.toNat).right∧(cl x.cs c.toNat).right<a+2):
  zf Tryz.prog 81 [.agg [.int .i64 x.lvl,.int .u32 x.wd,.slc false 0 0 0 a,.slc false 1 0 0 n,.slc false 2 0 0 m],.int .i64 c] ⟨3,[(0,uQ (.row ⟨false,false,3,1,a,ints x.ids⟩)),(1,uQ (.row ⟨false,false,117,5,n,z2m x.cs⟩))]⟩
   (fun s H1=>s= .agg [.int .i64 (lnkF x c).1,.int .i64 (lnkF x c).2]∧H1=⟨3,[]⟩):=by
 refine zf.ofC false 21 [.cell 4 98] Tryz.func81 rfl rfl Tryz.ntmps81 Tryz.results81 rfl ?_;intro w0 own0 β0 Q hQ hQn;simp only[z16];refine Zrs [1,2,4] ?_;refine Zrs [2,4,5] ?_;refine z6 ?_;refine Zrd [4] [0,1,2,4,5,6,3,7,8,9] [[],[],[],[],[],[],[],[],[],[4]] [[],[],[],[],[],[],[],[],[],[4]] ?_;intro K hK;iterate 6 (refine Zo (Zi [] []) ?_)
 refine Zo (Zi [] []) ?_;refine Zc1 (number_spec x.ids x.lvl x.wd (cl x.cs c.toNat).left a n m ha hx hl.1 hl.2) (id) ?_;refine Zo (Zi [] []) ?_;refine Zc1 (number_spec x.ids x.lvl x.wd (cl x.cs c.toNat).right a n m ha hx hr.1 hr.2) (id) ?_;refine Zo (Zi [] []) ?_;refine Zo (Zi [4] [4]) ?_;refine zz (Zpr (hK _ _ ?_));clear hK K;refine zd (hQ _ _ ?_);refine zb (H':=⟨3,[]⟩) (.inl rfl) ?_;refine Zou ?_;refine⟨Zs,(Zg id),Zs,?_⟩
 first|trivial|exact⟨rfl,trivial⟩
def lkPi (i:Nat):Pn:=fun id k=>if id=0 then(0,3*i+1) else if id=1 then(0,3*i+2) else if id=2 then(0,3*i+3) else(id,k)
theorem linkM_spec (L:List Ly)(hb:lyB L)(i k:Nat)(hi:i<k)(c:Int)(h0:0≤c)(h1:c<(lyA L i).cs.length)(hl:0≤(cl (lyA L i).cs c.toNat).left∧(cl (lyA L i).cs c.toNat).left<(lyA L i).ids.length+2)(hr:0≤(cl (lyA L i).cs c.toNat).right∧(cl (lyA L i).cs c.toNat).right<(lyA L i).ids.length+2):
  zf Tryz.prog 81 [.agg [.int .i64 (lyA L i).lvl,.int .u32 (lyA L i).wd,.slc false 0 (3*i+1) 0 (lyA L i).ids.length,.slc false 0 (3*i+2) 0 (lyA L i).cs.length,.slc false 0 (3*i+3) 0 (lyA L i).ps.length],.int .i64 c] ⟨3,[(0,(3*k+1,fam false 3 1 (lyF false L)))]⟩
   (fun s H1=>s= .agg [.int .i64 (lnkF (lyA L i) c).1,.int .i64 (lnkF (lyA L i) c).2]∧H1=⟨3,[]⟩):=by
 have h:=link_spec (lyA L i) c _ _ (lyA L i).ps.length rfl rfl (hb.2 i).1 (hb.2 i).2.1 h0 h1 hl hr
 have g:=h.mem (lkPi i) (os1:=[(0,(3*k+1,fam false 3 1 (lyF false L)))])
  (by
   refine⟨⟨by show 0<3;decide,fun k=>rfl,fun k' hk=>⟨Obj.lt_row.2 fun q _=>z20 _ _ q,?_⟩⟩,⟨by show 1<3;decide,fun k=>rfl,fun k' hk=>⟨Obj.lt_row.2 fun q _=>cls_lt _ _ q,?_⟩⟩,trivial⟩
   ·show 3*i+1<3*k+1∧zn _ (fam false 3 1 (lyF false L) (3*i+1)) _
    refine⟨by omega,?_⟩;rw[z2k,lyF_0];exact⟨fun h=>(by cases h),rfl,Nat.le_refl _,fun q _=>(z2j _ _ q).symm⟩
   ·show 3*i+2<3*k+1∧zn _ (fam false 3 1 (lyF false L) ((3*i+1)+1)) _
    refine⟨by omega,?_⟩;rw[z2k,lyF_1]
    exact⟨fun h=>(by cases h),rfl,Nat.le_refl _,fun q _=>(z3y _ _ q).symm⟩)
  ⟨by simp[SV.lt,SV.ltL],by simp[SV.lt],trivial⟩ (by
   intro id k hid;have hid:id<3:=hid
   show(lkPi i id k).1<3
   simp only[lkPi];repeat' split
   all_goals first|exact hid|(show 0<3;decide)) (by
   intro x hx k;simp only[List.mem_cons,List.not_mem_nil,or_false] at hx;subst hx
   exact lyF_fown false _ _ L k)
 have e:SV.renPL (lkPi i) [.agg [.int .i64 (lyA L i).lvl,.int .u32 (lyA L i).wd,.slc false 0 0 0 (lyA L i).ids.length,.slc false 1 0 0 (lyA L i).cs.length,.slc false 2 0 0 (lyA L i).ps.length],.int .i64 c]=[.agg [.int .i64 (lyA L i).lvl,.int .u32 (lyA L i).wd,.slc false 0 (3*i+1) 0 (lyA L i).ids.length,.slc false 0 (3*i+2) 0 (lyA L i).cs.length,.slc false 0 (3*i+3) 0 (lyA L i).ps.length],.int .i64 c]:=rfl;rw[e] at g;refine g.imp ?_;rintro s H' ⟨s0,H0',⟨rfl,rfl⟩,rfl,rfl⟩;exact⟨rfl,rfl⟩
end Go.Proofs

namespace Go.Proofs
open Go.Sk
def nbF (fo:Fo)(v lv:Int):Int×Int:=if memF fo.ly v lv then lnkF (lyA fo.ly (plI fo.ly v lv).toNat) (plK fo.ly v lv) else(0,0)
def upF (fo:Fo)(v:Int)(n:Nat):List (Int×Int):=(List.range (fo.ht.toNat+1)).map fun(q:Nat)=>if q<n then nbF fo v q else(0,0)
def linksF (fo:Fo):List Lk:=(z2b fo 0).map fun v=>⟨v,upF fo v (fo.ht.toNat+1)⟩
theorem upF_len (fo:Fo)(v:Int)(n:Nat):(upF fo v n).length=fo.ht.toNat+1:=by simp[upF]
theorem upF_at (fo:Fo)(v:Int)(n:Nat){q:Nat}(h:q<fo.ht.toNat+1):pI (upF fo v n) q=if q<n then nbF fo v q else(0,0):=by
 rw[pI_lt (by rw[upF_len];exact h)];simp[upF]
theorem pI_ge {l:List (Int×Int)}{i:Nat}(h:l.length≤i):pI l i=(0,0):=by rw[pI,List.getD_eq_getElem?_getD,List.getElem?_eq_none h];rfl
theorem upF_zero (fo:Fo)(v:Int):(fun _=>[SV.int .i64 0,SV.int .i64 0])=lvs (upF fo v 0):=by
 funext q
 rw[lvs]
 by_cases h:q<fo.ht.toNat+1
 ·rw[upF_at fo v 0 h,if_neg (Nat.not_lt_zero _)]
 ·rw[pI_ge (by rw[upF_len];omega)]
theorem upF_put (fo:Fo)(v:Int){n:Nat}(h:n<fo.ht.toNat+1){a b:Int}(e:nbF fo v n=(a,b)):(fun q=>if q=n then [SV.int .i64 a,SV.int .i64 b] else [SV.int .i64 (pI (upF fo v n) q).1,SV.int .i64 (pI (upF fo v n) q).2])=lvs (upF fo v (n+1)):=by
 refine(show _=(fun q=>if q=n then [SV.int .i64 a,SV.int .i64 b] else lvs (upF fo v n) q) from rfl).trans ?_
 funext q
 by_cases hq:q<fo.ht.toNat+1
 ·rw[lvs,lvs,upF_at fo v n hq,upF_at fo v (n+1) hq]
  by_cases g:q=n
  ·subst g;rw[if_pos rfl,if_pos (by omega),e]
  ·rw[if_neg g]
   by_cases g2:q<n
   ·rw[if_pos g2,if_pos (by omega)]
   ·rw[if_neg g2,if_neg (by omega)]
 ·rw[if_neg (by omega),lvs,lvs,pI_ge (by rw[upF_len];omega),pI_ge (by rw[upF_len];omega)]
theorem upF_same (fo:Fo)(v:Int){n:Nat}(h:n<fo.ht.toNat+1)(e:nbF fo v n=(0,0)):upF fo v (n+1)=upF fo v n:=by
 refine List.map_congr_left fun q hq=> ?_
 by_cases g:q=n
 ·subst g;rw[if_pos (by omega),if_neg (by omega),e]
 ·by_cases g2:q<n
  ·rw[if_pos g2,if_pos (by omega)]
  ·rw[if_neg g2,if_neg (by omega)]
theorem FI.nbr {fo:Fo}{ls:Nat→List Int}(h:FI fo ls){x:Nd}{lv:Int}{i k:Nat}(a:At fo x lv i k):((0≤(cl (lyA fo.ly i).cs (k+2)).left∧(cl (lyA fo.ly i).cs (k+2)).left<(lyA fo.ly i).ids.length+2)∧0≤(cl (lyA fo.ly i).cs (k+2)).right∧(cl (lyA fo.ly i).cs (k+2)).right<(lyA fo.ly i).ids.length+2):=by
 have h1:=(vld_of (h.inv i a.hi).vb).cell (k+2) a.cel;have h2:=(h.sh.idsl a.hi).2;omega
def ec48:=aj @Tryz.tyLinks (aj @Tryz.szLinks (aj @Tryz.tyLinked (aj @Tryz.szLinked (aj @Tryz.tyLinkeds (aj @Tryz.szLinkeds (aj @Tryz.zLinked @lvs_ap))))))
def JoFm.exE:=aj @z1c (aj @zg (aj @zi (aj @zq (aj @zk (aj @z14 (aj @z19 (aj ec2 (aj @zj (aj @zy (aj @zu (aj @zl (aj ec13 (aj @zw (aj z40 (aj z4t (aj @z10 (aj ec3 (aj ec5 (aj @z18.eq_1 (aj @z11.eq_1 (aj @ints.eq_1 (aj ec34 (aj ec35 (aj ec36 (aj @Tryz.tyLink (aj ec47 (aj ec48 (aj @lkR_ap @lkF_ap))))))))))))))))))))))))))))
def JoFm.gxE:=aj @z1c (aj z40 (aj ec16 (aj z4t (aj ec3 (aj ec7 (aj ec8 (aj @z18.eq_1 (aj @z11.eq_1 (aj @z2d (aj @z20 (aj ec37 (aj ec26 (aj ec29 (aj @lkR_ren' (aj @lkR_lt (aj @lkF_gives (aj @lkFm_lt (aj @lkF_fown (aj @lvs_ren' @lvs_lt)))))))))))))))))))
def JoFm.axE:=aj @z1c (aj @zg (aj @zi (aj @zq (aj @zk (aj @z14 (aj @z19 (aj ec2 (aj @zj (aj @zy (aj @zu (aj @zl (aj ec13 (aj @zw (aj z40 (aj z4t (aj @z10 (aj ec3 (aj ec5 (aj @z18.eq_1 (aj @z11.eq_1 (aj ec34 (aj ec35 (aj @Tryz.tyLink (aj ec47 (aj ec48 (aj @z1s (aj @z2g (aj @z2s (aj @z3d (aj ec38 (aj @z47 (aj @lkF_ren (aj @lkR_fold (aj @lkR_ren @lvs_ren))))))))))))))))))))))))))))))))))
open JoFm (gxE axE exE)
open JnNm (oxE)
open D0 (sdE)
theorem Links_spec (fo:Fo)(ls:Nat→List Int)(h:FI fo ls)(n k m:Nat)(hn:fo.ns.length=n)(hk:fo.ly.length=k)(hm:fo.cb.length=m):
  zf Tryz.prog 40 [.agg [.slc false 0 0 0 n,.int .i64 fo.ht,.slc false 1 0 0 k,.slc false 3 0 0 m]] ⟨4,[(0,uQ (.row ⟨false,false,62,3,n,nds fo.ns⟩)),(1,uQ (.row ⟨false,false,89,5,k,lyR 2 fo.ly⟩)),(2,(3*k+1,fam false 3 1 (lyF false fo.ly))),(3,uQ (.row ⟨false,false,58,3,m,cbs fo.cb⟩))]⟩
   (fun s H1=>s= .slc true 4 0 0 (linksF fo).length∧H1=⟨6,[(4,uQ (.row ⟨true,false,96,2,(linksF fo).length,lkR true 5 (linksF fo)⟩)),(5,((linksF fo).length+1,fam true 98 2 (lkF true (linksF fo))))]⟩):=by
 have hb:=h.sh.lyB;have hlb:=hb.1;have hlc:=h.sh.lyC;have hx64:=h.sh.few;have hx8:=h.sh.m8;have hh0:=h.sh.h0;have hh16:=h.sh.h16;have hpl:=presF_len fo 0;obtain⟨T,hT⟩:∃T,linksF fo=T:=⟨_,rfl⟩;have hTl:T.length=(z2b fo 0).length:=by rw[←hT,linksF,List.length_map]
 have hTa:∀i,i<T.length→lk T i=⟨nth (z2b fo 0) i,upF fo (nth (z2b fo 0) i) (fo.ht.toNat+1)⟩:=fun i hi=>by
  rw[lk_lt hi,z2w (by omega)];subst hT;simp[linksF]
 subst hn hk hm;rw[hT];obtain⟨w,hw⟩:∃w,fo.ht.toNat+1=w:=⟨_,rfl⟩;refine zf.ofC false 58 [.tmp 2] Tryz.func40 rfl rfl Tryz.ntmps40 Tryz.results40 rfl ?_;intro w0 own0 β0 Q hQ hQn;simp only[z16];refine Zrs [1] ?_;refine Zrs [1,3] ?_;refine z6 ?_;refine sg [1,3,11,12,13] rfl ?_;intro K hK;refine Zo Zl ?_;refine Zo Zl ?_;refine Zc1 (Present_spec fo ls h fo.ns.length fo.ly.length fo.cb.length 0 rfl rfl rfl) (id) ?_;iterate 2 (refine Zo Zl ?_)
 refine z8 (Zpr (hK _ _ ?_));clear hK K;refine z2f 3 96 2 (lkR true 7 (T.take 0)) rfl ?_;dsimp only;refine z31 98 2 (lkF true (T.take 0)) ?_;dsimp only;refine zc fun Q0 hN0 hX0 hR0 hE0=> ?_;refine zr (σ:=Nat) (fun i=>i≤(z2b fo 0).length) (fun i=>(z2b fo 0).length-i) (fun i=>[(1,.ptr 4 0 0 0),(3,.slc true 6 0 0 (i)),(11,.slc true 5 0 0 (z2b fo 0).length),(12,.int .i64 (z2b fo 0).length),(13,.int .i64 i)]) (fun i=>⟨8,[(6,uQ (.row ⟨true,false,96,2,i,lkR true 7 (T.take (i))⟩)),(7,((i)+1,fam true 98 2 (lkF true (T.take (i))))),(5,uQ (.row ⟨true,false,3,1,(z2b fo 0).length,ints (z2b fo 0)⟩)),(4,uQ (.row ⟨true,true,34,4,1,fun _=>[.slc false 0 0 0 fo.ns.length,.int .i64 fo.ht,.slc false 1 0 0 fo.ly.length,.slc false 3 0 0 fo.cb.length]⟩)),(0,uQ (.row ⟨false,false,62,3,fo.ns.length,nds fo.ns⟩)),(1,uQ (.row ⟨false,false,89,5,fo.ly.length,lyR 2 fo.ly⟩)),(2,(3*fo.ly.length+1,fam false 3 1 (lyF false fo.ly))),(3,uQ (.row ⟨false,false,58,3,fo.cb.length,cbs fo.cb⟩))]⟩) 0 (Nat.zero_le _) (ρ:=id) (Zg id) ?_;rintro i hi QL1 hL1 hRL1 hEL1;refine Zrs [1,3,11,12,13,14] ?_;refine z6 ?_;refine z7 _ rfl ?_ ?_
 ·intro h14;replace h14:=Znb h14;obtain⟨v,hv⟩:∃v,nth (z2b fo 0) i=v:=⟨_,rfl⟩;obtain⟨_,x,hx,hxi,hxm⟩:=presF_mem.1 (show v∈z2b fo 0 by rw[←hv,z2w (by omega)];exact List.getElem_mem _);have hTi:=hTa i (by omega);rw[hv] at hTi;refine za (z6 (zc fun Q1 hN1 hX1 hR1 hE1=> ?_));refine Zrs [1,3,5,11,12,13] ?_;refine z6 ?_;rw[hv];refine z43 [1,3,5,6,11,12,13] rfl ?_;intro K hK;iterate 5 (refine Zo Zl ?_)
  rw[show(fo.ht+1).toNat=w from by omega];repeat(with_reducible apply And.intro;exact sdE)
  iterate 3 (refine Zo Zl ?_)
  refine z8 (Zpr (hK _ _ ?_));clear hK K;refine z6 ?_;refine Zrs [1,3,5,6,11,12,13,25,26] ?_;rw[upF_zero fo v];refine zc fun Q2 hN2 hX2 hR2 hE2=> ?_;refine zr (σ:=Nat) (fun q=>q≤w) (fun q=>w-q) (fun q=>[(1,.ptr 4 0 0 0),(3,.slc true 6 0 0 (i)),(11,.slc true 5 0 0 (z2b fo 0).length),(12,.int .i64 (z2b fo 0).length),(13,.int .i64 i),(5,.int .i64 v),(6,.ptr 9 0 0 0),(25,.int .i64 w),(26,.int .i64 q)]) (fun q=>⟨10,[(9,uQ (.row ⟨true,true,96,2,1,fun _=>[.int .i64 v,.slc true 8 0 0 w]⟩)),(8,uQ (.row ⟨true,false,98,2,w,lvs (upF fo v q)⟩)),(6,uQ (.row ⟨true,false,96,2,i,lkR true 7 (T.take (i))⟩)),(7,((i)+1,fam true 98 2 (lkF true (T.take (i))))),(5,uQ (.row ⟨true,false,3,1,(z2b fo 0).length,ints (z2b fo 0)⟩)),(4,uQ (.row ⟨true,true,34,4,1,fun _=>[.slc false 0 0 0 fo.ns.length,.int .i64 fo.ht,.slc false 1 0 0 fo.ly.length,.slc false 3 0 0 fo.cb.length]⟩)),(0,uQ (.row ⟨false,false,62,3,fo.ns.length,nds fo.ns⟩)),(1,uQ (.row ⟨false,false,89,5,fo.ly.length,lyR 2 fo.ly⟩)),(2,(3*fo.ly.length+1,fam false 3 1 (lyF false fo.ly))),(3,uQ (.row ⟨false,false,58,3,fo.cb.length,cbs fo.cb⟩))]⟩) 0 (Nat.zero_le _) (ρ:=id) (Zg id) ?_;rintro q hq QL2 hL2 hRL2 hEL2;refine Zrs [1,3,5,6,11,12,13,25,26,27] ?_;refine z6 ?_;refine z7 _ rfl ?_ ?_
  ·intro h27;replace h27:=Znb h27;obtain⟨a,b,at_⟩:=h.sh.place hx (lv:=q) (by omega) (by omega);have hpI:=at_.pI;have hpK:=at_.pK;rw[hxi] at hpI hpK;have hnb:=h.nbr at_;have hai:=at_.hi;have hce:=at_.cel;refine za (z6 (zc fun Q3 hN3 hX3 hR3 hE3=> ?_));refine Zrs [1,3,5,6,7,11,12,13,25,26] ?_;refine sg [1,3,5,6,7,8,9,11,12,13,25,26] rfl ?_;intro K hK;iterate 3 (refine Zo Zl ?_)
   refine Zo Zl ?_;refine Zc1 (place_spec fo.ly hb fo.ly.length fo.ns.length fo.cb.length rfl fo.ht v q) (id) ?_;rw[hpI,hpK];iterate 5 (refine Zo Zl ?_)
   refine z8 (Zpr (hK _ _ ?_));clear hK K;refine sg [1,3,5,6,7,8,9,11,12,13,25,26,39] rfl ?_;intro K hK;iterate 3 (refine Zo Zl ?_)
   refine Zo Zl ?_;refine Zc1 (member_spec fo.ly hb hlc fo.ly.length fo.ns.length fo.cb.length rfl fo.ht v q) (id) ?_;refine z8 (Zpr (hK _ _ ?_));clear hK K;refine z7 _ rfl ?_ ?_
   ·intro h39;have hnn:nbF fo v q=lnkF (lyA fo.ly a) ((b:Int)+2):=by rw[nbF,if_pos h39,hpI,hpK,Int.toNat_natCast]
    refine Zrd [1,3,5,6,11,12,13,25,26] [0,1,2,3,4,5,6,7,8,9,10,11] [[],[],[],[],[],[],[],[],[],[],[],[8]] [[],[],[],[],[],[],[],[],[],[],[],[8]] ?_;intro K hK;iterate 9 (refine Zo (Zi [] []) ?_)
    refine Zo (Zi [] []) ?_;refine Zc1 (linkM_spec fo.ly hb a fo.ly.length hai ((b:Int)+2) (by omega) (by omega) (by rw[show((b:Int)+2).toNat=b+2 from by omega];exact hnb.1) (by rw[show((b:Int)+2).toNat=b+2 from by omega];exact hnb.2)) (fun z=>if z=0 then 2 else z) ?_;refine Zo (Zi [] []) ?_;refine Zo (Zi [8] [8]) ?_;rw[upF_put (a:=(lnkF (lyA fo.ly a) ((b:Int)+2)).1) (b:=(lnkF (lyA fo.ly a) ((b:Int)+2)).2) fo v (show q<fo.ht.toNat+1 by omega) hnn];repeat(with_reducible apply And.intro;exact sdE)
    refine zz (Zpr (hK _ _ ?_));clear hK K;refine ze (hN3 _ _ ?_);refine Zrg [1,3,5,6,11,12,13,25,26] ?_;refine ze (hL2 _ _ ?_);rw[show(q:Int)+1=((q+1:Nat):Int) from by omega];exact⟨q+1,⟨by omega,by omega⟩,id,(Zg id)⟩
   ·intro h39;have hnn:nbF fo v q=(0,0):=by rw[nbF,if_neg (by rw[h39];exact Bool.false_ne_true)]
    refine za (ze (hN3 _ _ ?_));refine Zrg [1,3,5,6,11,12,13,25,26] ?_;refine ze (hL2 _ _ ?_);rw[show(q:Int)+1=((q+1:Nat):Int) from by omega,←upF_same fo v (show q<fo.ht.toNat+1 by omega) hnn];exact⟨q+1,⟨by omega,by omega⟩,id,(Zg id)⟩
  ·intro h27;replace h27:=Znb h27;have hqe:q=w:=by omega
   subst hqe;refine zo (hEL2 _ _ _ (hX2 _ _ ?_));refine Zrg [1,3,11,12,13] ?_;refine ze (hN1 _ _ ?_);have hlv:(lk T i).lv.length=q:=by rw[hTi];exact(upF_len ..).trans hw
   have hTk:∀z,z<i+1→lk (T.take (i+1)) z=lk T z:=fun z hz=>by rw[lk,lk,List.getD_eq_getElem?_getD,List.getD_eq_getElem?_getD,List.getElem?_take,if_pos hz]
   have hTj:∀z,z<i→lk (T.take i) z=lk T z:=fun z hz=>by rw[lk,lk,List.getD_eq_getElem?_getD,List.getD_eq_getElem?_getD,List.getElem?_take,if_pos hz]
   have hout:∀z,z<i+1→app (lkR true 7 (T.take i)) i (z4d 2 1 [SV.int .i64 v,SV.slc true 8 0 0 q]) z=SV.renPL (mvP (fun z=>if z=6 then 11 else z) 7 i 8) (lkR true 7 (T.take (i+1)) z):=fun z hz=>by
    rw[lkR_renP,hTk z hz]
    split
    ·rename_i e;subst e;rw[app,if_neg (by omega),Nat.sub_self,hlv,hTi];rfl
    ·rw[app,if_pos (by omega),lkR,hTj z (by omega)];rfl
   refine z4f (fr':=[(1,.ptr 4 0 0 0),(3,.slc true 6 0 0 (i+1)),(11,.slc true 5 0 0 (z2b fo 0).length),(12,.int .i64 (z2b fo 0).length),(13,.int .i64 i)]) (H':=⟨8,[(6,uQ (.row ⟨true,false,96,2,i+1,lkR true 7 (T.take (i+1))⟩)),(7,((i+1)+1,fam true 98 2 (lkF true (T.take (i+1))))),(5,uQ (.row ⟨true,false,3,1,(z2b fo 0).length,ints (z2b fo 0)⟩)),(4,uQ (.row ⟨true,true,34,4,1,fun _=>[.slc false 0 0 0 fo.ns.length,.int .i64 fo.ht,.slc false 1 0 0 fo.ly.length,.slc false 3 0 0 fo.cb.length]⟩)),(0,uQ (.row ⟨false,false,62,3,fo.ns.length,nds fo.ns⟩)),(1,uQ (.row ⟨false,false,89,5,fo.ly.length,lyR 2 fo.ly⟩)),(2,(3*fo.ly.length+1,fam false 3 1 (lyF false fo.ly))),(3,uQ (.row ⟨false,false,58,3,fo.cb.length,cbs fo.cb⟩))]⟩) _ (Zgp (fun z=>if z=6 then 11 else z) (7) (i) (8) (z1f rfl Nat.zero_lt_one (by decide) (zm.of (fun _=>⟨rfl,rfl⟩) rfl (Nat.le_refl _) (hout)) (Obj.lt_row.2 fun q _=>(lkR_lt _ _ _ _ q).2 (Nat.le_of_ble_eq_true rfl)) (Nat.le_of_ble_eq_true rfl) (z4g rfl rfl Nat.zero_lt_one ⟨fun _=>⟨rfl,rfl⟩,rfl⟩ (Nat.succ_pos _) (fun z hz hne=>⟨by omega,lkF_givesP _ _ _ _ _ _ id (by rw[hTk z (by omega),hTj z (by omega)]),lkFm_lt _ _ _ _⟩) (lkF_newP _ _ _ _ _ (by rw[hTk i (by omega)];exact hlv) (fun z _=>by rw[hTk i (by omega),hTi,←hw])) (lkFm_lt _ _ _ _) (Nat.le_of_ble_eq_true rfl) (z1f rfl Nat.zero_lt_one (by decide) (zm.of (fun _=>⟨rfl,rfl⟩) rfl (Nat.le_refl _) (fun q _=>(z2j _ _ q).symm)) (Obj.lt_row.2 fun q _=>z20 _ _ q) (Nat.le_of_ble_eq_true rfl) (z1f rfl Nat.zero_lt_one (by decide) (zm.of (fun _=>⟨rfl,rfl⟩) rfl (Nat.le_refl _) (fun _ _=>rfl)) (Obj.lt_row.2 fun q _=>by simp[SV.ltL,SV.lt]) (Nat.le_of_ble_eq_true rfl) (z1f rfl Nat.zero_lt_one (by decide) (zm.of (fun h=>(by cases h)) rfl (Nat.le_refl _) (fun q _=>(z2y _ _ q).symm)) (Obj.lt_row.2 fun q _=>nds_lt _ _ q) (Nat.le_of_ble_eq_true rfl) (z1f rfl Nat.zero_lt_one (by decide) (zm.of (fun h=>(by cases h)) rfl (Nat.le_refl _) (fun q _=>(show lyR 2 fo.ly q=SV.renPL _ (lyR 2 fo.ly q) by rw[lyR_renO _ _ _ _ _ _ _ (by decide)];rfl))) (Obj.lt_row.2 fun q _=>(lyR_lt _ _ _ q).2 (Nat.le_of_ble_eq_true rfl)) (Nat.le_of_ble_eq_true rfl) (z1m.consO rfl (by decide) ⟨fun h=>(by cases h),rfl⟩ (Nat.le_refl _) (fun q _=>⟨lyF_givesP _ _ _ _ _ _ (fun h=>(by cases h)) rfl,z4p _ _ _ _⟩) (Nat.le_of_ble_eq_true rfl) (z1f rfl Nat.zero_lt_one (by decide) (zm.of (fun h=>(by cases h)) rfl (Nat.le_refl _) (fun q _=>(cbs_renP _ _ q).symm)) (Obj.lt_row.2 fun q _=>cbs_lt _ _ q) (Nat.le_of_ble_eq_true rfl) trivial))))))))) ?_
   refine Zrg [1,3,11,12,13] ?_;refine ze (hL1 _ _ ?_);rw[show(i:Int)+1=((i+1:Nat):Int) from by omega];exact⟨i+1,⟨by omega,by omega⟩,id,(Zg id)⟩
 ·intro h14;replace h14:=Znb h14;have hie:i=T.length:=by omega
  subst hie;rw[List.take_length];refine zo (hEL1 _ _ _ (hX0 _ _ ?_));refine Zrs [2] ?_;refine zd (hQ _ _ ?_);refine zp (fun z=>if z=4 then 6 else if z=5 then 7 else z) (.slc true 4 0 0 T.length) (⟨6,[(4,uQ (.row ⟨true,false,96,2,T.length,lkR true 5 T⟩)),(5,(T.length+1,fam true 98 2 (lkF true T)))]⟩) (.inl rfl) ?_;refine Zou ?_;refine⟨Zs,Zs,(Zg (fun z=>if z=4 then 6 else if z=5 then 7 else z)),Zs,?_⟩
  all_goals first|trivial|exact⟨rfl,trivial⟩
end Go.Proofs

namespace Go.Proofs
open Go.Sk
def pairN:List Nd:=[⟨1,⟨#[97]⟩,0⟩,⟨2,⟨#[98]⟩,2⟩]
def sanF:Nat→Fo
 |0=>z13 (z13 (z3e pairN [] 2 1) 0 1 1) 1 1 2
 |n+1=>z3o (sanF n) ((n%2:Nat):Int)
theorem san_mk:MkF pairN 2 1:=⟨by kernel_rfl,by decide,by decide,by decide,by decide,by decide⟩
theorem san_e0:z21 (z3e pairN [] 2 1) 0 1 1=0:=by kernel_rfl
theorem san_e1:z21 (z13 (z3e pairN [] 2 1) 0 1 1) 1 1 2=0:=by kernel_rfl
theorem san_100:busyN (sanF 100).cb=0∧(z2b (sanF 100) 1).length=2∧(linksF (sanF 100)).length=2∧(lk (linksF (sanF 100)) 0).lv.length=2∧(pI (lk (linksF (sanF 100)) 0).lv 1).2=2:=⟨by kernel_rfl,by kernel_rfl,by kernel_rfl,by kernel_rfl,by kernel_rfl⟩
theorem FI.next {fo:Fo}{ls:Nat→List Int}(h:FI fo ls)(p:Int):∃ls',FI (z3o fo p) ls':=by
 cases hs:stepFB fo p with
 |true=>obtain⟨ls',h',_⟩:=h.step hs (Nat.le_refl _);exact⟨ls',h'⟩
 |false=>exact⟨ls,by rw[z3o,h.vf,hs];exact h⟩
theorem stepFR_shape {fo:Fo}(hv:z5b fo=true)(p:Int):(z3o fo p).ns=fo.ns∧(z3o fo p).ht=fo.ht∧(z3o fo p).ly.length=fo.ly.length∧(z3o fo p).cb.length=fo.cb.length:=by
 rw[z3o,hv];simp only[Bool.not_true,Bool.false_eq_true,if_false]
 split
 ·split
  ·split
   ·simp
   ·simp[beginL,upL]
  ·simp[upL]
 ·simp
theorem san_FI:∀n,∃ls,FI (sanF n) ls
 |0=>⟨_,((FI_new san_mk []).start san_e0).start san_e1⟩
 |n+1=>by
  obtain⟨ls,h⟩:=san_FI n;exact h.next _
theorem san_shape:∀n,(sanF n).ns=pairN∧(sanF n).ht=1∧(sanF n).ly.length=2∧(sanF n).cb.length=2
 |0=>⟨by kernel_rfl,by kernel_rfl,by kernel_rfl,by kernel_rfl⟩
 |n+1=>by
  obtain⟨ls,h⟩:=san_FI n;obtain⟨a,b,c,d⟩:=stepFR_shape h.vf ((n%2:Nat):Int);obtain⟨a',b',c',d'⟩:=san_shape n;exact⟨a.trans a',b.trans b',c.trans c',d.trans d'⟩
theorem pair_rows:z4d 3 2 [SV.int .i64 1,SV.str ⟨#[97]⟩,SV.int .u32 0,SV.int .i64 2,SV.str ⟨#[98]⟩,SV.int .u32 2]=nds pairN:=by
 funext i
 match i with
 |0=>rfl
 |1=>rfl
 |i+2=>rfl
open JnNm (oxE gxE exE)
open D0 (sdE)
theorem pair_spec:zf Tryz.prog 55 [] ⟨0,[]⟩ (fun s H1=>s= .slc true 0 0 0 2∧H1=⟨1,[(0,uQ (.row ⟨true,false,62,3,2,nds pairN⟩))]⟩):=by
 refine zf.ofC false 4 [.tmp 0] Tryz.func55 rfl rfl Tryz.ntmps55 Tryz.results55 rfl ?_;intro w0 own0 β0 Q hQ hQn;simp only[z16];refine Zrs [] ?_;refine Zrs [0] ?_;refine zd (hQ _ _ ?_);rw[pair_rows];refine zb (H':=⟨1,[(0,uQ (.row ⟨true,false,62,3,2,nds pairN⟩))]⟩) (.inl rfl) ?_;refine Zou ?_;refine⟨Zs,(Zg id),Zs,?_⟩
 first|trivial|exact⟨rfl,trivial⟩
end Go.Proofs

namespace Go.Proofs
open Go.Sk
def san0:Fo:=z3e pairN [] 2 1
def san1:Fo:=z13 san0 0 1 1
theorem san0_sh:san0.ns=pairN∧san0.ht=1∧san0.ly.length=2∧san0.cb.length=2:=⟨by kernel_rfl,by kernel_rfl,by kernel_rfl,by kernel_rfl⟩
theorem san1_sh:san1.ns=pairN∧san1.ht=1∧san1.ly.length=2∧san1.cb.length=2:=⟨by kernel_rfl,by kernel_rfl,by kernel_rfl,by kernel_rfl⟩
theorem san0_FI:∃ls,FI san0 ls:=⟨_,FI_new san_mk []⟩
theorem san1_FI:∃ls,FI san1 ls:=⟨_,(FI_new san_mk []).start san_e0⟩
theorem New_san : zf Tryz.prog 16 [.slc false 0 0 0 2, .nils, .int .i64 2, .int .i64 1] ⟨1, [(0, uQ (.row ⟨false, false, 62, 3, 2, nds pairN⟩))]⟩
   (fun s H1=>s= .tup [.agg [.slc true 2 0 0 2,.int .i64 1,.slc true 3 0 0 2,.slc true 5 0 0 2],.int .i64 0]∧H1=⟨6,[(2,uQ (.row ⟨true,false,62,3,2,nds pairN⟩)),(3,uQ (.row ⟨true,false,89,5,2,lyR 4 (san0).ly⟩)),(4,(3*2+1,fam true 3 1 (lyF true (san0).ly))),(5,uQ (.row ⟨true,false,58,3,2,cbs (san0).cb⟩))]⟩):=by
 have h:=New_nil pairN 2 2 1 rfl san_mk.ck (by decide) (by decide) (by decide) (by decide) (by decide);rw[show(z3e pairN [] 2 1).ly.length=2 from san0_sh.2.2.1] at h;exact h
theorem start_san {fo gn:Fo}{p k v:Int}(hf:fo.ns=pairN∧fo.ht=1∧fo.ly.length=2∧fo.cb.length=2)(hI:∃ls,FI fo ls)(hg:z13 fo p k v=gn)(hs:gn.ns=pairN∧gn.ht=1∧gn.ly.length=2∧gn.cb.length=2)(he:z21 fo p k v=0):
  zf Tryz.prog 25 [.agg [.slc false 0 0 0 2,.int .i64 1,.slc false 1 0 0 2,.slc false 3 0 0 2],.int .i64 p,.int .i64 k,.int .i64 v] ⟨4,[(0,uQ (.row ⟨false,false,62,3,2,nds pairN⟩)),(1,uQ (.row ⟨false,false,89,5,2,lyR 2 (fo).ly⟩)),(2,(3*2+1,fam false 3 1 (lyF false (fo).ly))),(3,uQ (.row ⟨false,false,58,3,2,cbs (fo).cb⟩))]⟩
   (fun s H1=>s= .tup [.agg [.slc true 4 0 0 2,.int .i64 1,.slc true 5 0 0 2,.slc true 7 0 0 2],.int .i64 0]∧H1=⟨8,[(4,uQ (.row ⟨true,false,62,3,2,nds pairN⟩)),(5,uQ (.row ⟨true,false,89,5,2,lyR 6 (gn).ly⟩)),(6,(3*2+1,fam true 3 1 (lyF true (gn).ly))),(7,uQ (.row ⟨true,false,58,3,2,cbs (gn).cb⟩))]⟩):=by
 obtain⟨ls,h⟩:=hI;have g:=z4h fo ls h 2 2 2 p k v (by rw[hf.1];rfl) hf.2.2.1 hf.2.2.2;rw[hg,he,hf.1,hf.2.1,hs.1,hs.2.1,hs.2.2.1,hs.2.2.2] at g;exact g
theorem step_san (i:Nat):
  zf Tryz.prog 27 [.agg [.slc false 0 0 0 2,.int .i64 1,.slc false 1 0 0 2,.slc false 3 0 0 2],.int .i64 ((i%2:Nat):Int)] ⟨4,[(0,uQ (.row ⟨false,false,62,3,2,nds pairN⟩)),(1,uQ (.row ⟨false,false,89,5,2,lyR 2 (sanF i).ly⟩)),(2,(3*2+1,fam false 3 1 (lyF false (sanF i).ly))),(3,uQ (.row ⟨false,false,58,3,2,cbs (sanF i).cb⟩))]⟩
   (fun s H1=>s= .tup [.agg [.slc true 4 0 0 2,.int .i64 1,.slc true 5 0 0 2,.slc true 7 0 0 2],.bool (stepFB (sanF i) ((i%2:Nat):Int))]∧H1=⟨8,[(4,uQ (.row ⟨true,false,62,3,2,nds pairN⟩)),(5,uQ (.row ⟨true,false,89,5,2,lyR 6 (sanF (i+1)).ly⟩)),(6,(3*2+1,fam true 3 1 (lyF true (sanF (i+1)).ly))),(7,uQ (.row ⟨true,false,58,3,2,cbs (sanF (i+1)).cb⟩))]⟩):=by
 obtain⟨ls,h⟩:=san_FI i;have hf:=san_shape i;have g:=Step_spec (sanF i) ls h 2 2 2 ((i%2:Nat):Int) (by rw[hf.1];rfl) hf.2.2.1 hf.2.2.2;rw[hf.1,hf.2.1] at g;exact g
theorem links_san : zf Tryz.prog 40 [.agg [.slc false 0 0 0 2, .int .i64 1, .slc false 1 0 0 2, .slc false 3 0 0 2]] ⟨4, [(0, uQ (.row ⟨false, false, 62, 3, 2, nds pairN⟩)), (1, uQ (.row ⟨false, false, 89, 5, 2, lyR 2 (sanF 100).ly⟩)), (2, (3 * 2 + 1, fam false 3 1 (lyF false (sanF 100).ly))), (3, uQ (.row ⟨false, false, 58, 3, 2, cbs (sanF 100).cb⟩))]⟩
   (fun s H1=>s= .slc true 4 0 0 2∧H1=⟨6,[(4,uQ (.row ⟨true,false,96,2,2,lkR true 5 (linksF (sanF 100))⟩)),(5,(2+1,fam true 98 2 (lkF true (linksF (sanF 100)))))]⟩):=by
 obtain⟨ls,h⟩:=san_FI 100;have hf:=san_shape 100;have g:=Links_spec (sanF 100) ls h 2 2 2 (by rw[hf.1];rfl) hf.2.2.1 hf.2.2.2;rw[hf.1,hf.2.1,san_100.2.2.1] at g;exact g
theorem present_san : zf Tryz.prog 33 [.agg [.slc false 0 0 0 2, .int .i64 1, .slc false 1 0 0 2, .slc false 3 0 0 2], .int .i64 1] ⟨4, [(0, uQ (.row ⟨false, false, 62, 3, 2, nds pairN⟩)), (1, uQ (.row ⟨false, false, 89, 5, 2, lyR 2 (sanF 100).ly⟩)), (2, (3 * 2 + 1, fam false 3 1 (lyF false (sanF 100).ly))), (3, uQ (.row ⟨false, false, 58, 3, 2, cbs (sanF 100).cb⟩))]⟩
   (fun s H1=>s= .slc true 4 0 0 2∧H1=⟨5,[(4,uQ (.row ⟨true,false,3,1,2,ints (z2b (sanF 100) 1)⟩))]⟩):=by
 obtain⟨ls,h⟩:=san_FI 100;have hf:=san_shape 100;have g:=Present_spec (sanF 100) ls h 2 2 2 1 (by rw[hf.1];rfl) hf.2.2.1 hf.2.2.2;rw[hf.1,hf.2.1,san_100.2.1] at g;exact g
theorem check_san:zf Tryz.prog 32 [.agg [.slc false 0 0 0 2,.int .i64 1,.slc false 1 0 0 2,.slc false 3 0 0 2]] ⟨4,[(0,uQ (.row ⟨false,false,62,3,2,nds pairN⟩)),(1,uQ (.row ⟨false,false,89,5,2,lyR 2 (sanF 100).ly⟩)),(2,(3*2+1,fam false 3 1 (lyF false (sanF 100).ly))),(3,uQ (.row ⟨false,false,58,3,2,cbs (sanF 100).cb⟩))]⟩ (fun s H1=>s= .bool true∧H1=⟨4,[]⟩):=by
 obtain⟨ls,h⟩:=san_FI 100;have hf:=san_shape 100;have g:=Check_spec (sanF 100) ls h 2 2 2 (by rw[hf.1];rfl) hf.2.2.1 hf.2.2.2;rw[hf.1,hf.2.1] at g;exact g
theorem san_bound:boundF (sanF 100)=0:=by rw[boundF,san_100.1];simp
theorem bound_san:zf Tryz.prog 35 [.agg [.slc false 0 0 0 2,.int .i64 1,.slc false 1 0 0 2,.slc false 3 0 0 2]] ⟨4,[(0,uQ (.row ⟨false,false,62,3,2,nds pairN⟩)),(1,uQ (.row ⟨false,false,89,5,2,lyR 2 (sanF 100).ly⟩)),(2,(3*2+1,fam false 3 1 (lyF false (sanF 100).ly))),(3,uQ (.row ⟨false,false,58,3,2,cbs (sanF 100).cb⟩))]⟩ (fun s H1=>s= .int .i64 0∧H1=⟨4,[]⟩):=by
 obtain⟨ls,h⟩:=san_FI 100;have hf:=san_shape 100;have g:=Bound_spec (sanF 100) ls h 2 2 2 (by rw[hf.1];rfl) hf.2.2.1 hf.2.2.2;rw[hf.1,hf.2.1,san_bound] at g;exact g
end Go.Proofs

namespace Go.Proofs
open Go.Sk
theorem san_s0:z13 san1 1 1 2=sanF 0:=rfl
attribute [local irreducible] sanF
open JoFm (gxE axE exE)
open JnNm (oxE)
open D0 (sdE)
theorem sane13_spec:zf Tryz.prog 19 [] ⟨0,[]⟩ (fun s H1=>s= .bool true∧H1=⟨0,[]⟩):=by
 refine zf.ofC false 83 [.tmp 0] Tryz.func19 rfl rfl Tryz.ntmps19 Tryz.results19 rfl ?_;intro w0 own0 β0 Q hQ hQn;simp only[z16];refine Zrs [] ?_;refine sg [1,2] rfl ?_;intro K hK;refine Zo Zl ?_;refine Zc1 (pair_spec) (id) ?_;refine Zo Zl ?_;refine Zc1 (New_san) (id) ?_;iterate 6 (refine Zo Zl ?_)
 refine z8 (Zpr (hK _ _ ?_));clear hK K;refine z6 ?_;refine Zrs [1,17] ?_;refine z7 _ rfl ?_ ?_
 ·intro h17
  exfalso;simp at h17
 ·intro h17
  refine za ?_;refine sg [1,2] rfl ?_;intro K hK;refine Zo Zl ?_;refine Zo Zl ?_;refine Zc1 (start_san (gn:=san1) san0_sh san0_FI rfl san1_sh san_e0) (fun q=>q+2) ?_;iterate 5 (refine Zo Zl ?_)
  refine z8 (Zpr (hK _ _ ?_));clear hK K;refine z6 ?_;refine Zrs [1,24] ?_;refine z7 _ rfl ?_ ?_
  ·intro h24
   exfalso;simp at h24
  ·intro h24
   refine za ?_;refine sg [1,2] rfl ?_;intro K hK;refine Zo Zl ?_;refine Zo Zl ?_;refine Zc1 (start_san (gn:=sanF 0) san1_sh san1_FI san_s0 (san_shape 0) san_e1) (fun q=>q+7) ?_;iterate 5 (refine Zo Zl ?_)
   refine z8 (Zpr (hK _ _ ?_));clear hK K;refine z6 ?_;refine Zrs [1,2,3] ?_;refine zc fun Q0 hN0 hX0 hR0 hE0=> ?_;refine zr (σ:=Nat) (fun i=>i≤100) (fun i=>100-i) (fun i=>[(1,.ptr 6 0 0 0),(2,.int .i64 0),(3,.int .i64 i)]) (fun i=>⟨11,[(6,uQ (.row ⟨true,true,34,4,1,fun _=>[.slc true 7 0 0 2,.int .i64 1,.slc true 8 0 0 2,.slc true 10 0 0 2]⟩)),(7,uQ (.row ⟨true,false,62,3,2,nds pairN⟩)),(8,uQ (.row ⟨true,false,89,5,2,lyR 9 (sanF i).ly⟩)),(9,(3*2+1,fam true 3 1 (lyF true (sanF i).ly))),(10,uQ (.row ⟨true,false,58,3,2,cbs (sanF i).cb⟩))]⟩) 0 (Nat.zero_le _) (ρ:=fun q=>if q=6 then 6 else q+4) (Zg (fun q=>if q=6 then 6 else q+4)) ?_;rintro i hi QL1 hL1 hRL1 hEL1;refine z6 ?_;refine Zrs [1,2,3,35] ?_;refine z7 _ rfl ?_ ?_
   ·intro h35;replace h35:=Znb h35;refine za (z6 (zc fun Q1 hN1 hX1 hR1 hE1=> ?_));refine z43 [1,2,3] rfl ?_;intro K hK;iterate 3 (refine Zo Zl ?_)
    refine Zo Zl ?_;rw[show Int.tmod (i:Int) 2=((i%2:Nat):Int) from by rw[Int.tmod_eq_emod_of_nonneg (by omega)];omega];refine Zc1 (step_san i) (fun q=>q+7) ?_;iterate 4 (refine Zo Zl ?_)
    refine z8 (Zpr (hK _ _ ?_));clear hK K;refine ze (hN1 _ _ ?_);refine Zrg [1,2,3] ?_;refine ze (hL1 _ _ ?_);rw[show(i:Int)+1=((i+1:Nat):Int) from by omega];exact⟨i+1,⟨by omega,by omega⟩,fun q=>if q=6 then 6 else q+4,(Zg (fun q=>if q=6 then 6 else q+4))⟩
   ·intro h35;replace h35:=Znb h35;have hie:i=100:=by omega
    subst hie;refine zo (hEL1 _ _ _ (hX0 _ _ ?_));refine sg [1,4] rfl ?_;intro K hK;refine Zo Zl ?_;refine Zo Zl ?_;refine Zc1 (links_san) (fun q=>q+7) ?_;have hl0:=san_100.2.2.2.1;have hl1:=san_100.2.2.2.2;refine Zo Zl ?_;refine z8 (Zpr (hK _ _ ?_));clear hK K;refine sg [0] rfl ?_;intro K hK;refine Zo Zl ?_;refine Zo Zl ?_;refine Zc1 (present_san) (fun q=>q+7) ?_;iterate 25 (refine Zo Zl ?_)
    first
    |rw[show((((2:Nat):Int)==2) && (((2:Nat):Int)==2) && ((((lk (linksF (sanF 100)) 0).lv.length:Nat):Int)==2) && ((pI (lk (linksF (sanF 100)) 0).lv 1).2==2))=true from by rw[hl0,hl1];rfl]
    |rw[show((((2:Nat):Int)==2) && ((((lk (linksF (sanF 100)) 0).lv.length:Nat):Int)==2) && ((pI (lk (linksF (sanF 100)) 0).lv 1).2==2))=true from by rw[hl0,hl1];rfl]
    repeat(with_reducible apply And.intro;exact sdE)
    iterate 2 (refine Zo Zl ?_)
    refine z1k ?_;refine z1z rfl rfl ?_;refine Zgr ?_;refine⟨fun _=> ?_,fun h=>(by cases h)⟩;refine Zo id ?_;refine Zc1 (check_san) (fun q=>q+7) ?_;iterate 3 (refine Zo Zl ?_)
    refine z1k ?_;refine z1z rfl rfl ?_;refine Zgr ?_;refine⟨fun _=> ?_,fun h=>(by cases h)⟩;refine Zo id ?_;refine Zc1 (bound_san) (fun q=>q+7) ?_;iterate 3 (refine Zo Zl ?_)
    refine z8 (Zpr (hK _ _ ?_));clear hK K;refine zd (hQ _ _ ?_);refine zb (H':=⟨0,[]⟩) (.inl rfl) ?_;refine Zou ?_;refine⟨Zs,(Zg id),Zs,?_⟩
    first|trivial|exact⟨rfl,trivial⟩
end Go.Proofs
