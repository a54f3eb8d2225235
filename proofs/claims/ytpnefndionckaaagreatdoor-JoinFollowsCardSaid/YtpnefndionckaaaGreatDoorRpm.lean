/-
  Walks and plain facts, joined: part 13 of 18.
  Conditions: those that each statement names.
-/
import Derived.Test.YtpnefndionckaaaGreatDoorRpl
import Derived.Test.YtpnefndionckaaaGreatDoorRpc
import Derived.Test.YtpnefndionckaaaGreatDoorRph
import Derived.Test.YtpnefndionckaaaGreatDoorRpk
set_option linter.unusedSimpArgs false
set_option linter.unusedVariables false
set_option linter.defProp false
set_option maxRecDepth 4000
set_option maxHeartbeats 8000000
namespace Go.Proofs
open Tryz
open Go.Sk
def mems_nodup (inn:List Bool):∀i,(mems inn i).Nodup
 |0=>JL
 |i+1=>by
  rw[mems]
  split
  ·refine jM.2 ⟨mems_nodup inn i,by simp,fun a ha b hb e=> ?_⟩;obtain⟨j,hj,_,h⟩:=z5e.1 ha;rw[qU] at hb;omega
  exact mems_nodup inn i
def dst_cellK {keys:List ByteArray}{inn:List Bool}(hd:keys.Nodup):Dst (z3m keys inn keys.length):=fun i j h1 h2 h3 h4 h5=>by
 rw[z36] at h2 h4;rw[cellK_at keys inn keys.length (by omega),cellK_at keys inn keys.length (by omega),qc (by omega),qc (by omega)] at h5;have:=kAt_inj2 hd (i:=i-2) (j:=j-2) (by omega) (by omega) h5;omega
def LlYm.exE:=aj9 @zd @zf @zo @zh ec1 ec2 @zg @zp (aj9 @zq ec9 ec3 ec4 ec10 @z1a.eq_1 @zu.eq_1 @ex_map (aj8 @lsCap.eq_1 ec39 @Tryz.tyMapS @Tryz.zB ec40 ec41 @z2d @z18))
def LlYm.gxE:=aj9 ec3 ec4 ec7 ec10 @renL_ite ec11 @z1a.eq_1 @zu.eq_1 (aj6 @lsCap.eq_1 ec42 @lt_blk ec40 @z20 @ints_lt'K)
def LlYm.axE:=aj9 @zd @zf @zo @zh ec1 ec2 @zg @zp (aj9 @zq ec9 ec3 ec4 ec10 @z1a.eq_1 @zu.eq_1 @ex_map (aj9 @lsCap.eq_1 ec39 @Tryz.tyMapS @Tryz.zB ec40 ec41 @z2d @z18 (aj6 @z2j @pAt_ren @renL_ite ec43 @z1p @z2r)))
open LlYm (gxE axE exE)
open LlBm (oxE)
open D0 (sdE)
def newP_spec (keys:List ByteArray)(inn:List Bool)(n m:Nat)(hn:keys.length=n)(hi:inn.length=n)(hn12:n<=64)(hm1:1<=m)(hm8:m<=8)(hk:∀i,i<n->okKey (kAt keys i)=true)(hd:keys.Nodup):
  zj prog 49 [.slc false 0 0 0 n,.slc false 1 0 0 n,.int .i64 m] ⟨2,[(0,inStr keys),(1,inBo inn)]⟩
   (fun s H1=>s= .tup [lsS (newK keys inn n,List.replicate m noPr),.int .i64 0]/\H1=lsH (newK keys inn n,List.replicate m noPr)):=by
 subst hn;refine Zf false 108 [.cell 6 85,.tmp 7] func49 ntmps49 results49 fun w0 own0 β0 Q hQ hQn=> ?_;refine Zrs [0,1,2,6] (z6 ?_);refine z8 fun Q0 hN0 hX0 hR0 hE0=> ?_;refine Zrs [0,1,2,6,16] ?_;refine Zcm ?_ ?_
 ·intro h16
  exfalso;replace h16:=Znb h16;omega
 intro h16;refine Zrs [0,1,2,6,21] ?_;refine Zcm ?_ ?_
 ·intro h21
  exfalso;replace h21:=Znb h21;omega
 intro h21;refine Zrs [0,1,2,6,29] ?_;refine Zcm ?_ ?_
 ·intro h29
  exfalso;simp at h29
 intro h29;refine z7 (za (hN0 _ _ (z6 ?_)));refine Zrt [0,1,6,8] (.op 1 (.three 0 2 4 (.two 2 4 (.op 3 (.op 4 (.op 5 .done))) (.op 2 (.op 3 (.op 5 .done)))) (.two 0 4 (.op 3 (.op 4 (.op 5 .done))) (.op 0 (.op 3 (.op 5 .done)))) (.two 0 2 (.op 2 (.op 3 (.op 5 .done))) (.op 0 (.op 3 (.op 5 .done)))))) [] [] ?_;intro K hK hG
 have hk7:K [(0,.slc false 0 0 0 keys.length),(1,.slc false 1 0 0 keys.length),(6,.ptr 2 0 0 0),(8,.ptr 5 0 0 0)] ⟨6,[(5,rV 85 2 1 (fun _=>[.slc true 3 0 0 2,.slc true 4 0 0 m])),(4,rO 110 7 m (fun _=>[SV.int .i64 0,SV.int .i64 0,SV.int .i64 0,SV.int .i64 0,SV.int .i64 0,SV.int .i64 0,SV.bool false])),(3,rO 117 5 2 (fun _=>[SV.str ⟨#[]⟩,SV.int .i64 0,SV.int .i64 0,SV.int .i64 0,SV.bool false])),(2,rV 85 2 1 (fun _=>[.nils,.nils])),(0,inStr keys),(1,inBo inn)]⟩:=by
  refine hK _ _ ?_;clear hG hK K;refine z6 ?_;rw[cls_zero,prs_zero m,show([noCl,noCl]:List Cl)=z3m keys inn 0 from rfl];refine Zrg [0,1,6,8,9] ?_;refine Zrs [0,1,6,8,9,10] (z6 ?_);refine Zrs [0,1,6,8,9,10,41,42,43] (z2f 9 3 1 (ints []) rfl ?_);dsimp only;refine z8 fun Q1 hN1 hX1 hR1 hE1=> ?_;refine zl (σ:=Nat) (fun i=>i<=keys.length) (fun i=>keys.length-i) (fun i=>[(0,.slc false 0 0 0 keys.length),(1,.slc false 1 0 0 keys.length),(6,.ptr 2 0 0 0),(8,.ptr 5 0 0 0),(9,.slc true 7 0 0 (mems inn i).length),(10,.mp 6 0),(41,.slc false 0 0 0 keys.length),(42,.int .i64 keys.length),(43,.int .i64 i)]) (fun i=>⟨8,[(7,zu (mems inn i)),(6,uQ (.blk true (.strs (keys.take i)))),(5,lsOwn 3 (z3m keys inn i).length 4 m),(4,rO 110 7 m (prs (List.replicate m noPr))),(3,z2c (z3m keys inn i)),(2,rV 85 2 1 (fun _=>[.nils,.nils])),(0,inStr keys),(1,inBo inn)]⟩) 0 (ql _) (ρ:=id) (have xE:=aj @mems.eq_1 (aj @mems.eq_2 @z36);Zgx id) ?_;rintro i hle QL1 hL1 hRL1 hEL1;refine Zrs [0,1,6,8,9,10,41,42,43,44] (z6 ?_);refine Zcn ?_ ?_
  ·intro h44;have hli:i<keys.length:=by omega
   have hml:=mems_length inn i;have hcl:=z36 keys inn i;refine z7 (z6 ?_);refine z8 fun Q2 hN2 hX2 hR2 hE2=> ?_;refine Zrs [0,1,6,8,9,10,11,12,41,42,43] (z6 ?_);refine sg [0,1,6,8,9,10,11,12,41,42,43,50] rfl ?_;intro K hK;refine Zo Zl ?_;refine Zd Zl (validKey_spec (kAt keys i)) (id) ?_;refine Zkl hK ?_;clear hK K;refine Zcm ?_ ?_
   ·intro h50
    exfalso;rw[hk i hli] at h50;cases h50
   intro h50;refine z7 (sg [0,1,6,8,9,10,11,12,41,42,43] rfl ?_);intro K hK;iterate 3 (refine Zo Zl ?_)
   simp only[any_take hd hli,qz,Ql];rw[<-take_kAt hli];refine Zad ?_;refine Zk hK ?_;clear hK K;refine z6 ?_;refine Zrd [0,1,6,8,9,10,11,41,42,43] [0,1,2,3,4,5,6,7,8,9,10,11,12] (ws 0 [(10,[3]),(12,[5])]) (ws 0 [(10,[3]),(11,[3]),(12,[3,5])]) ?_;intro K hK;iterate 10 (refine Zo (Zi [] []) ?_)
   refine Zo (Zi [3] [3]) ?_;refine Zo (Zi [] [3]) ?_;refine Zo (Zi [5] [3,5]) ?_;refine zz (Zpr (hK _ _ ?_));clear hK K;refine Zrs [0,1,6,8,9,10,11,41,42,43,69] ?_;refine Zcm ?_ ?_
   ·intro h69;refine Zrg [0,1,6,8,9,10,41,42,43] (za (hN2 _ _ ?_));refine Zrg [0,1,6,8,9,10,41,42,43] (za (hL1 _ _ ?_));have hm2:mems inn (i+1)=mems inn i++[(i:Int)+2]:=by rw[mems,qe h69]
    have hc2:z3m keys inn (i+1)=z3m keys inn i++[⟨kAt keys i,0,0,0,!bAt inn i⟩]:=cellK_succ ..;rw[iS i];refine⟨i+1,⟨by omega,by omega⟩,fun q=>if q=3 then 9 else if q=7 then 11 else q,?_⟩;simp only[hm2,hc2,qX,Qn];exact(Zg (fun q=>if q=3 then 9 else if q=7 then 11 else q))
   intro h69;refine z7 (za (hN2 _ _ (Zrg [0,1,6,8,9,10,41,42,43] (za (hL1 _ _ ?_)))));have hm2:mems inn (i+1)=mems inn i:=by rw[mems,qc (by rw[h69];exact qh)]
   have hc2:z3m keys inn (i+1)=z3m keys inn i++[⟨kAt keys i,0,0,0,!bAt inn i⟩]:=cellK_succ ..;rw[iS i];refine⟨i+1,⟨by omega,by omega⟩,fun q=>if q=3 then 9 else q,?_⟩;simp only[hm2,hc2,qX,Qn];exact(Zg (fun q=>if q=3 then 9 else q))
  intro h44;have hni:i=keys.length:=by omega
  subst hni;have hml:=mems_length inn keys.length;have hcl:=z36 keys inn keys.length;have hsl:=srtI_length (z1m (z3m keys inn keys.length)) (mems inn keys.length);have hO:=ordN_of keys inn keys.length;have hOl:(srtI (z1m (z3m keys inn keys.length)) (mems inn keys.length)).length+1=(ordN keys inn keys.length).length:=by rw[<-hO];simp
  refine zk (hEL1 _ _ _ (hX1 _ _ (z6 (Zrs [6,8,9,80] ?_))));refine Zcm ?_ ?_
  ·intro h80
   exfalso;simp at h80
  intro h80;refine z7 (sg [6,8,9] rfl ?_);intro K hK;iterate 3 (refine Zo Zl ?_)
  have h:=sort_specK 90 cmpOkN entN (z3m keys inn keys.length) (z3m keys inn keys.length).length m rfl (by omega) (mems inn keys.length) _ rfl (by omega) (by rw[hcl];exact memOk_mems _ _) (mems_nodup _ _) (dst_cellK hd);unfold cmpSv at h;refine Zc1 (h) (fun q=>if q=0 then 7 else if q=1 then 5 else if q=2 then 3 else 4) ?_;rw[<-hsl];refine Zk hK ?_;clear hK K;refine Zrs [6,8,9,13] (z6 ?_);refine sg [6,8,13,87,88,89] rfl ?_;intro K hK;iterate 3 (refine Zo Zl ?_)
  rw[hO,hOl];refine Zad ?_;refine Zkl hK ?_;clear hK K;refine z8 fun Q3 hN3 hX3 hR3 hE3=> ?_;refine zl (σ:=Nat×Int×List Cl) (fun σ=>(σ.1<=(ordN keys inn keys.length).length/\σ.2.2.length=(z3m keys inn keys.length).length)/\(0<=σ.2.1/\σ.2.1<(z3m keys inn keys.length).length)/\lnk2 σ.2.2 σ.2.1 ((ordN keys inn keys.length).drop σ.1)=newK keys inn keys.length) (fun σ=>(ordN keys inn keys.length).length-σ.1) (fun σ=>[(6,.ptr 2 0 0 0),(8,.ptr 5 0 0 0),(13,.int .i64 σ.2.1),(87,.slc true 9 0 0 (ordN keys inn keys.length).length),(88,.int .i64 (ordN keys inn keys.length).length),(89,.int .i64 σ.1)]) (fun σ=>⟨10,[(9,zu (ordN keys inn keys.length)),(5,lsOwn 3 (z3m keys inn keys.length).length 4 m),(4,rO 110 7 m (prs (List.replicate m noPr))),(3,rO 117 5 ((z3m keys inn keys.length).length) (z1x σ.2.2)),(2,rV 85 2 1 (fun _=>[.nils,.nils]))]⟩) (0,0,z3m keys inn keys.length) ⟨⟨ql _,rfl⟩,⟨Jz _,by dsimp only;omega⟩,rfl⟩ (ρ:=id) (Zg id) ?_;rintro⟨j,last,cs⟩ hj QL2 hL2 hRL2 hEL2;refine Zrs [6,8,13,87,88,89,90] (z6 ?_);refine Zcn ?_ ?_
  ·intro h90;obtain⟨⟨hj1,hj2⟩,⟨hj3,hj4⟩,hj5⟩:=hj;dsimp only at hj1 hj2 hj3 hj4 hj5;have hjl:j<(ordN keys inn keys.length).length:=by omega
   have hom:=ordN_mem (qK hjl);rw[<-z30 hjl] at hom;refine z7 (z6 ?_);refine z8 fun Q4 hN4 hX4 hR4 hE4=> ?_;refine Zrs [6,8,13,15,87,88,89] (z6 ?_);refine Zrd [6,8,15,87,88,89] [0,1,2,3,4,5,6,7,8,9,10,11,12,13] (ws 0 [(10,[3]),(13,[3])]) (ws 0 [(3,[3]),(4,[3]),(5,[3]),(7,[3]),(10,[3]),(11,[3]),(12,[3]),(13,[3])]) ?_;intro K hK;iterate 3 (refine Zo (Zi [] []) ?_)
   iterate 3 (refine Zo (Zi [] [3]) ?_)
   refine Zo (Zi [] []) ?_;refine Zo (Zi [] [3]) ?_;iterate 2 (refine Zo (Zi [] []) ?_)
   refine Zo (Zi [3] [3]) ?_;rw[put_R cs last (nth (ordN keys inn keys.length) j) (by omega)];refine Zad ?_;iterate 2 (refine Zo (Zi [] [3]) ?_)
   refine Zo (Zi [3] [3]) ?_;rw[put_F (z2s cs last (nth (ordN keys inn keys.length) j)) (nth (ordN keys inn keys.length) j) last (by rw[z31];omega)];refine Zad ?_;refine zz (Zpr (hK _ _ ?_));clear hK K;refine Zrg [6,8,13,87,88,89] (za (hN4 _ _ ?_));refine Zrg [6,8,13,87,88,89] (za (hL2 _ _ ?_));rw[iS j];refine⟨(j+1,nth (ordN keys inn keys.length) j,z4b (z2s cs last (nth (ordN keys inn keys.length) j)) (nth (ordN keys inn keys.length) j) last),⟨⟨⟨by dsimp only;omega,by dsimp only;rw[z52,z31];exact hj2⟩,⟨by dsimp only;omega,by dsimp only;omega⟩,?_⟩,by dsimp only;omega⟩,id,(Zg id)⟩;dsimp only;rw[<-hj5,jt hjl,lnk2,z30 hjl]
  intro h90;obtain⟨⟨hj1,hj2⟩,⟨hj3,hj4⟩,hj5⟩:=hj;dsimp only at hj1 hj2 hj3 hj4 hj5;rw[jZ (by omega)] at hj5;have hj6:cs=newK keys inn keys.length:=hj5;refine zk (hEL2 _ _ _ (hX3 _ _ (Zrs [6,7] (zb (hQ _ _ ?_)))));unfold lsH lsS;dsimp only;rw[<-hj6,hj2,Qy];refine Zor (fun q=>if q=2 then 3 else if q=3 then 4 else q) (.tup [.agg [.slc true 2 0 0 (z3m keys inn keys.length).length,.slc true 3 0 0 m],.int .i64 0]) (⟨4,[(3,rO 110 7 m (prs (List.replicate m noPr))),(2,rO 117 5 ((z3m keys inn keys.length).length) (z1x cs))]⟩) ?_
  all_goals first|trivial|(simp only[z2p,z2c,hj2,Qy];done)|(exact⟨rfl,by simp only[z2p,z2c,hj2,Qy]⟩)
 refine Zo (ZT [] [] []) ?_;refine runT_three ?_ ?_ ?_
 ·skip
  refine Zo (ZT [] [] []) ?_;refine z2e ?_ ?_
  ·skip
   refine Zo (ZT [] [] []) ?_;refine Zo (ZT [] [] []) ?_;refine Zo (ZT [] [] [5]) ?_;refine Zo (ZT [5] [] [5]) ?_;refine z14 ?_;refine Zpr ?_;exact hG _ _ _ _ id (Zg id) hk7
  skip
  refine Zo (ZT [] [] [4]) ?_;iterate 3 (refine Zo (ZT [4] [] [4]) ?_)
  refine z14 ?_;refine Zpr ?_;exact hG _ _ _ _ (fun k=>if k=4 then 5 else if k=5 then 4 else k) (Zg (fun k=>if k=4 then 5 else if k=5 then 4 else k)) hk7
 ·skip
  refine Zo (ZT [] [] []) ?_;refine z2e ?_ ?_
  ·skip
   refine Zo (ZT [] [] []) ?_;refine Zo (ZT [] [] []) ?_;refine Zo (ZT [] [] [5]) ?_;refine Zo (ZT [5] [] [5]) ?_;refine z14 ?_;refine Zpr ?_;exact hG _ _ _ _ (fun k=>if k=3 then 4 else if k=4 then 3 else k) (Zg (fun k=>if k=3 then 4 else if k=4 then 3 else k)) hk7
  skip
  refine Zo (ZT [] [] [4]) ?_;iterate 3 (refine Zo (ZT [4] [] [4]) ?_)
  refine z14 ?_;refine Zpr ?_;exact hG _ _ _ _ (fun k=>if k=3 then 5 else if k=4 then 3 else if k=5 then 4 else k) (Zg (fun k=>if k=3 then 5 else if k=4 then 3 else if k=5 then 4 else k)) hk7
 skip
 refine Zo (ZT [] [] [3]) ?_;refine z2e ?_ ?_
 ·skip
  iterate 4 (refine Zo (ZT [3] [] [3]) ?_)
  refine z14 ?_;refine Zpr ?_;exact hG _ _ _ _ (fun k=>if k=3 then 4 else if k=4 then 5 else if k=5 then 3 else k) (Zg (fun k=>if k=3 then 4 else if k=4 then 5 else if k=5 then 3 else k)) hk7
 skip
 iterate 4 (refine Zo (ZT [3] [] [3]) ?_)
 refine z14 ?_;refine Zpr ?_;exact hG _ _ _ _ (fun k=>if k=3 then 5 else if k=5 then 3 else k) (Zg (fun k=>if k=3 then 5 else if k=5 then 3 else k)) hk7
end Go.Proofs
namespace Go.Sk
open Go.RowKit Go.Proofs
def Zw {a:Prop}(h:a:=by simp[frGivesP,Sk.get,SV.renP,SV.renPL,anP,mgM,SV.lt,SV.ltL,ownU,uQ,rO,rI,rV,keepB,Sk.find,Obj.own.eq_1,Obj.own.eq_2,Obj.own.eq_3,Obj.own.eq_4,gxE]):a:=h
def Zga {X:Cx}{fr:Fr}{H:AH}{fr1:Fr}{H1:AH}(ρ:Nat->Nat)(f:Nat)(μ:Nat->Nat×Nat)(a2:HGivesJ (anP ρ f μ) H1.nxt H.os H1.os)(hμ:MuOk X ρ f μ)(t:MuL ρ f μ H1.os)(q:GpQ X (anP ρ f μ) fr H fr1 H1:=by constructor<;>exact Zw)(r:GpR X ρ f H1:=by exact⟨rfl,rfl,qb rfl,qb rfl,rfl⟩):z5n X (anP ρ f μ) fr H fr1 H1:=goS ρ f μ a2 hμ t q r
end Go.Sk
