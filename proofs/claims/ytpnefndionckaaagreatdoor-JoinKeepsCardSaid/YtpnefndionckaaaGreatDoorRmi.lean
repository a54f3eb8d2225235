/-
  Walks and plain facts, joined: part 9 of 11.
  Conditions: those that each statement names.
-/
import Derived.Test.YtpnefndionckaaaGreatDoorRmh
import Derived.Test.YtpnefndionckaaaGreatDoorRmc
import Derived.Test.YtpnefndionckaaaGreatDoorRmf
import Derived.Test.YtpnefndionckaaaGreatDoorRmb
import Derived.Test.YtpnefndionckaaaGreatDoorRmg
import Derived.Test.YtpnefndionckaaaGreatDoorRme
set_option linter.unusedSimpArgs false
set_option linter.unusedVariables false
set_option linter.defProp false
set_option maxRecDepth 4000
set_option maxHeartbeats 8000000
namespace Go.Proofs
open Tryz
open Go.Sk
section
theorem mems_nodup (inn:List Bool):∀i,(mems inn i).Nodup
 |0=>JD
 |i+1=>by
  rw[mems]
  split
  ·refine jY.2 ⟨mems_nodup inn i,by simp,fun a ha b hb e=> ?_⟩;obtain⟨j,hj,_,h⟩:=z5k.1 ha;rw[qY] at hb;omega
  ·exact mems_nodup inn i
theorem dst_cellK {keys:List ByteArray}{inn:List Bool}(hd:keys.Nodup):Dst (z44 keys inn keys.length):=fun i j h1 h2 h3 h4 h5=>by
 rw[z3q] at h2 h4;rw[cellK_at keys inn keys.length (by omega),cellK_at keys inn keys.length (by omega),qb (by omega),qb (by omega)] at h5;have:=kAt_inj2 hd (i:=i-2) (j:=j-2) (by omega) (by omega) h5;omega
def LlYm.exE:=aj9 @zg @zh @zq @zk ec1 ec2 @zi @zy (aj9 @zz ec9 ec3 ec4 ec10 @z19.eq_1 @z12.eq_1 @ex_map (aj8 @lsCap.eq_1 ec39 @Tryz.tyMapS @Tryz.zB ec40 ec41 @z2m @z1f))
def LlYm.gxE:=aj9 ec3 ec4 ec7 ec10 @renL_ite ec11 @z19.eq_1 @z12.eq_1 (aj6 @lsCap.eq_1 ec42 @lt_blk ec40 @z1x @ints_lt'K)
def LlYm.axE:=aj9 @zg @zh @zq @zk ec1 ec2 @zi @zy (aj9 @zz ec9 ec3 ec4 ec10 @z19.eq_1 @z12.eq_1 @ex_map (aj9 @lsCap.eq_1 ec39 @Tryz.tyMapS @Tryz.zB ec40 ec41 @z2m @z1f (aj6 @z2t @pAt_ren @renL_ite ec43 @z1v @z34)))
open LlYm (gxE axE exE)
open LlBm (oxE)
open D0 (sdE)
theorem newP_spec (keys:List ByteArray)(inn:List Bool)(n m:Nat)(hn:keys.length=n)(hi:inn.length=n)(hn12:n<=64)(hm1:1<=m)(hm8:m<=8)(hk:∀i,i<n->okKey (kAt keys i)=true)(hd:keys.Nodup):
  zf prog 49 [.slc false 0 0 0 n,.slc false 1 0 0 n,.int .i64 m] ⟨2,[(0,inStr keys),(1,inBo inn)]⟩
   (fun s H1=>s= .tup [lsS (newK keys inn n,List.replicate m noPr),.int .i64 0]/\H1=lsH (newK keys inn n,List.replicate m noPr)):=by
 subst hn;refine zf.ofC false 108 [.cell 6 85,.tmp 7] func49 rfl rfl ntmps49 results49 rfl ?_;intro w0 own0 β0 Q hQ hQn;simp only[z1c];refine Zrs [0,1,2,6] ?_;refine z6 (zb fun Q0 hN0 hX0 hR0 hE0=> ?_);refine Zrs [0,1,2,6,16] ?_;refine z7 _ rfl ?_ ?_
 ·intro h16
  exfalso;simp only[qr,qh,qi,qx,qk,qq,qj,qg,qv,qC,qU,ne_eq,Qm,Ql,qK,qy] at h16;omega
 ·intro h16
  refine Zrs [0,1,2,6,21] ?_;refine z7 _ rfl ?_ ?_
  ·intro h21
   exfalso;simp only[qr,qh,qi,qx,qk,qq,qj,qg,qv,qC,qU,ne_eq,Qm,Ql,qK,qy] at h21;omega
  ·intro h21
   refine Zrs [0,1,2,6,29] ?_;refine z7 _ rfl ?_ ?_
   ·intro h29
    exfalso;simp at h29
   ·intro h29
    refine za (zd (hN0 _ _ (z6 ?_)));refine Zrt [0,1,6,8] (.op 1 (.three 0 2 4 (.two 2 4 (.op 3 (.op 4 (.op 5 .done))) (.op 2 (.op 3 (.op 5 .done)))) (.two 0 4 (.op 3 (.op 4 (.op 5 .done))) (.op 0 (.op 3 (.op 5 .done)))) (.two 0 2 (.op 2 (.op 3 (.op 5 .done))) (.op 0 (.op 3 (.op 5 .done)))))) [[],[],[],[],[],[]] [[],[],[],[],[],[]] ?_;intro K hK hG
    have hk7:K [(0,.slc false 0 0 0 keys.length),(1,.slc false 1 0 0 keys.length),(6,.ptr 2 0 0 0),(8,.ptr 5 0 0 0)] ⟨6,[(5,uQ (.row ⟨true,true,85,2,1,fun _=>[.slc true 3 0 0 2,.slc true 4 0 0 m]⟩)),(4,uQ (.row ⟨true,false,110,7,m,fun _=>[SV.int .i64 0,SV.int .i64 0,SV.int .i64 0,SV.int .i64 0,SV.int .i64 0,SV.int .i64 0,SV.bool false]⟩)),(3,uQ (.row ⟨true,false,117,5,2,fun _=>[SV.str ⟨#[]⟩,SV.int .i64 0,SV.int .i64 0,SV.int .i64 0,SV.bool false]⟩)),(2,uQ (.row ⟨true,true,85,2,1,fun _=>[.nils,.nils]⟩)),(0,inStr keys),(1,inBo inn)]⟩:=by
     refine hK _ _ ?_;clear hG hK K;refine z6 ?_;rw[cls_zero,prs_zero m,show([noCl,noCl]:List Cl)=z44 keys inn 0 from rfl];refine Zrg [0,1,6,8,9] ?_;refine Zrs [0,1,6,8,9,10] ?_;refine z6 ?_;refine Zrs [0,1,6,8,9,10,41,42,43] ?_;refine z29 9 3 1 (ints []) rfl ?_;dsimp only;refine zb fun Q1 hN1 hX1 hR1 hE1=> ?_;refine zn (σ:=Nat) (fun i=>i<=keys.length) (fun i=>keys.length-i) (fun i=>[(0,.slc false 0 0 0 keys.length),(1,.slc false 1 0 0 keys.length),(6,.ptr 2 0 0 0),(8,.ptr 5 0 0 0),(9,.slc true 7 0 0 (mems inn i).length),(10,.mp 6 0),(41,.slc false 0 0 0 keys.length),(42,.int .i64 keys.length),(43,.int .i64 i)]) (fun i=>⟨8,[(7,z12 (mems inn i)),(6,uQ (.blk true (.strs (keys.take i)))),(5,lsOwn 3 (z44 keys inn i).length 4 m),(4,uQ (.row ⟨true,false,110,7,m,prs (List.replicate m noPr)⟩)),(3,z3a (z44 keys inn i)),(2,uQ (.row ⟨true,true,85,2,1,fun _=>[.nils,.nils]⟩)),(0,inStr keys),(1,inBo inn)]⟩) 0 (qo _) (ρ:=id) (have xE:=aj @mems.eq_1 (aj @mems.eq_2 @z3q);Zgx id) ?_;rintro i hle QL1 hL1 hRL1 hEL1;refine Zrs [0,1,6,8,9,10,41,42,43,44] ?_;refine z6 ?_;refine z7 _ rfl ?_ ?_
     ·intro h44;replace h44:=Znb h44;have hli:i<keys.length:=by omega
      have hml:=mems_length inn i;have hcl:=z3q keys inn i;refine za (z6 (zb fun Q2 hN2 hX2 hR2 hE2=> ?_));refine Zrs [0,1,6,8,9,10,11,12,41,42,43] ?_;refine z6 ?_;refine sg [0,1,6,8,9,10,11,12,41,42,43,50] rfl ?_;intro K hK;refine Zo Zl ?_;refine Zo Zl ?_;refine Zc1 (validKey_spec (kAt keys i)) (id) ?_;refine Zo Zl ?_;refine z8 (Zpr (hK _ _ ?_));clear hK K;refine z7 _ rfl ?_ ?_
      ·intro h50
       exfalso;rw[hk i hli] at h50;cases h50
      ·intro h50
       refine za ?_;refine sg [0,1,6,8,9,10,11,12,41,42,43] rfl ?_;intro K hK;iterate 3 (refine Zo Zl ?_)
       simp only[any_take hd hli,qw,Qo];rw[<-take_kAt hli];repeat(with_reducible apply qe;exact sdE)
       refine z8 (Zpr (hK _ _ ?_));clear hK K;refine z6 ?_;refine Zrd [0,1,6,8,9,10,11,41,42,43] [0,1,2,3,4,5,6,7,8,9,10,11,12] [[],[],[],[],[],[],[],[],[],[],[3],[],[5]] [[],[],[],[],[],[],[],[],[],[],[3],[3],[3,5]] ?_;intro K hK;iterate 10 (refine Zo (Zi [] []) ?_)
       refine Zo (Zi [3] [3]) ?_;refine Zo (Zi [] [3]) ?_;refine Zo (Zi [5] [3,5]) ?_;refine zx (Zpr (hK _ _ ?_));clear hK K;refine Zrs [0,1,6,8,9,10,11,41,42,43,69] ?_;refine z7 _ rfl ?_ ?_
       ·intro h69
        refine Zrg [0,1,6,8,9,10,41,42,43] ?_;refine zd (hN2 _ _ ?_);refine Zrg [0,1,6,8,9,10,41,42,43] ?_;refine zd (hL1 _ _ ?_);have hm2:mems inn (i+1)=mems inn i++[(i:Int)+2]:=by rw[mems,qf h69]
        have hc2:z44 keys inn (i+1)=z44 keys inn i++[⟨kAt keys i,0,0,0,!bAt inn i⟩]:=cellK_succ ..;rw[show(i:Int)+1=((i+1:Nat):Int) from by omega];refine⟨i+1,⟨by omega,by omega⟩,fun q=>if q=3 then 9 else if q=7 then 11 else q,?_⟩;simp only[hm2,hc2,Qn,QC];exact(Zg (fun q=>if q=3 then 9 else if q=7 then 11 else q))
       ·intro h69
        refine za (zd (hN2 _ _ ?_));refine Zrg [0,1,6,8,9,10,41,42,43] ?_;refine zd (hL1 _ _ ?_);have hm2:mems inn (i+1)=mems inn i:=by rw[mems,qb (by rw[h69];exact qp)]
        have hc2:z44 keys inn (i+1)=z44 keys inn i++[⟨kAt keys i,0,0,0,!bAt inn i⟩]:=cellK_succ ..;rw[show(i:Int)+1=((i+1:Nat):Int) from by omega];refine⟨i+1,⟨by omega,by omega⟩,fun q=>if q=3 then 9 else q,?_⟩;simp only[hm2,hc2,Qn,QC];exact(Zg (fun q=>if q=3 then 9 else q))
     ·intro h44;replace h44:=Znb h44;have hni:i=keys.length:=by omega
      subst hni;have hml:=mems_length inn keys.length;have hcl:=z3q keys inn keys.length;have hsl:=srtI_length (z1p (z44 keys inn keys.length)) (mems inn keys.length);have hO:=ordN_of keys inn keys.length;have hOl:(srtI (z1p (z44 keys inn keys.length)) (mems inn keys.length)).length+1=(ordN keys inn keys.length).length:=by rw[<-hO];simp
      refine zm (hEL1 _ _ _ (hX1 _ _ (z6 ?_)));refine Zrs [6,8,9,80] ?_;refine z7 _ rfl ?_ ?_
      ·intro h80
       exfalso;simp at h80
      ·intro h80
       refine za ?_;refine sg [6,8,9] rfl ?_;intro K hK;iterate 2 (refine Zo Zl ?_)
       refine Zo Zl ?_;have h:=sort_specK 90 cmpOkN entN (z44 keys inn keys.length) (z44 keys inn keys.length).length m rfl (by omega) (mems inn keys.length) _ rfl (by omega) (by rw[hcl];exact memOk_mems _ _) (mems_nodup _ _) (dst_cellK hd);unfold cmpSv at h;refine Zc1 (h) (fun q=>if q=0 then 7 else if q=1 then 5 else if q=2 then 3 else 4) ?_;rw[<-hsl];refine z8 (Zpr (hK _ _ ?_));clear hK K;refine Zrs [6,8,9,13] ?_;refine z6 ?_;refine sg [6,8,13,87,88,89] rfl ?_;intro K hK;iterate 3 (refine Zo Zl ?_)
       rw[hO,hOl];repeat(with_reducible apply qe;exact sdE)
       iterate 2 (refine Zo Zl ?_)
       refine z8 (Zpr (hK _ _ ?_));clear hK K;refine zb fun Q3 hN3 hX3 hR3 hE3=> ?_;refine zn (σ:=Nat×Int×List Cl) (fun σ=>(σ.1<=(ordN keys inn keys.length).length/\σ.2.2.length=(z44 keys inn keys.length).length)/\(0<=σ.2.1/\σ.2.1<(z44 keys inn keys.length).length)/\lnk2 σ.2.2 σ.2.1 ((ordN keys inn keys.length).drop σ.1)=newK keys inn keys.length) (fun σ=>(ordN keys inn keys.length).length-σ.1) (fun σ=>[(6,.ptr 2 0 0 0),(8,.ptr 5 0 0 0),(13,.int .i64 σ.2.1),(87,.slc true 9 0 0 (ordN keys inn keys.length).length),(88,.int .i64 (ordN keys inn keys.length).length),(89,.int .i64 σ.1)]) (fun σ=>⟨10,[(9,z12 (ordN keys inn keys.length)),(5,lsOwn 3 (z44 keys inn keys.length).length 4 m),(4,uQ (.row ⟨true,false,110,7,m,prs (List.replicate m noPr)⟩)),(3,uQ (.row ⟨true,false,117,5,(z44 keys inn keys.length).length,z30 σ.2.2⟩)),(2,uQ (.row ⟨true,true,85,2,1,fun _=>[.nils,.nils]⟩))]⟩) (0,0,z44 keys inn keys.length) ⟨⟨qo _,rfl⟩,⟨jC _,by dsimp only;omega⟩,rfl⟩ (ρ:=id) (Zg id) ?_;rintro⟨j,last,cs⟩ hj QL2 hL2 hRL2 hEL2;refine Zrs [6,8,13,87,88,89,90] ?_;refine z6 ?_;refine z7 _ rfl ?_ ?_
       ·intro h90;replace h90:=Znb h90;obtain⟨⟨hj1,hj2⟩,⟨hj3,hj4⟩,hj5⟩:=hj;dsimp only at hj1 hj2 hj3 hj4 hj5;have hjl:j<(ordN keys inn keys.length).length:=by omega
        have hom:=ordN_mem (qN hjl);rw[<-z2n hjl] at hom;refine za (z6 (zb fun Q4 hN4 hX4 hR4 hE4=> ?_));refine Zrs [6,8,13,15,87,88,89] ?_;refine z6 ?_;refine Zrd [6,8,15,87,88,89] [0,1,2,3,4,5,6,7,8,9,10,11,12,13] [[],[],[],[],[],[],[],[],[],[],[3],[],[],[3]] [[],[],[],[3],[3],[3],[],[3],[],[],[3],[3],[3],[3]] ?_;intro K hK;iterate 3 (refine Zo (Zi [] []) ?_)
        iterate 3 (refine Zo (Zi [] [3]) ?_)
        refine Zo (Zi [] []) ?_;refine Zo (Zi [] [3]) ?_;iterate 2 (refine Zo (Zi [] []) ?_)
        refine Zo (Zi [3] [3]) ?_;rw[put_R cs last (nth (ordN keys inn keys.length) j) (by omega)];repeat(with_reducible apply qe;exact sdE)
        iterate 2 (refine Zo (Zi [] [3]) ?_)
        refine Zo (Zi [3] [3]) ?_;rw[put_F (z31 cs last (nth (ordN keys inn keys.length) j)) (nth (ordN keys inn keys.length) j) last (by rw[z35];omega)];repeat(with_reducible apply qe;exact sdE)
        refine zx (Zpr (hK _ _ ?_));clear hK K;refine Zrg [6,8,13,87,88,89] ?_;refine zd (hN4 _ _ ?_);refine Zrg [6,8,13,87,88,89] ?_;refine zd (hL2 _ _ ?_);rw[show(j:Int)+1=((j+1:Nat):Int) from by omega];refine⟨(j+1,nth (ordN keys inn keys.length) j,z4v (z31 cs last (nth (ordN keys inn keys.length) j)) (nth (ordN keys inn keys.length) j) last),⟨⟨⟨by dsimp only;omega,by dsimp only;rw[z5l,z35];exact hj2⟩,⟨by dsimp only;omega,by dsimp only;omega⟩,?_⟩,by dsimp only;omega⟩,id,(Zg id)⟩;dsimp only;rw[<-hj5,QB hjl,lnk2,z2n hjl]
       ·intro h90;replace h90:=Znb h90;obtain⟨⟨hj1,hj2⟩,⟨hj3,hj4⟩,hj5⟩:=hj;dsimp only at hj1 hj2 hj3 hj4 hj5;rw[Jc (by omega)] at hj5;have hj6:cs=newK keys inn keys.length:=hj5;refine zm (hEL2 _ _ _ (hX3 _ _ ?_));refine Zrs [6,7] ?_;refine ze (hQ _ _ ?_);unfold lsH lsS;dsimp only;rw[<-hj6,hj2,Qr];refine zu (fun q=>if q=2 then 3 else if q=3 then 4 else q) (.tup [.agg [.slc true 2 0 0 (z44 keys inn keys.length).length,.slc true 3 0 0 m],.int .i64 0]) (⟨4,[(3,uQ (.row ⟨true,false,110,7,m,prs (List.replicate m noPr)⟩)),(2,uQ (.row ⟨true,false,117,5,(z44 keys inn keys.length).length,z30 cs⟩))]⟩) (.inl rfl) ?_;refine Zou ?_;refine⟨Zs,Zs,(Zg (fun q=>if q=2 then 3 else if q=3 then 4 else q)),Zs,?_⟩
        all_goals first|trivial|(simp only[z3u,z3a,hj2,Qr];done)|(exact⟨rfl,by simp only[z3u,z3a,hj2,Qr]⟩)
    refine Zo (ZT [] [] []) ?_;refine runT_three ?_ ?_ ?_
    ·skip
     refine Zo (ZT [] [] []) ?_;refine z26 ?_ ?_
     ·skip
      refine Zo (ZT [] [] []) ?_;refine Zo (ZT [] [] []) ?_;refine Zo (ZT [] [] [5]) ?_;refine Zo (ZT [5] [] [5]) ?_;refine z17 ?_;refine Zpr ?_;exact hG _ _ _ _ id (Zg id) hk7
     ·skip
      refine Zo (ZT [] [] [4]) ?_;refine Zo (ZT [4] [] [4]) ?_;refine Zo (ZT [4] [] [4]) ?_;refine Zo (ZT [4] [] [4]) ?_;refine z17 ?_;refine Zpr ?_;exact hG _ _ _ _ (fun k=>if k=4 then 5 else if k=5 then 4 else k) (Zg (fun k=>if k=4 then 5 else if k=5 then 4 else k)) hk7
    ·skip
     refine Zo (ZT [] [] []) ?_;refine z26 ?_ ?_
     ·skip
      refine Zo (ZT [] [] []) ?_;refine Zo (ZT [] [] []) ?_;refine Zo (ZT [] [] [5]) ?_;refine Zo (ZT [5] [] [5]) ?_;refine z17 ?_;refine Zpr ?_;exact hG _ _ _ _ (fun k=>if k=3 then 4 else if k=4 then 3 else k) (Zg (fun k=>if k=3 then 4 else if k=4 then 3 else k)) hk7
     ·skip
      refine Zo (ZT [] [] [4]) ?_;refine Zo (ZT [4] [] [4]) ?_;refine Zo (ZT [4] [] [4]) ?_;refine Zo (ZT [4] [] [4]) ?_;refine z17 ?_;refine Zpr ?_;exact hG _ _ _ _ (fun k=>if k=3 then 5 else if k=4 then 3 else if k=5 then 4 else k) (Zg (fun k=>if k=3 then 5 else if k=4 then 3 else if k=5 then 4 else k)) hk7
    ·skip
     refine Zo (ZT [] [] [3]) ?_;refine z26 ?_ ?_
     ·skip
      refine Zo (ZT [3] [] [3]) ?_;refine Zo (ZT [3] [] [3]) ?_;refine Zo (ZT [3] [] [3]) ?_;refine Zo (ZT [3] [] [3]) ?_;refine z17 ?_;refine Zpr ?_;exact hG _ _ _ _ (fun k=>if k=3 then 4 else if k=4 then 5 else if k=5 then 3 else k) (Zg (fun k=>if k=3 then 4 else if k=4 then 5 else if k=5 then 3 else k)) hk7
     ·skip
      refine Zo (ZT [3] [] [3]) ?_;refine Zo (ZT [3] [] [3]) ?_;refine Zo (ZT [3] [] [3]) ?_;refine Zo (ZT [3] [] [3]) ?_;refine z17 ?_;refine Zpr ?_;exact hG _ _ _ _ (fun k=>if k=3 then 5 else if k=5 then 3 else k) (Zg (fun k=>if k=3 then 5 else if k=5 then 3 else k)) hk7
end
section
theorem Tryz.tyMapIB:z1s prog 56=⟨true,.map 3 4,1,8,[]⟩:=by kernel_rfl
theorem Tryz.zStrN:z3f prog 9=some [.str ⟨#[]⟩]:=by kernel_rfl
section
variable {ns:List Nd} {h:Nat}
theorem shp_sub (hc:z1j ns=0)(h16:h<=16){i:Nat}(hi:i<(z36 ns h).length):(shA (z36 ns h) i).2.Sublist (z43 ns):=
 by
 rw[shA_lt hi];obtain⟨n,h1,h2,h3⟩:=mem_shpL.1 (qN (l:=z36 ns h) (n:=i) hi);exact cls_sub (by omega) h3
theorem shp_keys (hc:z1j ns=0)(h16:h<=16){i:Nat}(hi:i<(z36 ns h).length):(∀k,k<(shA (z36 ns h) i).2.length->okKey (kAt (keyL (shA (z36 ns h) i).2) k)=true)/\(keyL (shA (z36 ns h) i).2).Nodup/\(shA (z36 ns h) i).2.length<=64:=by
 have hs:=shp_sub hc h16 hi;have hg:=good_sub hs (good_perm (z1o _) hc);have hgi:=(z5z _).1 hg;refine⟨fun k hk=> ?_,?_,hgi.1⟩
 ·rw[keyL_at hk];have:=hgi.2.1 _ (nd_mem hk);simp only[badN,qi] at this;simp_all
 ·rw[keyL,Js,jZ];exact hgi.2.2.imp fun h=>(z59 h).2
theorem lvl_len (hc:z1j ns=0)(h16:h<=16):(z52 ns (h+1)).length=(z36 ns h).length:=by
 rw[show z52 ns (h+1)=lvlL ns h from rfl,lvlL_eq hc h16,qA]
theorem shp_at (hc:z1j ns=0)(h16:h<=16){lv i:Nat}(hl:lv<=h)(hi:i<(lstN ns (lv:Int)).length):(z52 ns lv).length+i<(z36 ns h).length/\(shA (z36 ns h) ((z52 ns lv).length+i)).1=lv/\(shA (z36 ns h) ((z52 ns lv).length+i)).2.map (·.id)=ind (lstN ns (lv:Int)) i:=by
 have h1:=lvlP_le (ns:=ns) (show lv+1<=h+1 by omega);rw[lvlP_len,lvl_len hc h16] at h1;have h2:(z52 ns lv).length+i<(z36 ns h).length:=by omega
 have h3:=lvA_in hl hi;rw[lvA_eq hc h16 h2] at h3;obtain⟨e1,e2⟩:=Prod.mk.inj h3;exact⟨h2,e1,e2⟩
end
theorem keyL_take {c:List Nd}{j:Nat}(h:j<c.length):(keyL c).take (j+1)=(keyL c).take j++[(nd c j).key]:=by
 rw[QU (by rw[z2r];exact h),z3e h];simp[keyL]
theorem innL_take {dn:List Int}{c:List Nd}{j:Nat}(h:j<c.length):(innL dn c).take (j+1)=(innL dn c).take j++[dn.contains (nd c j).id]:=by
 rw[QU (by rw[z49];exact h),z3e h];simp[innL]
theorem any_takeI {l:List Int}(hd:l.Nodup){i:Nat}(h:i<l.length):(l.take i).contains (nth l i)=false:=by
 rw[List.contains_eq_any_beq,JI];intro x hx;obtain⟨j,hj,rfl⟩:=Qg hx;rw[qS] at hj;rw[z2n h,jd];intro e;have e':l[j]=l[i]:=((qv ..).1 e).symm;exact absurd e' (Qb.1 hd j i (by omega) h (by omega))
theorem take_nthN {l:List Int}{i:Nat}(h:i<l.length):l.take (i+1)=l.take i++[nth l i]:=by
 rw[z2n h,List.take_add_one,qF h];rfl
theorem cbs_zero (m:Nat):(fun _=>[SV.int .i64 0,SV.int .i64 0,SV.int .i64 0])=cbs (List.replicate m noCb):=by
 funext i
 rw[cbs,cbA_new];rfl
theorem app_strs1 {c:List Nd}{j:Nat}(h:j<c.length):app (strsK ((keyL c).take j)) j (z42 1 1 [SV.str (nd c j).key])=strsK ((keyL c).take (j+1)):=by
 have hl:((keyL c).take j).length=j:=by rw[qS,z2r];omega
 funext i
 rw[keyL_take h,app];unfold strsK kAt
 split
 ·rename_i g;rw[qt,qt,Qv (by omega)]
 ·rename_i g;rw[qt,QI (by omega),hl]
  by_cases e:i=j
  ·subst e;rw[jm];rfl
  ·obtain⟨t,ht⟩:∃t,i-j=t+1:=⟨i-j-1,by omega⟩;rw[ht];rfl
theorem app_bos1 {dn:List Int}{c:List Nd}{j:Nat}(h:j<c.length)(v:Int)(hv:v=(nd c j).id):app (bos ((innL dn c).take j)) j (z42 1 1 [SV.bool (dn.contains v)])=bos ((innL dn c).take (j+1)):=by
 have hl:((innL dn c).take j).length=j:=by rw[qS,z49];omega
 subst hv
 funext i
 rw[innL_take h,app];unfold bos bAt
 split
 ·rename_i g;rw[qt,qt,Qv (by omega)]
 ·rename_i g;rw[qt,QI (by omega),hl]
  by_cases e:i=j
  ·subst e;rw[jm];rfl
  ·obtain⟨t,ht⟩:∃t,i-j=t+1:=⟨i-j-1,by omega⟩;rw[ht];rfl
theorem ind_drop (ls:List (List Int))(i q:Nat):ind (ls.drop i) q=ind ls (i+q):=by
 rw[ind,ind,qt,qt,QF]
theorem lyA_ge {L:List Ly}{i:Nat}(h:L.length<=i):lyA L i=noLy:=by rw[lyA,qt,qI h];rfl
theorem pxL_step {L:List Ly}{ls:List (List Int)}{P i q:Nat}(hP:P+ls.length<=L.length)(hi:i<ls.length)(hq:q≠P+i):lyA (pxL L (P+i+1) (ls.drop (i+1))) q=lyA (pxL L (P+i) (ls.drop i)) q:=by
 by_cases g:q<P+i
 ·rw[pxL_lo (by omega) (by omega),pxL_lo (by omega) g]
 ·by_cases g2:q<P+ls.length
  ·obtain⟨t,rfl⟩:∃t,q=P+i+1+t:=⟨q-(P+i+1),by omega⟩;rw[pxL_hi (by omega) (by rw[QP];omega),show P+i+1+t=P+i+(t+1) by omega,pxL_hi (by omega) (by rw[QP];omega),ind_drop,ind_drop,show i+1+t=i+(t+1) by omega]
  ·rw[lyA_ge (by simp[pxL];omega),lyA_ge (by simp[pxL];omega)]
theorem hdN_nd {c:List Nd}(h:0<c.length):(hdN c).word=(nd c 0).word:=by
 cases c with
 |nil=>cases h
 |cons _ _=>rfl
theorem JoDm.s {a:Prop}(h:a:=by simp[SV.wkL,SV.wk,frGives,z4w,Sk.get,Sk.find,uQ,z1d.eq_1,z1d.eq_2,z1d.eq_3,z3g,renL_id,ren_id,SV.renL,SV.ren,Obj.lt_row,SV.ltL,SV.lt,ownU,keepB,z3j,OwnAll,Obj.own.eq_1,Obj.own.eq_2,Obj.own.eq_3,Obj.own.eq_4,z1b,inNds,z65,nds_ren',z4u,nds,Nd.sv,inCl,z3a,inPr,z3u,cls_ren',cls_lt,prs_ren',prs_lt,z19,z12,z1x,z1u,Cl.sv,Pr.sv,cbs_ren',cbs_lt,lyR_ren',lyR_lt,lyF_gives,z40,z4t,fam_gives,fam_gives',fam_g0,fam_l0,fam_own,ren_id,lsCap,ilR_ren',ilR_lt,ilF_gives,ilFm_lt,ilF_fown,lyI_ren',lyI_lt,strs_ren'K,strs_ltK,bos_ren',bos_lt,lt_blk,inStr,inBo,z2r,z49]):a:=h
theorem JoDm.t {s e:SV}{H g:AH}(q:AfQ s e H g:=by constructor<;>(simp only[fam_zero,after,cren,id,dropO,reduceCtorEq,Nat.reduceEqDiff,Jx,Nat.zero_ne_one,renOs,dropIds,z3j,uQ,Obj.own.eq_1,Obj.own.eq_2,Obj.own.eq_3,Obj.own.eq_4,Obj.ren.eq_1,Obj.ren.eq_2,Obj.ren_blk,Row.ren,SV.ren,SV.renL,Qk,jf,jG,QY,↓reduceIte,Nat.reduceLT,Nat.reduceAdd,Nat.reduceSub,Nat.reduceEqDiff,jg,qw,z1b,zg,zh,zq,zk,z14,z1a,Tryz.szErr,Tryz.zErr,Tryz.tyBoolK,Tryz.szBool,Tryz.zBool,zi,zy,zo,zl,Tryz.szNode,zp,Tryz.tyNodes,Tryz.szNodes,inNds,z65,nds,Nd.sv,Tryz.tyCl,Tryz.szCl,Tryz.zCl,Tryz.tyPr,Tryz.szPr,Tryz.zPr,Tryz.tyCls,Tryz.szCls,Tryz.tyPrs,Tryz.szPrs,zz,Tryz.szLsK,Tryz.zLsK,inCl,z3a,inPr,z3u,cls_0,cls_1,cls_2,cls_3,cls_4,prs_0,prs_1,prs_2,prs_3,prs_4,prs_5,prs_6,Cl.sv,Pr.sv,z19,z12,Tryz.tyLy,Tryz.szLy,Tryz.zLy,Tryz.tyLys,Tryz.szLys,Tryz.tyCb,Tryz.szCb,Tryz.zCb,Tryz.tyCbs,Tryz.szCbs,Tryz.tyFo,Tryz.szFo,Tryz.zFo,lyF_0,lyF_1,lyF_2,ex_map,lsCap,lsS,lsH,Tryz.tyIntss,Tryz.szIntss,lyI_ap,Tryz.tyStrsK,Tryz.szStrs,Tryz.tyBools,Tryz.szBools,Tryz.tyMapIB,Tryz.zB,Tryz.zStrN,strs_ap,bos_ap,inStr,inBo,z1f,z1v,z2e,z2t,z34,z1v,cbs_ren,lyR_ren,lyF_ren,z3z,lsS,lsH,strs_renK,bos_ren,ilF_ren,ilR_fold,ilR_ren,lyI_ren];exact rfl)):AfQ s e H g:=q
theorem JoDm.c1 {P:Program}{f:FuncId}{args args0:List SV}{H0 H Y g:AH}{X e:SV}{dr:Bool}{W:List Nat}{k:SV->AH->Prop}(hF:zf P f args0 H0 fun s H1=>s=X/\H1=Y)(ρ:Nat->Nat)(h:k e g)(q:CaQ args args0 ρ H0 H dr W:=by constructor<;>exact JoDm.s)(r:CaR ρ H0 H:=by exact⟨rfl,rfl⟩)(b:AfQ (X.ren (cren H0.nxt H.nxt ρ)) e (after H0.nxt ρ H0 H Y) g:=by exact JoDm.t):callK P f args H dr W k:=c1S hF ρ h q r b
theorem JoDm.sd {a:Prop}(h:a:=by first|omega|(simp only[In64];omega)|(simp only[qr,qh,qi,qx,qk,qq,qj,qg,qv,qC,qU,ne_eq,Qm,Ql,qK,qy,In64];omega)|(simp only[qr,qh,qi,qx,qk,qq,qj,qg,qv,qC,qU,ne_eq,Qm,Ql,qK,qy,In64] at*;omega)):a:=h
theorem JoDm.ou {a d:Prop}(h:d)(e:Sd a d:=by simp only[resK,z5v,loadK,QR,qc,JE,yA,QT,ne_eq,Sk.get,Sk.find,uQ,JJ,jI,jN,jz,jO,yf,↓reduceIte,Nat.reduceEqDiff,resV,zz,Tryz.tyFo,Tryz.tyLy,Tryz.tyCb,Kd.agg,Nat.reduceAdd,qo,Nat.reduceLeDiff];(repeat(with_reducible apply Sd.and;exact JoDm.sd));exact Sd.rfl):a:=e.f h
theorem z5w {X:Cx}{fr:Fr}{H:AH}{fr1:Fr}{H1:AH}(ρ:Nat->Nat)(q:GvQ X ρ fr H fr1 H1:=by constructor<;>exact JoDm.s)(r:GvR X ρ H1:=by exact⟨rfl,rfl,qd rfl,rfl⟩):z5d X ρ fr H fr1 H1:=gvS ρ q r
theorem JoDm.w {a:Prop}(h:a:=by simp[frGivesP,Sk.get,SV.renP,SV.renPL,anP,mgM,SV.lt,SV.ltL,ownU,uQ,keepB,Sk.find,Obj.own.eq_1,Obj.own.eq_2,Obj.own.eq_3,Obj.own.eq_4,z1b,inNds,z65,nds_ren',z4u,nds,Nd.sv,inCl,z3a,inPr,z3u,cls_ren',cls_lt,prs_ren',prs_lt,z19,z12,z1x,z1u,Cl.sv,Pr.sv,cbs_ren',cbs_lt,lyR_ren',lyR_lt,lyF_gives,z40,z4t,fam_gives,fam_gives',fam_g0,fam_l0,fam_own,ren_id,lsCap,ilR_ren',ilR_lt,ilF_gives,ilFm_lt,ilF_fown,lyI_ren',lyI_lt,strs_ren'K,strs_ltK,bos_ren',bos_lt,lt_blk,inStr,inBo,z2r,z49]):a:=h
theorem JoDm.ga {X:Cx}{fr:Fr}{H:AH}{fr1:Fr}{H1:AH}(ρ:Nat->Nat)(f:Nat)(μ:Nat->Nat×Nat)(a2:HGivesJ (anP ρ f μ) H1.nxt H.os H1.os)(hμ:MuOk X ρ f μ)(t:MuL ρ f μ H1.os)(q:GpQ X (anP ρ f μ) fr H fr1 H1:=by constructor<;>exact JoDm.w)(r:GpR X ρ f H1:=by exact⟨rfl,rfl,qd rfl,qd rfl,rfl⟩):z5g X (anP ρ f μ) fr H fr1 H1:=goS ρ f μ a2 hμ t q r
theorem JoDm.v {a:Prop}(h:a:=by simp[frGivesP,Sk.get,SV.renP,SV.renPL,mvM,SV.lt,SV.ltL,ownU,uQ,keepB,Sk.find,Obj.own.eq_1,Obj.own.eq_2,Obj.own.eq_3,Obj.own.eq_4,z1b,inNds,z65,nds_ren',z4u,nds,Nd.sv,inCl,z3a,inPr,z3u,cls_ren',cls_lt,prs_ren',prs_lt,z19,z12,z1x,z1u,Cl.sv,Pr.sv,cbs_ren',cbs_lt,lyR_ren',lyR_lt,lyF_gives,z40,z4t,fam_gives,fam_gives',fam_g0,fam_l0,fam_own,ren_id,lsCap,ilR_ren',ilR_lt,ilF_gives,ilFm_lt,ilF_fown,lyI_ren',lyI_lt,strs_ren'K,strs_ltK,bos_ren',bos_lt,lt_blk,inStr,inBo,z2r,z49]):a:=h
theorem JoDm.gm {X:Cx}{fr:Fr}{H:AH}{fr1:Fr}{H1:AH}(ρ:Nat->Nat)(f:Nat)(ms:Nat->Option Nat)(hs:MsOk X ρ ms H1.os)(a2:z1e (mvM ρ f ms) H1.nxt H.os H1.os)(q:GpQ X (mvM ρ f ms) fr H fr1 H1:=by constructor<;>exact JoDm.v)(r:GmR X ρ f H1:=by exact⟨rfl,rfl,qd rfl,qd rfl,rfl⟩):z5g X (mvM ρ f ms) fr H fr1 H1:=gmS ρ f ms hs a2 q r
theorem z18 {a c d:Prop}(r:a->c)(h:d)(e:Sd a d:=by simp only[stp,isQ,z5v,Sk.get,Sk.put,ofConst,z27,↓reduceIte,reduceCtorEq,Nat.reduceEqDiff,QT,and_true,yA,implies_true,forall_const,imp_self,qw,false_implies,false_and,and_false,QJ,jn,qop,grdK,Jk,jI,j7,beq_true,beq_false,Jo,Jq,qV,Qp,Ji,jB,qh,qk,qq,pickB_bool,Bool.cond_true_left,Bool.cond_false_left,Bool.cond_true_right,Bool.cond_false_right,cond_true,cond_false,and_imp,loadK,Sk.find,uQ,z2q,setF_fam,Kd.agg,JJ,List.contains_cons,Nat.reduceBEq,jt,Jy,yr,jW,ite_self,JE,QR,jg,Nat.reduceAdd,Nat.reduceMul,Nat.reduceSub,Nat.reduceLT,Nat.reduceLeDiff,qc,qo,ne_eq,Jx,yo,not_true_eq_false,qz,Int.reduceToNat,QK,JY,J4,Kd.slice.injEq,exists_eq',jj,QE,jN,List.drop_succ_cons,jz,jO,yf,List.drop_nil,jG,QY,QN,List.append_eq,ye,List.all_nil,spl,okCells,SV.cells,SV.scalar,binK,binII,binBB,intK,arithK,strK,shiftK,binAA,binNil,unK,convX,convK,faddrK,fieldK,partK,iaddrK,indexK,optK,sliceK,bndK,Option.isSome_some,J',yx,or_true,true_or,partsK,buildK,fillS,placeS,lenK,z5h.len,z2y.n,opdsK,mmK,foldInt,eop,copyK,srcK,srcF_zero,setO,clearK,capK,growK,appendK,dropO,allocK,boxK,bsliceK,replZ,storeK,updF,mkK,mmapK,z5h.ofKd,z2y.ofKd,mputK,z5h.add,z5h.okKd,z2y.put,z2y.okKd,z2y.okP,mlookK,z5h.has,z2y.get,z2y.z,z1b,zg,zh,zq,zk,z14,z1a,Tryz.szErr,Tryz.zErr,Tryz.tyBoolK,Tryz.szBool,Tryz.zBool,zi,zy,zo,zl,Tryz.szNode,zp,Tryz.tyNodes,Tryz.szNodes,inNds,z65,nds,Nd.sv,Tryz.tyCl,Tryz.szCl,Tryz.zCl,Tryz.tyPr,Tryz.szPr,Tryz.zPr,Tryz.tyCls,Tryz.szCls,Tryz.tyPrs,Tryz.szPrs,zz,Tryz.szLsK,Tryz.zLsK,inCl,z3a,inPr,z3u,cls_0,cls_1,cls_2,cls_3,cls_4,prs_0,prs_1,prs_2,prs_3,prs_4,prs_5,prs_6,Cl.sv,Pr.sv,z19,z12,ints,Tryz.tyLy,Tryz.szLy,Tryz.zLy,Tryz.tyLys,Tryz.szLys,Tryz.tyCb,Tryz.szCb,Tryz.zCb,Tryz.tyCbs,Tryz.szCbs,Tryz.tyFo,Tryz.szFo,Tryz.zFo,lyR_ap,cbs_ap,lyF_0,lyF_1,lyF_2,ex_map,lsCap,lsS,lsH,Tryz.tyIntss,Tryz.szIntss,ilR_ap,ilF_ap,lyI_ap,Tryz.tyStrsK,Tryz.szStrs,Tryz.tyBools,Tryz.szBools,Tryz.tyMapIB,Tryz.zB,Tryz.zStrN,strs_ap,bos_ap,inStr,inBo,z1f];(repeat(with_reducible apply Sd.and;exact JoDm.sd));exact Sd.rfl):c:=r (e.f h)
theorem z3y {a b:Prop}(h:b)(e:a=b:=by simp only[prune,Sk.get,Sk.put,↓reduceIte,Nat.reduceEqDiff];exact rfl):a:=Eq.mpr e h
theorem JoDm.rg {X:Cx}{Q:Exit->Fr->AH->Prop}{fr fr1:Fr}{H H1:AH}{l:List Code}{id:Nat}{ops:List Oper}(keep:List Nat)(h:Cs X l Q fr1 H1)(hd:dstOk X.n ops=true:=by exact rfl)(e:∀K:Fr->AH->Prop,K fr1 H1->runL X.P X.wrap X.m0 ops.toArray ops fr H (fun fr H=>K (prune keep fr) H):=by(intro K hK;(repeat(refine z18 z11 ?_));exact z8 (z3y hK))):Cs X (.region id ops.toArray false::l) Q fr H:=rgS keep h hd e
theorem z4g {X:Cx}{Q:Exit->Fr->AH->Prop}{fr fr1:Fr}{H H1:AH}{l:List Code}{id:Nat}{ops:List Oper}{y:Code}(keep:List Nat)(h:Cs X (y::l) Q fr1 H1)(hd:dstOk X.n ops=true:=by exact rfl)(e:∀K:Fr->AH->Prop,K fr1 H1->runL X.P X.wrap X.m0 ops.toArray ops fr H (fun fr H=>K (prune keep fr) H):=by(intro K hK;(repeat(refine z18 z11 ?_));exact z8 (z3y hK))):Cs X (.seq (.region id ops.toArray false) y::l) Q fr H:=z6 (rgS keep h hd e)
theorem JoDm.s_inRow {a:Prop}(h:a:=by simp[SV.wkL,SV.wk,frGives,z4w,Sk.get,Sk.find,uQ,z1d.eq_1,z1d.eq_2,z1d.eq_3,z3g,renL_id,ren_id,SV.renL,SV.ren,Obj.lt_row,SV.ltL,SV.lt,ownU,keepB,z3j,OwnAll,Obj.own.eq_1,Obj.own.eq_2,Obj.own.eq_3,Obj.own.eq_4,z1b,inNds,z65,nds_ren',z4u,nds,Nd.sv,inCl,z3a,inPr,z3u,cls_ren',cls_lt,prs_ren',prs_lt,z19,z12,z1x,z1u,Cl.sv,Pr.sv,cbs_ren',cbs_lt,lyR_ren',lyR_lt,lyF_gives,z40,z4t,fam_gives,fam_gives',fam_g0,fam_l0,fam_own,ren_id,lsCap,ilR_ren',ilR_lt,ilF_gives,ilFm_lt,ilF_fown,lyI_ren',lyI_lt,strs_ren'K,strs_ltK,bos_ren',bos_lt,lt_blk,inStr,inBo,z2r,z49,z19]):a:=h
theorem JoDm.g_inRow {X:Cx}{fr:Fr}{H:AH}{fr1:Fr}{H1:AH}(ρ:Nat->Nat)(q:GvQ X ρ fr H fr1 H1:=by constructor<;>exact JoDm.s_inRow)(r:GvR X ρ H1:=by exact⟨rfl,rfl,qd rfl,rfl⟩):z5d X ρ fr H fr1 H1:=gvS ρ q r
theorem JoDm.s_lvlP {a:Prop}(h:a:=by simp[SV.wkL,SV.wk,frGives,z4w,Sk.get,Sk.find,uQ,z1d.eq_1,z1d.eq_2,z1d.eq_3,z3g,renL_id,ren_id,SV.renL,SV.ren,Obj.lt_row,SV.ltL,SV.lt,ownU,keepB,z3j,OwnAll,Obj.own.eq_1,Obj.own.eq_2,Obj.own.eq_3,Obj.own.eq_4,z1b,inNds,z65,nds_ren',z4u,nds,Nd.sv,inCl,z3a,inPr,z3u,cls_ren',cls_lt,prs_ren',prs_lt,z19,z12,z1x,z1u,Cl.sv,Pr.sv,cbs_ren',cbs_lt,lyR_ren',lyR_lt,lyF_gives,z40,z4t,fam_gives,fam_gives',fam_g0,fam_l0,fam_own,ren_id,lsCap,ilR_ren',ilR_lt,ilF_gives,ilFm_lt,ilF_fown,lyI_ren',lyI_lt,strs_ren'K,strs_ltK,bos_ren',bos_lt,lt_blk,inStr,inBo,z2r,z49,z52]):a:=h
theorem JoDm.g_lvlP {X:Cx}{fr:Fr}{H:AH}{fr1:Fr}{H1:AH}(ρ:Nat->Nat)(q:GvQ X ρ fr H fr1 H1:=by constructor<;>exact JoDm.s_lvlP)(r:GvR X ρ H1:=by exact⟨rfl,rfl,qd rfl,rfl⟩):z5d X ρ fr H fr1 H1:=gvS ρ q r
theorem JoDm.nb {a b:Prop}(h:a)(e:a=b:=by simp only[qr,qh,qi,qx,qk,qq,qj,qg,qv,qC,qU,ne_eq,Qm,Ql,qK,qy];exact rfl):b:=Eq.mp e h
theorem New_ok (ns:List Nd)(dn:List Int)(m n d:Nat)(ht:Int)(hn:ns.length=n)(hd:dn.length=d)(hc:z1j ns=0)(hs:ns.length<=19)(m1:1<=m)(m8:m<=8)(h0:0<=ht)(h16:ht<=16)(hdx:d<=1000000)(hin:∀v∈dn,0<=findI ns v)(hnd:dn.Nodup):
  zf prog 16 [.slc false 0 0 0 n,.slc false 1 0 0 d,.int .i64 m,.int .i64 ht] ⟨2,[(0,uQ (.row ⟨false,false,62,3,n,nds ns⟩)),(1,uQ (.row ⟨false,false,3,1,d,ints dn⟩))]⟩
   (fun s H1=>s= .tup [.agg [.slc true 2 0 0 n,.int .i64 ht,.slc true 3 0 0 (z3x ns dn m ht).ly.length,.slc true 5 0 0 m],.int .i64 0]/\H1=⟨6,[(2,uQ (.row ⟨true,false,62,3,n,nds ns⟩)),(3,uQ (.row ⟨true,false,89,5,(z3x ns dn m ht).ly.length,lyR 4 (z3x ns dn m ht).ly⟩)),(4,(3*(z3x ns dn m ht).ly.length+1,fam true 3 1 (lyF true (z3x ns dn m ht).ly))),(5,uQ (.row ⟨true,false,58,3,m,cbs (List.replicate m noCb)⟩))]⟩):=by
 subst hn hd;have h64:ns.length<=64:=((z5z ns).1 hc).1;obtain⟨h,hh⟩:∃h:Nat,ht=h:=⟨ht.toNat,by omega⟩;have hhn:ht.toNat=h:=by omega
 have hn16:h<=16:=by omega
 have hLe:(z3x ns dn m ht).ly=(z36 ns h).map (newLy dn m):=by rw[z3x,hhn]
 obtain⟨L,hL⟩:∃L,(z36 ns h).map (newLy dn m)=L:=⟨_,rfl⟩;have hLl:(z52 ns (h+1)).length=L.length:=by rw[<-hL,qA];exact lvl_len hc hn16
 have hLx:L.length<=1088:=by
  have:=lvlP_bd ns (h+1);have:(h+1)*ns.length<=17*64:=jx (by omega) h64;omega
 rw[hLe,hL];refine zf.ofC false 145 [.cell 8 34,.tmp 9] func16 rfl rfl ntmps16 results16 rfl ?_;intro w0 own0 β0 Q hQ hQn;simp only[z1c];refine z4g [0,1,2,3,8] ?_;refine z6 ?_;refine sg [0,1,2,3,8,31] rfl ?_;intro K hK;refine z18 z11 ?_;refine z18 z11 ?_;refine JoDm.c1 (check_spec ns ns.length rfl (by omega)) (id) ?_;refine z18 z11 ?_;refine z8 (z3y (hK _ _ ?_));clear hK K;refine z7 _ rfl ?_ ?_
 ·intro h31
  exfalso;simp[hc] at h31
 ·intro h31
  refine za (z6 ?_);refine z4g [0,1,2,3,8,46] ?_;refine z7 _ rfl ?_ ?_
  ·intro h46
   exfalso;simp only[qr,qh,qi,qx,qk,qq,qj,qg,qv,qC,qU,ne_eq,Qm,Ql,qK,qy] at h46;omega
  ·intro h46
   refine za ?_;refine z4g [0,1,2,3,8,10] ?_;refine z6 ?_;refine z4g [0,1,2,3,8,10,49,50,51] ?_;refine zb fun Q0 hN0 hX0 hR0 hE0=> ?_;refine zn (σ:=Nat) (fun i=>i<=dn.length) (fun i=>dn.length-i) (fun i=>[(0,.slc false 0 0 0 ns.length),(1,.slc false 1 0 0 dn.length),(2,.int .i64 m),(3,.int .i64 ht),(8,.ptr 2 0 0 0),(10,.mp 3 0),(49,.slc false 1 0 0 dn.length),(50,.int .i64 dn.length),(51,.int .i64 i)]) (fun i=>⟨4,[(3,uQ (.blk true (.ints (dn.take i)))),(2,uQ (.row ⟨true,true,34,4,1,fun _=>[.nils,.int .i64 0,.nils,.nils]⟩)),(0,uQ (.row ⟨false,false,62,3,ns.length,nds ns⟩)),(1,uQ (.row ⟨false,false,3,1,dn.length,ints dn⟩))]⟩) 0 (qo _) (ρ:=id) (JoDm.g_inRow id) ?_;rintro i hi QL1 hL1 hRL1 hEL1;refine z4g [0,1,2,3,8,10,49,50,51,52] ?_;refine z6 ?_;refine z7 _ rfl ?_ ?_
   ·intro h52;replace h52:=JoDm.nb h52;refine za (z6 (zb fun Q1 hN1 hX1 hR1 hE1=> ?_));refine z4g [0,1,2,3,8,10,12,49,50,51] ?_;refine z6 ?_;refine sg [0,1,2,3,8,10,12,14,49,50,51] rfl ?_;intro K hK;iterate 2 (refine z18 z11 ?_)
    refine z18 z11 ?_;refine JoDm.c1 (find_spec ns (nth dn i) ns.length rfl (by omega)) (id) ?_;iterate 6 (refine z18 z11 ?_)
    refine z8 (z3y (hK _ _ ?_));clear hK K;refine z4g [0,1,2,3,8,10,12,49,50,51,62] ?_;refine z7 _ rfl ?_ ?_
    ·intro h62
     exfalso
     have:=hin (nth dn i) (by rw[z2n (by omega)];exact qN _);simp at h62;omega
    ·intro h62
     refine za ?_;refine z4p [0,1,2,3,8,10,49,50,51] rfl ?_;intro K hK;iterate 3 (refine z18 z11 ?_)
     rw[any_takeI hnd (show i<dn.length by omega)];simp only[qw,Qo];rw[<-take_nthN (show i<dn.length by omega)];repeat(with_reducible apply ai;exact JoDm.sd)
     refine z8 (z3y (hK _ _ ?_));clear hK K;refine zd (hN1 _ _ ?_);refine JoDm.rg [0,1,2,3,8,10,49,50,51] ?_;refine zd (hL1 _ _ ?_);rw[show(i:Int)+1=((i+1:Nat):Int) from by omega];exact⟨i+1,⟨by omega,by omega⟩,id,(z5w id)⟩
   ·intro h52;replace h52:=JoDm.nb h52;have hid:i=dn.length:=by omega
    subst hid;rw[QZ];refine zm (hEL1 _ _ _ (hX0 _ _ (z6 ?_)));refine z4g [0,2,3,8,10,71] ?_;refine z7 _ rfl ?_ ?_
    ·intro h71
     exfalso;simp only[qr,qh,qi,qx,qk,qq,qj,qg,qv,qC,qU,ne_eq,Qm,Ql,qK,qy] at h71;omega
    ·intro h71
     refine za (z6 ?_);refine Cs.regTree [0,2,3,8,10,15] (.op 0 (.op 2 (.op 3 (.three 1 4 6 (.two 4 6 (.op 5 (.op 6 (.op 7 .done))) (.op 4 (.op 5 (.op 7 .done)))) (.two 1 6 (.op 5 (.op 6 (.op 7 .done))) (.op 1 (.op 5 (.op 7 .done)))) (.two 1 4 (.op 4 (.op 5 (.op 7 .done))) (.op 1 (.op 5 (.op 7 .done)))))))) [[],[0],[],[],[3],[0,1,2,3,4],[],[0,1,2,3,4,5,6]] [[],[],[],[],[],[],[],[]] [[],[],[],[],[],[],[],[]] Tryz.mo rfl rfl (by kernel_rfl) (by kernel_rfl) (by kernel_rfl) (by exact rfl) (by kernel_rfl) ?_;intro K hK hG
     have hk16:K [(0,.slc false 0 0 0 ns.length),(2,.int .i64 m),(3,.int .i64 ht),(8,.ptr 2 0 0 0),(10,.mp 3 0),(15,.ptr 6 0 0 0)] ⟨7,[(6,uQ (.row ⟨true,true,34,4,1,fun _=>[.slc true 4 0 0 ns.length,.int .i64 ht,.nils,.slc true 5 0 0 m]⟩)),(5,uQ (.row ⟨true,false,58,3,m,fun _=>[SV.int .i64 0,SV.int .i64 0,SV.int .i64 0]⟩)),(4,uQ (.row ⟨true,false,62,3,ns.length,nds ns⟩)),(3,uQ (.blk true (.ints dn))),(2,uQ (.row ⟨true,true,34,4,1,fun _=>[.nils,.int .i64 0,.nils,.nils]⟩)),(0,uQ (.row ⟨false,false,62,3,ns.length,nds ns⟩))]⟩:=by
      refine hK _ _ ?_;clear hG hK K;refine z6 ?_;refine z4g [0,2,8,10,15,80,81] ?_;rw[cbs_zero m];refine z23 6 2 89 5 (lyR 8 (L.take 0)) rfl rfl rfl rfl rfl rfl rfl rfl (by dsimp only;omega) (by simp[SV.ltL,SV.lt]) ?_;simp only[setO,↓reduceIte,Nat.reduceEqDiff,Nat.reduceAdd,qP,qO,reduceCtorEq,uQ];refine z2x 3 1 (lyF true (L.take 0)) ?_;dsimp only;refine zb fun Q2 hN2 hX2 hR2 hE2=> ?_;refine zn (σ:=Nat) (fun lv=>lv<=h+1) (fun lv=>h+1-lv) (fun lv=>[(0,.slc false 0 0 0 ns.length),(2,.int .i64 m),(8,.ptr 2 0 0 0),(10,.mp 3 0),(15,.ptr 6 0 0 0),(80,.int .i64 (ht+1)),(81,.int .i64 lv)]) (fun lv=>⟨9,[(6,uQ (.row ⟨true,true,34,4,1,fun _=>[.slc true 4 0 0 ns.length,.int .i64 ht,.slc true 7 0 0 ((z52 ns lv).length),.slc true 5 0 0 m]⟩)),(7,uQ (.row ⟨true,false,89,5,(z52 ns lv).length,lyR 8 (L.take ((z52 ns lv).length))⟩)),(8,(3*((z52 ns lv).length)+1,fam true 3 1 (lyF true (L.take ((z52 ns lv).length))))),(5,uQ (.row ⟨true,false,58,3,m,cbs (List.replicate m noCb)⟩)),(4,uQ (.row ⟨true,false,62,3,ns.length,nds ns⟩)),(3,uQ (.blk true (.ints dn))),(2,uQ (.row ⟨true,true,34,4,1,fun _=>[.nils,.int .i64 0,.nils,.nils]⟩)),(0,uQ (.row ⟨false,false,62,3,ns.length,nds ns⟩))]⟩) 0 (qo _) (ρ:=id) (JoDm.g_lvlP id) ?_;rintro lv hlv QL2 hL2 hRL2 hEL2;refine z4g [0,2,8,10,15,80,81,82] ?_;refine z6 ?_;refine z7 _ rfl ?_ ?_
      ·intro h82;replace h82:=JoDm.nb h82;refine za (z6 (zb fun Q3 hN3 hX3 hR3 hE3=> ?_));refine z4g [0,2,8,10,15,16,80,81] ?_;refine sg [0,2,8,10,15,16,80,81,86,87,88] rfl ?_;intro K hK;iterate 2 (refine z18 z11 ?_)
       refine z18 z11 ?_;refine JoDm.c1 (lists_spec ns ns.length rfl lv (by omega)) (id) ?_;have hll:=lstN_len ns (lv:Int);have hil:=ind_len ns (lv:Int);have hsA:=fun i=>shp_at hc hn16 (lv:=lv) (i:=i) (by omega);have hps:=lvlP_len (ns:=ns) (n:=lv);have hpl:=lvlP_le (ns:=ns) (show lv+1<=h+1 by omega);obtain⟨ls,hls⟩:∃ls,lstN ns (lv:Int)=ls:=⟨_,rfl⟩;obtain⟨P,hP⟩:∃P,(z52 ns lv).length=P:=⟨_,rfl⟩;rw[hls] at hll hil hsA hps ⊢;rw[hP] at hps hsA ⊢;iterate 2 (refine z18 z11 ?_)
       refine z8 (z3y (hK _ _ ?_));clear hK K;have hPw:P+ls.length<=L.length:=by omega
       refine Cs.famE (2*ls.length) 3 1 lyE (fun i _=>lyE_0 i) ?_;dsimp only;have hout:∀q,q<P+0->lyR 8 (L.take P) q=SV.renPL (anP (fun q=>q) 8 (mgM 8 10 11 P)) (lyR 8 (L.take (P+0)) q):=fun q hq=>(lyR_renG (fun q=>q) 8 10 11 P (L.take P) hq).symm;refine z4o (fr':=[(0,.slc false 0 0 0 ns.length),(2,.int .i64 m),(8,.ptr 2 0 0 0),(10,.mp 3 0),(15,.ptr 6 0 0 0),(16,.int .i64 lv),(80,.int .i64 (ht+1)),(81,.int .i64 lv),(86,.slc true 9 0 0 ls.length),(87,.int .i64 ls.length),(88,.int .i64 0)]) (H':=⟨10,[(9,uQ (.row ⟨true,false,22,1,ls.length,lyI 8 P ls⟩)),(6,uQ (.row ⟨true,true,34,4,1,fun _=>[.slc true 4 0 0 ns.length,.int .i64 ht,.slc true 7 0 0 (P+0),.slc true 5 0 0 m]⟩)),(7,uQ (.row ⟨true,false,89,5,P+0,lyR 8 (L.take (P+0))⟩)),(8,(3*(P+ls.length)+1,fam true 3 1 (lyF true (pxL L (P+0) (ls.drop (0)))))),(5,uQ (.row ⟨true,false,58,3,m,cbs (List.replicate m noCb)⟩)),(4,uQ (.row ⟨true,false,62,3,ns.length,nds ns⟩)),(3,uQ (.blk true (.ints dn))),(2,uQ (.row ⟨true,true,34,4,1,fun _=>[.nils,.int .i64 0,.nils,.nils]⟩)),(0,uQ (.row ⟨false,false,62,3,ns.length,nds ns⟩))]⟩) _ (JoDm.ga (fun q=>q) (8) (mgM 8 10 11 P) ((z37 rfl qm (zr.of (fun _=>⟨rfl,rfl⟩) rfl (qc _) (fun q _=>(lyI_renG _ _ _ _ _ _ q).symm)) (Obj.lt_row.2 fun q _=>(lyI_lt _ _ _ _ q).2 (qd rfl)) (qd rfl) (z37 rfl qm (zr.of (fun _=>⟨rfl,rfl⟩) rfl (qc _) (fun _ _=>rfl)) (Obj.lt_row.2 fun q _=>by simp[SV.ltL,SV.lt]) (qd rfl) (z37 rfl qm (zr.of (fun _=>⟨rfl,rfl⟩) rfl (qc _) (hout)) (Obj.lt_row.2 fun q _=>(lyR_lt _ _ _ q).2 (qd rfl)) (qd rfl) (lyF_consG (by omega) rfl rfl rfl rfl (qd rfl) (z37 rfl qm (zr.of (fun _=>⟨rfl,rfl⟩) rfl (qc _) (fun q _=>(cbs_renP _ _ q).symm)) (Obj.lt_row.2 fun q _=>cbs_lt _ _ q) (qd rfl) (z37 rfl qm (zr.of (fun _=>⟨rfl,rfl⟩) rfl (qc _) (fun q _=>(z33 _ _ q).symm)) (Obj.lt_row.2 fun q _=>z4u _ _ q) (qd rfl) (z37 rfl qm ⟨id,rfl⟩ trivial (qd rfl) (z37 rfl qm (zr.of (fun _=>⟨rfl,rfl⟩) rfl (qc _) (fun _ _=>rfl)) (Obj.lt_row.2 fun q _=>by simp[SV.ltL,SV.lt]) (qd rfl) (z37 rfl qm (zr.of (fun h=>(by cases h)) rfl (qc _) (fun q _=>(z33 _ _ q).symm)) (Obj.lt_row.2 fun q _=>z4u _ _ q) (qd rfl) trivial)))))))))) (mgM_ok 8 10 11 P (by decide) rfl ⟨qd rfl,qd rfl,qd rfl⟩) (⟨Or.inr (mgM_ne (by decide)),⟨Or.inr (mgM_ne (by decide)),⟨Or.inr (mgM_ne (by decide)),⟨Or.inl rfl,⟨Or.inr (mgM_ne (by decide)),⟨Or.inr (mgM_ne (by decide)),⟨Or.inr (mgM_ne (by decide)),⟨Or.inr (mgM_ne (by decide)),⟨Or.inr (mgM_ne (by decide)),trivial⟩⟩⟩⟩⟩⟩⟩⟩⟩)) ?_
       refine zb fun Q4 hN4 hX4 hR4 hE4=> ?_;refine zn (σ:=Nat) (fun i=>i<=ls.length) (fun i=>ls.length-i) (fun i=>[(0,.slc false 0 0 0 ns.length),(2,.int .i64 m),(8,.ptr 2 0 0 0),(10,.mp 3 0),(15,.ptr 6 0 0 0),(16,.int .i64 lv),(80,.int .i64 (ht+1)),(81,.int .i64 lv),(86,.slc true 9 0 0 ls.length),(87,.int .i64 ls.length),(88,.int .i64 i)]) (fun i=>⟨10,[(9,uQ (.row ⟨true,false,22,1,ls.length,lyI 8 P ls⟩)),(6,uQ (.row ⟨true,true,34,4,1,fun _=>[.slc true 4 0 0 ns.length,.int .i64 ht,.slc true 7 0 0 (P+i),.slc true 5 0 0 m]⟩)),(7,uQ (.row ⟨true,false,89,5,P+i,lyR 8 (L.take (P+i))⟩)),(8,(3*(P+ls.length)+1,fam true 3 1 (lyF true (pxL L (P+i) (ls.drop (i)))))),(5,uQ (.row ⟨true,false,58,3,m,cbs (List.replicate m noCb)⟩)),(4,uQ (.row ⟨true,false,62,3,ns.length,nds ns⟩)),(3,uQ (.blk true (.ints dn))),(2,uQ (.row ⟨true,true,34,4,1,fun _=>[.nils,.int .i64 0,.nils,.nils]⟩)),(0,uQ (.row ⟨false,false,62,3,ns.length,nds ns⟩))]⟩) 0 (qo _) (ρ:=id) (z5w id) ?_;rintro i hi QL3 hL3 hRL3 hEL3;refine z4g [0,2,8,10,15,16,80,81,86,87,88,89] ?_;refine z6 ?_;refine z7 _ rfl ?_ ?_
       ·intro h89;replace h89:=JoDm.nb h89;obtain⟨hp1,hp2,hp3⟩:=hsA i (by omega);have hk3:=shp_keys hc hn16 hp1;have hsb:=shpL_sub hn16 hp1;obtain⟨c,hcc⟩:∃c,(shA (z36 ns h) (P+i)).2=c:=⟨_,rfl⟩;rw[hcc] at hp3 hk3 hsb;have hcl:c.length=(ind ls i).length:=by rw[<-hp3,qA]
        have hlA:lyA L (P+i)=newLy dn m ((lv:Int),c):=by
         rw[<-hL,lyA_new hp1];congr 1;exact Prod.ext hp2 hcc
        have hnth:∀j,j<c.length->nth (ind ls i) j=(nd c j).id:=fun j hj=>by
         rw[<-hp3,z2n (by rw[qA];exact hj),js,z3e hj]
        have hfn:∀j,j<c.length->findN ns (nth (ind ls i) j)=nd c j:=fun j hj=>by
         rw[hnth j hj];exact findN_at hc (hsb.1 _ (nd_mem hj))
        have hx0:lyA (pxL L (P+i) (ls.drop i)) (P+i)=idLy (ind ls i):=by
         have:=pxL_hi (L:=L) (P:=P+i) (l:=ls.drop i) (q:=0) (by omega) (by rw[QP];omega);rw[jg] at this;rw[this,ind_drop,jg]
        have hxi:(lyA (pxL L (P+i) (ls.drop i)) (P+i)).ids=ind ls i:=by rw[hx0];rfl
        have hxl:=Qj List.length hxi
        have hc1:0<c.length:=by
         cases c with
         |nil=>exact absurd rfl hsb.2
         |cons _ _=>exact jh _
        refine za (z6 (zb fun Q5 hN5 hX5 hR5 hE5=> ?_));refine z4g [0,2,8,10,15,16,18,80,81,86,87,88] ?_;refine z4g [0,2,8,10,15,16,18,19,80,81,86,87,88] ?_;refine z4g [0,2,8,10,15,16,18,19,20,80,81,86,87,88] ?_;refine z6 ?_;refine z4g [0,2,8,10,15,16,18,19,20,80,81,86,87,88,92,93,94] ?_;refine z29 19 9 1 (strsK ((keyL c).take 0)) rfl ?_;dsimp only;refine z29 20 4 1 (bos ((innL dn c).take 0)) rfl ?_;dsimp only;refine zb fun Q6 hN6 hX6 hR6 hE6=> ?_;refine zn (σ:=Nat) (fun j=>j<=c.length) (fun j=>c.length-j) (fun j=>[(0,.slc false 0 0 0 ns.length),(2,.int .i64 m),(8,.ptr 2 0 0 0),(10,.mp 3 0),(15,.ptr 6 0 0 0),(16,.int .i64 lv),(18,.slc true 8 (3*(P+i)+1) 0 (ind ls i).length),(19,.slc true 10 0 0 j),(20,.slc true 11 0 0 j),(80,.int .i64 (ht+1)),(81,.int .i64 lv),(86,.slc true 9 0 0 ls.length),(87,.int .i64 ls.length),(88,.int .i64 i),(92,.slc true 8 (3*(P+i)+1) 0 (ind ls i).length),(93,.int .i64 (ind ls i).length),(94,.int .i64 j)]) (fun j=>⟨12,[(11,uQ (.row ⟨true,false,4,1,j,bos ((innL dn c).take j)⟩)),(10,uQ (.row ⟨true,false,9,1,j,strsK ((keyL c).take j)⟩)),(9,uQ (.row ⟨true,false,22,1,ls.length,lyI 8 P ls⟩)),(6,uQ (.row ⟨true,true,34,4,1,fun _=>[.slc true 4 0 0 ns.length,.int .i64 ht,.slc true 7 0 0 (P+i),.slc true 5 0 0 m]⟩)),(7,uQ (.row ⟨true,false,89,5,P+i,lyR 8 (L.take (P+i))⟩)),(8,(3*(P+ls.length)+1,fam true 3 1 (lyF true (pxL L (P+i) (ls.drop (i)))))),(5,uQ (.row ⟨true,false,58,3,m,cbs (List.replicate m noCb)⟩)),(4,uQ (.row ⟨true,false,62,3,ns.length,nds ns⟩)),(3,uQ (.blk true (.ints dn))),(2,uQ (.row ⟨true,true,34,4,1,fun _=>[.nils,.int .i64 0,.nils,.nils]⟩)),(0,uQ (.row ⟨false,false,62,3,ns.length,nds ns⟩))]⟩) 0 (qo _) (ρ:=id) (z5w id) ?_
        rintro j hj QL4 hL4 hRL4 hEL4;refine z4g [0,2,8,10,15,16,18,19,20,80,81,86,87,88,92,93,94,95] ?_;refine z6 ?_;refine z7 _ rfl ?_ ?_
        ·intro h95;replace h95:=JoDm.nb h95;refine za (z6 ?_);refine Cs.blockG ?_;intro Q7 hN7 hX7 hR7 hE7 hB7;refine z4g [0,2,8,10,15,16,18,19,20,22,80,81,86,87,88,92,93,94] ?_;refine sg [0,2,8,10,15,16,18,19,20,22,23,80,81,86,87,88,92,93,94] rfl ?_;intro K hK;iterate 2 (refine z18 z11 ?_)
         refine z18 z11 ?_;rw[hxi];refine JoDm.c1 (find_spec ns (nth (ind ls i) j) ns.length rfl (by omega)) (id) ?_;rw[hfn j (by omega)];iterate 6 (refine z18 z11 ?_)
         refine z8 (z3y (hK _ _ ?_));clear hK K;refine Cs.regTreeN [0,2,8,10,15,16,18,19,20,80,81,86,87,88,92,93,94] (.op 0 (.op 1 (.op 2 (.op 5 (.op 6 (.op 7 (.two 3 8 (.two 4 8 (.op 8 (.op 9 (.op 10 (.op 11 (.op 12 .done))))) (.two 4 9 (.op 9 (.op 10 (.op 11 (.op 12 .done)))) (.op 4 (.op 10 (.op 11 (.op 12 .done)))))) (.two 3 9 (.two 4 9 (.op 9 (.op 10 (.op 11 (.op 12 .done)))) (.op 4 (.op 10 (.op 11 (.op 12 .done))))) (.op 3 (.op 4 (.op 10 (.op 11 (.op 12 .done))))))))))))) [[],[],[1],[1,2],[0,1,2,3],[],[],[],[6,7],[6,7,8],[0,1,2,3,4,5,6,7,8,9],[0,1,2,3,4,5,6,7,8,9,10],[0,1,2,3,4,5,6,7,8,9,10,11]] [[],[],[],[],[10],[],[],[],[],[],[11],[],[]] [[],[],[],[],[10],[10],[10],[10],[10],[10],[10,11],[10,11],[10,11]] hB7 Tryz.mo rfl rfl (by kernel_rfl) (by kernel_rfl) (by kernel_rfl) (by exact rfl) (by kernel_rfl) ?_;intro K hK hG
         have hk29:K [(0,.slc false 0 0 0 ns.length),(2,.int .i64 m),(8,.ptr 2 0 0 0),(10,.mp 3 0),(15,.ptr 6 0 0 0),(16,.int .i64 lv),(18,.slc true 8 (3*(P+i)+1) 0 (ind ls i).length),(19,.slc true 14 0 0 (j+1)),(20,.slc true 16 0 0 (j+1)),(80,.int .i64 (ht+1)),(81,.int .i64 lv),(86,.slc true 9 0 0 ls.length),(87,.int .i64 ls.length),(88,.int .i64 i),(92,.slc true 8 (3*(P+i)+1) 0 (ind ls i).length),(93,.int .i64 (ind ls i).length),(94,.int .i64 j)] ⟨17,[(16,uQ (.row ⟨true,false,4,1,j+1,bos ((innL dn c).take (j+1))⟩)),(14,uQ (.row ⟨true,false,9,1,j+1,strsK ((keyL c).take (j+1))⟩)),(9,uQ (.row ⟨true,false,22,1,ls.length,lyI 8 P ls⟩)),(6,uQ (.row ⟨true,true,34,4,1,fun _=>[.slc true 4 0 0 ns.length,.int .i64 ht,.slc true 7 0 0 (P+i),.slc true 5 0 0 m]⟩)),(7,uQ (.row ⟨true,false,89,5,P+i,lyR 8 (L.take (P+i))⟩)),(8,(3*(P+ls.length)+1,fam true 3 1 (lyF true (pxL L (P+i) (ls.drop (i)))))),(5,uQ (.row ⟨true,false,58,3,m,cbs (List.replicate m noCb)⟩)),(4,uQ (.row ⟨true,false,62,3,ns.length,nds ns⟩)),(3,uQ (.blk true (.ints dn))),(2,uQ (.row ⟨true,true,34,4,1,fun _=>[.nils,.int .i64 0,.nils,.nils]⟩)),(0,uQ (.row ⟨false,false,62,3,ns.length,nds ns⟩))]⟩:=by
          refine hK _ _ ?_;clear hG hK K;refine zd (hN7 _ _ ?_);refine JoDm.rg [0,2,8,10,15,16,18,19,20,80,81,86,87,88,92,93,94] ?_;refine zd (hL4 _ _ ?_);rw[show(j:Int)+1=((j+1:Nat):Int) from by omega];exact⟨j+1,⟨by omega,by omega⟩,fun q=>if q=10 then 14 else if q=11 then 16 else q,(z5w (fun q=>if q=10 then 14 else if q=11 then 16 else q))⟩
         refine z18 (z16 _ [] [] [] rfl rfl rfl rfl) ?_;refine z18 (z16 _ [] [] [] rfl rfl rfl rfl) ?_;refine z18 (z16 _ [] [] [] rfl rfl rfl rfl) ?_;refine z18 (z16 _ [] [10] [] rfl rfl rfl rfl) ?_;refine z18 (z16 _ [] [10] [] rfl rfl rfl rfl) ?_;refine z18 (z16 _ [] [10] [] rfl rfl rfl rfl) ?_;refine z26 ?_ ?_
         ·skip
          refine z18 (z16 _ [] [] [] rfl rfl rfl rfl) ?_;refine z26 ?_ ?_
          ·skip
           refine z18 (z16 _ [10] [10] [] rfl rfl rfl rfl) ?_;refine z18 (z16 _ [] [10] [] rfl rfl rfl rfl) ?_;refine z18 (z16 _ [] [10] [] rfl rfl rfl rfl) ?_;refine z18 (z16 _ [11] [10,11] [] rfl rfl rfl rfl) ?_;refine z18 (z16 _ [] [10,11] [] rfl rfl rfl rfl) ?_;refine z18 (z16 _ [] [10,11] [] rfl rfl rfl rfl) ?_;refine z17 ?_;refine z3y ?_;rw[app_strs1 (by omega),app_bos1 (by omega) _ (hnth j (by omega))];exact hG _ _ _ _ id (z5w id) hk29
          ·skip
           refine z18 (z16 _ [] [10] [] rfl rfl rfl rfl) ?_;refine z26 ?_ ?_
           ·skip
            refine z18 (z16 _ [10] [10] [] rfl rfl rfl rfl) ?_;refine z18 (z16 _ [] [10] [] rfl rfl rfl rfl) ?_;refine z18 (z16 _ [11] [10,11] [] rfl rfl rfl rfl) ?_;refine z18 (z16 _ [] [10,11] [] rfl rfl rfl rfl) ?_;refine z18 (z16 _ [] [10,11] [] rfl rfl rfl rfl) ?_;refine z17 ?_;refine z3y ?_;rw[app_strs1 (by omega),app_bos1 (by omega) _ (hnth j (by omega))];exact hG _ _ _ _ id (z5w id) hk29
           ·skip
            refine z18 (z16 _ [] [10] [] rfl rfl rfl rfl) ?_;refine z18 (z16 _ [10] [10] [] rfl rfl rfl rfl) ?_;refine z18 (z16 _ [11] [10,11] [] rfl rfl rfl rfl) ?_;refine z18 (z16 _ [] [10,11] [] rfl rfl rfl rfl) ?_;refine z18 (z16 _ [] [10,11] [] rfl rfl rfl rfl) ?_;refine z17 ?_;refine z3y ?_;rw[app_strs1 (by omega),app_bos1 (by omega) _ (hnth j (by omega))];exact hG _ _ _ _ (fun q=>if q=14 then 15 else q) (z5w (fun q=>if q=14 then 15 else q)) hk29
         ·skip
          refine z18 (z16 _ [] [10] [] rfl rfl rfl rfl) ?_;refine z26 ?_ ?_
          ·skip
           refine z18 (z16 _ [] [] [] rfl rfl rfl rfl) ?_;refine z26 ?_ ?_
           ·skip
            refine z18 (z16 _ [10] [10] [] rfl rfl rfl rfl) ?_;refine z18 (z16 _ [] [10] [] rfl rfl rfl rfl) ?_;refine z18 (z16 _ [11] [10,11] [] rfl rfl rfl rfl) ?_;refine z18 (z16 _ [] [10,11] [] rfl rfl rfl rfl) ?_;refine z18 (z16 _ [] [10,11] [] rfl rfl rfl rfl) ?_;refine z17 ?_;refine z3y ?_;rw[app_strs1 (by omega),app_bos1 (by omega) _ (hnth j (by omega))];exact hG _ _ _ _ id (z5w id) hk29
           ·skip
            refine z18 (z16 _ [] [10] [] rfl rfl rfl rfl) ?_;refine z18 (z16 _ [10] [10] [] rfl rfl rfl rfl) ?_;refine z18 (z16 _ [11] [10,11] [] rfl rfl rfl rfl) ?_;refine z18 (z16 _ [] [10,11] [] rfl rfl rfl rfl) ?_;refine z18 (z16 _ [] [10,11] [] rfl rfl rfl rfl) ?_;refine z17 ?_;refine z3y ?_;rw[app_strs1 (by omega),app_bos1 (by omega) _ (hnth j (by omega))];exact hG _ _ _ _ (fun q=>if q=14 then 15 else q) (z5w (fun q=>if q=14 then 15 else q)) hk29
          ·skip
           refine z18 (z16 _ [] [10] [] rfl rfl rfl rfl) ?_;refine z18 (z16 _ [] [] [] rfl rfl rfl rfl) ?_;refine z18 (z16 _ [10] [10] [] rfl rfl rfl rfl) ?_;refine z18 (z16 _ [11] [10,11] [] rfl rfl rfl rfl) ?_;refine z18 (z16 _ [] [10,11] [] rfl rfl rfl rfl) ?_;refine z18 (z16 _ [] [10,11] [] rfl rfl rfl rfl) ?_;refine z17 ?_;refine z3y ?_;rw[app_strs1 (by omega),app_bos1 (by omega) _ (hnth j (by omega))];exact hG _ _ _ _ (fun q=>if q=14 then 15 else q) (z5w (fun q=>if q=14 then 15 else q)) hk29
        ·intro h95;replace h95:=JoDm.nb h95;have hjc:j=c.length:=by omega
         subst hjc;have hkl:=z2r c;have hkm:=z49 dn c;rw[Qt (show(keyL c).length<=c.length by rw[z2r];exact qc _),Qt (show(innL dn c).length<=c.length by rw[z49];exact qc _)];refine zm (hEL4 _ _ _ (hX6 _ _ ?_));refine sg [0,2,8,10,15,16,18,19,20,25,80,81,86,87,88] rfl ?_;intro K hK;iterate 4 (refine z18 z11 ?_)
         refine z18 z11 ?_;rw[hxi];refine JoDm.c1 (find_spec ns (nth (ind ls i) 0) ns.length rfl (by omega)) (id) ?_;rw[hfn 0 (by omega)];iterate 6 (refine z18 z11 ?_)
         refine z8 (z3y (hK _ _ ?_));clear hK K;refine sg [0,2,8,10,15,16,18,25,27,80,81,86,87,88] rfl ?_;intro K hK;iterate 3 (refine z18 z11 ?_)
         refine z18 z11 ?_;refine JoDm.c1 (newP_spec (keyL c) (innL dn c) c.length m (z2r c) (z49 dn c) hk3.2.2 m1 m8 hk3.1 hk3.2.1) (fun q=>if q=0 then 10 else if q=1 then 11 else q) ?_;iterate 6 (refine z18 z11 ?_)
         refine z8 (z3y (hK _ _ ?_));clear hK K;refine JoDm.rg [0,2,8,10,15,16,80,81,86,87,88] ?_;refine zd (hN5 _ _ ?_);have hT:∀q,q≠P+i->lyA (pxL L (P+i+1) (ls.drop (i+1))) q=lyA (pxL L (P+i) (ls.drop i)) q:=fun q hq=>pxL_step hPw (by omega) hq;have hx:lyA (pxL L (P+i+1) (ls.drop (i+1))) (P+i)=newLy dn m ((lv:Int),c):=by rw[pxL_lo (by omega) (by omega),hlA]
         have hids:(newLy dn m ((lv:Int),c)).ids=ind ls i:=hp3
         have hout:∀q,q<P+i+1->app (lyR 8 (L.take (P+i))) (P+i) (z42 5 1 [SV.int .i64 lv,SV.int .u32 (nd c 0).word,SV.slc true 8 (3*(P+i)+1) 0 (ind ls i).length,SV.slc true 13 0 0 (newK (keyL c) (innL dn c) c.length).length,SV.slc true 14 0 0 (List.replicate m noPr).length]) q=SV.renPL (mvM (fun q=>if q=7 then 17 else q) 8 (ms2 (P+i) 13 14)) (lyR 8 (L.take (P+i+1)) q):=fun q hq=>by
          have e:=lyR_renM2 (fun q=>if q=7 then 17 else q) 8 (P+i) 13 14 (L.take (P+i+1)) q;rw[show(if(8:Nat)=7 then 17 else 8)=8 from rfl] at e;rw[e]
          split
          ·rename_i e;subst e;rw[app,qb (by omega),jm,take_ly (by omega),hlA,hids];simp only[newLy];rw[hdN_nd hc1];rfl
          ·rename_i e;rw[app,qf (by omega),lyR,lyR,take_ly (by omega),take_ly (by omega)]
         refine z4o (fr':=[(0,.slc false 0 0 0 ns.length),(2,.int .i64 m),(8,.ptr 2 0 0 0),(10,.mp 3 0),(15,.ptr 6 0 0 0),(16,.int .i64 lv),(80,.int .i64 (ht+1)),(81,.int .i64 lv),(86,.slc true 9 0 0 ls.length),(87,.int .i64 ls.length),(88,.int .i64 i)]) (H':=⟨10,[(9,uQ (.row ⟨true,false,22,1,ls.length,lyI 8 P ls⟩)),(6,uQ (.row ⟨true,true,34,4,1,fun _=>[.slc true 4 0 0 ns.length,.int .i64 ht,.slc true 7 0 0 (P+i+1),.slc true 5 0 0 m]⟩)),(7,uQ (.row ⟨true,false,89,5,P+i+1,lyR 8 (L.take (P+i+1))⟩)),(8,(3*(P+ls.length)+1,fam true 3 1 (lyF true (pxL L (P+i+1) (ls.drop (i+1)))))),(5,uQ (.row ⟨true,false,58,3,m,cbs (List.replicate m noCb)⟩)),(4,uQ (.row ⟨true,false,62,3,ns.length,nds ns⟩)),(3,uQ (.blk true (.ints dn))),(2,uQ (.row ⟨true,true,34,4,1,fun _=>[.nils,.int .i64 0,.nils,.nils]⟩)),(0,uQ (.row ⟨false,false,62,3,ns.length,nds ns⟩))]⟩) _ (JoDm.gm (fun q=>if q=7 then 17 else q) (8) (ms2 (P+i) 13 14) (ms2_ok (P+i) (by decide) ⟨rfl,rfl⟩ ⟨qd rfl,qd rfl⟩) ((z13 (by decide) rfl qm (zr.of (fun _=>⟨rfl,rfl⟩) rfl (qc _) (fun q _=>(show lyI 8 P ls q=SV.renPL _ (lyI 8 P ls q) by rw[lyI_renM2];rfl))) (Obj.lt_row.2 fun q _=>(lyI_lt _ _ _ _ q).2 (qd rfl)) (qd rfl) (z13 (by decide) rfl qm (zr.of (fun _=>⟨rfl,rfl⟩) rfl (qc _) (fun _ _=>rfl)) (Obj.lt_row.2 fun q _=>by simp[SV.ltL,SV.lt]) (qd rfl) (z13 (by decide) rfl qm (zr.of (fun _=>⟨rfl,rfl⟩) rfl (qc _) (hout)) (Obj.lt_row.2 fun q _=>(lyR_lt _ _ _ q).2 (qd rfl)) (qd rfl) (lyF_cons2 (x:=newLy dn m ((lv:Int),c)) rfl rfl rfl hx (by rw[hx0];exact hids) hT (qd rfl) (z13 (by decide) rfl qm (zr.of (fun _=>⟨rfl,rfl⟩) rfl (qc _) (fun q _=>(cbs_renP _ _ q).symm)) (Obj.lt_row.2 fun q _=>cbs_lt _ _ q) (qd rfl) (z13 (by decide) rfl qm (zr.of (fun _=>⟨rfl,rfl⟩) rfl (qc _) (fun q _=>(z33 _ _ q).symm)) (Obj.lt_row.2 fun q _=>z4u _ _ q) (qd rfl) (z13 (by decide) rfl qm ⟨id,rfl⟩ trivial (qd rfl) (z13 (by decide) rfl qm (zr.of (fun _=>⟨rfl,rfl⟩) rfl (qc _) (fun _ _=>rfl)) (Obj.lt_row.2 fun q _=>by simp[SV.ltL,SV.lt]) (qd rfl) (z13 (by decide) rfl qm (zr.of (fun h=>(by cases h)) rfl (qc _) (fun q _=>(z33 _ _ q).symm)) (Obj.lt_row.2 fun q _=>z4u _ _ q) (qd rfl) trivial))))))))))) ?_
         refine JoDm.rg [0,2,8,10,15,16,80,81,86,87,88] ?_;refine zd (hL3 _ _ ?_);rw[jD P i 1];rw[show(i:Int)+1=((i+1:Nat):Int) from by omega];exact⟨i+1,⟨by omega,by omega⟩,id,(z5w id)⟩
       ·intro h89;replace h89:=JoDm.nb h89;refine zm (hEL3 _ _ _ (hX4 _ _ (zd (hN3 _ _ ?_))));refine JoDm.rg [0,2,8,10,15,80,81] ?_;refine zd (hL2 _ _ ?_);have hie:i=ls.length:=by omega
        subst hie;rw[List.drop_length,pxL_nil];rw[<-hps,show(lv:Int)+1=((lv+1:Nat):Int) from by omega];exact⟨lv+1,⟨by omega,by omega⟩,id,(z5w id)⟩
      ·intro h82;replace h82:=JoDm.nb h82;have hlh:lv=h+1:=by omega
       subst hlh;rw[hLl,QZ];refine zm (hEL2 _ _ _ (hX2 _ _ ?_));refine z4g [8,9] ?_;refine ze (hQ _ _ ?_);refine zu (fun q=>if q=2 then 4 else if q=3 then 7 else if q=4 then 8 else q) (.tup [.agg [.slc true 2 0 0 ns.length,.int .i64 ht,.slc true 3 0 0 L.length,.slc true 5 0 0 m],.int .i64 0]) (⟨6,[(2,uQ (.row ⟨true,false,62,3,ns.length,nds ns⟩)),(3,uQ (.row ⟨true,false,89,5,L.length,lyR 4 L⟩)),(4,(3*L.length+1,fam true 3 1 (lyF true L))),(5,uQ (.row ⟨true,false,58,3,m,cbs (List.replicate m noCb)⟩))]⟩) (.inl rfl) ?_;refine JoDm.ou ?_;refine⟨JoDm.s,JoDm.s,(z5w (fun q=>if q=2 then 4 else if q=3 then 7 else if q=4 then 8 else q)),JoDm.s,?_⟩
       all_goals first|trivial|exact⟨rfl,trivial⟩
     refine z18 (z16 _ [] [] [] rfl rfl rfl rfl) ?_;refine z18 (z16 _ [] [] [] rfl rfl rfl rfl) ?_;refine z18 (z16 _ [] [] [] rfl rfl rfl rfl) ?_;refine runT_three ?_ ?_ ?_
     ·skip
      refine z18 (z16 _ [] [] [] rfl rfl rfl rfl) ?_;refine JoDm.c1 (z5p ns ns.length rfl (by omega)) (id) ?_;refine z26 ?_ ?_
      ·skip
       refine z18 (z16 _ [] [] [] rfl rfl rfl rfl) ?_;refine z18 (z16 _ [] [] [] rfl rfl rfl rfl) ?_;refine z18 (z16 _ [] [] [6] rfl rfl rfl rfl) ?_;refine z18 (z16 _ [6] [] [6] rfl rfl rfl rfl) ?_;refine z17 ?_;refine z3y ?_;exact hG _ _ _ _ id (z5w id) hk16
      ·skip
       refine z18 (z16 _ [] [] [5] rfl rfl rfl rfl) ?_;refine z18 (z16 _ [5] [] [5] rfl rfl rfl rfl) ?_;refine z18 (z16 _ [5] [] [5] rfl rfl rfl rfl) ?_;refine z18 (z16 _ [5] [] [5] rfl rfl rfl rfl) ?_;refine z17 ?_;refine z3y ?_;exact hG _ _ _ _ (fun q=>if q=5 then 6 else if q=6 then 5 else q) (z5w (fun q=>if q=5 then 6 else if q=6 then 5 else q)) hk16
     ·skip
      refine z18 (z16 _ [] [] [] rfl rfl rfl rfl) ?_;refine z26 ?_ ?_
      ·skip
       refine z18 (z16 _ [] [] [] rfl rfl rfl rfl) ?_;refine JoDm.c1 (z5p ns ns.length rfl (by omega)) (id) ?_;refine z18 (z16 _ [] [] [] rfl rfl rfl rfl) ?_;refine z18 (z16 _ [] [] [6] rfl rfl rfl rfl) ?_;refine z18 (z16 _ [6] [] [6] rfl rfl rfl rfl) ?_;refine z17 ?_;refine z3y ?_;exact hG _ _ _ _ (fun q=>if q=4 then 5 else if q=5 then 4 else q) (z5w (fun q=>if q=4 then 5 else if q=5 then 4 else q)) hk16
      ·skip
       refine z18 (z16 _ [] [] [5] rfl rfl rfl rfl) ?_;refine z18 (z16 _ [5] [] [5] rfl rfl rfl rfl) ?_;refine JoDm.c1 (z5p ns ns.length rfl (by omega)) (id) ?_;refine z18 (z16 _ [5] [] [5] rfl rfl rfl rfl) ?_;refine z18 (z16 _ [5] [] [5] rfl rfl rfl rfl) ?_;refine z17 ?_;refine z3y ?_;exact hG _ _ _ _ (fun q=>if q=4 then 6 else if q=5 then 4 else if q=6 then 5 else q) (z5w (fun q=>if q=4 then 6 else if q=5 then 4 else if q=6 then 5 else q)) hk16
     ·skip
      refine z18 (z16 _ [] [] [4] rfl rfl rfl rfl) ?_;refine z26 ?_ ?_
      ·skip
       refine z18 (z16 _ [4] [] [4] rfl rfl rfl rfl) ?_;refine JoDm.c1 (z5p ns ns.length rfl (by omega)) (id) ?_;refine z18 (z16 _ [4] [] [4] rfl rfl rfl rfl) ?_;refine z18 (z16 _ [4] [] [4] rfl rfl rfl rfl) ?_;refine z18 (z16 _ [4] [] [4] rfl rfl rfl rfl) ?_;refine z17 ?_;refine z3y ?_;exact hG _ _ _ _ (fun q=>if q=4 then 5 else if q=5 then 6 else if q=6 then 4 else q) (z5w (fun q=>if q=4 then 5 else if q=5 then 6 else if q=6 then 4 else q)) hk16
      ·skip
       refine z18 (z16 _ [4] [] [4] rfl rfl rfl rfl) ?_;refine z18 (z16 _ [4] [] [4] rfl rfl rfl rfl) ?_;refine JoDm.c1 (z5p ns ns.length rfl (by omega)) (id) ?_;refine z18 (z16 _ [4] [] [4] rfl rfl rfl rfl) ?_;refine z18 (z16 _ [4] [] [4] rfl rfl rfl rfl) ?_;refine z17 ?_;refine z3y ?_;exact hG _ _ _ _ (fun q=>if q=4 then 6 else if q=6 then 4 else q) (z5w (fun q=>if q=4 then 6 else if q=6 then 4 else q)) hk16
end
end Go.Proofs
namespace Go.Sk
open Go.RowKit
theorem zf.nil {P : Program} {f : FuncId} {args args' : List SV} {n : Nat} {os os1 : List (Nat × Nat × (Nat -> Obj))} {e : TypeId} {va : Bool} {sz : Nat} {F : Nat -> List SV} {R : SV -> AH -> Prop}
    (h:zf P f args ⟨n+1,os1⟩ R) (hl:∀id k,look os1 id k=look ((n,uQ (.row ⟨false,va,e,sz,0,F⟩))::os) id k) (hm:∀y∈os1,(y.2.2 0).own=true->y∈os)
    (hd:∀β vs,z2p β args' vs->z2p β args vs) (hlt1:SV.ltL (n+1) args):zf P f args' ⟨n,os⟩ R:=by
  intro X β w vs hP hm0 hw hb ho hS hv hlt;have hm0:X.m0=n:=hm0
  have hS1:St X (β.set n fun _=>none) ⟨n+1,(n,uQ (.row ⟨false,va,e,sz,0,F⟩))::os⟩ w:=
    St.new' (H:=⟨n,os⟩) hS (fun k L _ he=>by cases he) (fun k k' L L' h h' he he' _=>by cases he) (fun k hk=> .inl ⟨rfl,rfl⟩) (fun k hk i j s hi _=>absurd hi (qR _))
  have hrow:∀{k o},look ((n,uQ (.row ⟨false,va,e,sz,0,F⟩))::os) n k=some o->o.own=false:=fun {k o} g=>by
    rw[z1i,qf rfl] at g
    split at g
    · cases g;rfl
    · cases g
  have hne:∀{id k},id≠n->look ((n,uQ (.row ⟨false,va,e,sz,0,F⟩))::os) id k=look os id k:=fun {id k} g=>by rw[z1i,qb (QD g)]
  have how:(fun id k=> ∃o,look os1 id k=some o/\o.own=true)=fun id k=> ∃o,look os id k=some o/\o.own=true:=by
    funext id k
    apply propext
    constructor
    · rintro⟨o,g1,g2⟩;rw[hl] at g1
      by_cases g:id=n
      · subst g;rw[hrow g1] at g2;cases g2
      · rw[hne g] at g1;exact⟨o,g1,g2⟩
    · rintro⟨o,g1,g2⟩;have:id<n:=(hS.lt _ _ _ g1).1;exact⟨o,by rw[hl,hne (by omega)];exact g1,g2⟩
  have hkl:∀{id k},X.own0 id k->id<n:=fun {id k} g=>by have:=(hS.keep _ _ g).1;omega
  have hS2:St {X with m0:=n+1,β0:=β.set n fun _=>none} (β.set n fun _=>none) ⟨n+1,os1⟩ w:=by
    refine⟨hS1.os,hS1.tape,hS1.output,hS1.size,fun _ _ _=>rfl,fun id k o g=>hS1.holds id k o (by rw[<-hl];exact g),fun id k id' k' o o' L L' g1 g2=>hS1.sep id k id' k' o o' L L' (by rw[<-hl];exact g1) (by rw[<-hl];exact g2),fun b hb' hn=>hS1.old b hb' fun id k o L g=>hn id k o L (by rw[hl];exact g),fun id k o L g go gb=> ?_,fun id k g=> ?_,qc _,fun id k o g=>hS1.lt id k o (by rw[<-hl];exact g),?_,hS1.drawn⟩
    · rw[hl] at g;rcases hS1.mine id k o L g go gb with q|q
      · exact .inl ⟨JM (hm0 ▸ q.1),q.2⟩
      · refine .inr ⟨?_,q.2⟩;have:id≠n:=fun e=>by subst e;rw[hrow g] at go;cases go
        have:=q.1
        show n+1<=id
        omega
    · obtain⟨g1,o,g2,g3⟩:=hS1.keep id k g;exact⟨JM (hkl g),o,by rw[hl];exact g2,g3⟩
    · refine⟨fun g hg=> ?_,fun g hg=> ?_⟩
      · obtain⟨a,b,c⟩:=hS1.tabs.1 g hg
        exact ⟨a, b, fun id k L q1 q2 => c id k L q1 (by rw [hb]; have := hkl q1; have e : (β.set n fun _ => none) id k = β id k := by unfold Env.set; rw [qb (by omega)]
                                                         rw[<-e];exact q2)⟩
      · obtain⟨a,b,c⟩:=hS1.tabs.2 g hg
        exact ⟨a, b, fun id k L q1 q2 => c id k L q1 (by rw [hb]; have := hkl q1; have e : (β.set n fun _ => none) id k = β id k := by unfold Env.set; rw [qb (by omega)]
                                                         rw[<-e];exact q2)⟩
  refine(h {X with m0:=n+1,β0:=β.set n fun _=>none} _ w vs hP rfl hw rfl (ho.trans how.symm) hS2 (hd _ _ (z5b (Env.agree_set β n _) _ _ hlt hv)) hlt1).mono ?_;rintro e w' ⟨v,rfl,β',s,H',hR,h1,h2,h3,h4⟩;refine⟨v,rfl,β',s,H',hR,fun x hx=> ?_,h2,h3,?_⟩
  · obtain⟨q1,q2⟩:=h1 x hx;refine⟨q1,?_⟩;rcases q2 with q2|⟨y,y1,y2,y3,y4⟩
    · exact .inl (ym q2)
    · exact .inr ⟨y,hm y y1 y4,y2,y3,y4⟩
  · refine⟨h4.os,h4.tape,h4.output,h4.size,fun id k hid=> ?_,h4.holds,h4.sep,h4.old,fun id k o L g go gb=> ?_,fun id k g=> ?_,?_,h4.lt,hS.tabs,h4.drawn⟩
    · rw[hm0] at hid;rw[h4.fix id k (JM hid),hb]
      show(β.set n fun _=>none) id k=β id k
      unfold Env.set;rw[qb (by omega)]
    · rcases h4.mine id k o L g go gb with q|q
      · exact .inl ⟨by rw[hm0];exact hkl q.2,q.2⟩
      · exact .inr ⟨by rw[hm0];exact ym q.1,q.2⟩
    · exact⟨by rw[hm0];exact hkl g,(h4.keep id k g).2⟩
    · rw[hm0];exact ym h4.m0
end Go.Sk
namespace Go.Proofs
open Tryz
open Go.Sk
section
theorem New_nil (ns:List Nd)(m n:Nat)(ht:Int)(hn:ns.length=n)(hc:z1j ns=0)(hs:ns.length<=19)(m1:1<=m)(m8:m<=8)(h0:0<=ht)(h16:ht<=16):
  zf prog 16 [.slc false 0 0 0 n,.nils,.int .i64 m,.int .i64 ht] ⟨1,[(0,uQ (.row ⟨false,false,62,3,n,nds ns⟩))]⟩
   (fun s H1=>s= .tup [.agg [.slc true 2 0 0 n,.int .i64 ht,.slc true 3 0 0 (z3x ns [] m ht).ly.length,.slc true 5 0 0 m],.int .i64 0]/\H1=⟨6,[(2,uQ (.row ⟨true,false,62,3,n,nds ns⟩)),(3,uQ (.row ⟨true,false,89,5,(z3x ns [] m ht).ly.length,lyR 4 (z3x ns [] m ht).ly⟩)),(4,(3*(z3x ns [] m ht).ly.length+1,fam true 3 1 (lyF true (z3x ns [] m ht).ly))),(5,uQ (.row ⟨true,false,58,3,m,cbs (List.replicate m noCb)⟩))]⟩):=by
 refine(New_ok ns [] m n 0 ht hn rfl hc hs m1 m8 h0 h16 (by decide) (fun v hv=>by cases hv) JD).nil (n:=1) (e:=3) (va:=false) (sz:=1) (F:=ints []) (fun id k=> ?_) (fun y hy ho=> ?_) (fun β vs hv=> ?_) (by simp[SV.ltL,SV.lt])
 ·rw[z1i,z1i,z1i,z1i]
  by_cases g:id=0
  ·subst g;rfl
  ·by_cases g1:id=1
   ·subst g1;rfl
   ·rw[qb (QD g),qb (QD g1),qb (QD g),qb (QD g1)]
 ·simp only[qB,QQ,Je] at hy;rcases hy with rfl|rfl
  ·exact qn ..
  ·cases ho
 ·obtain⟨a,l,h1,⟨b,l2,h2,h3,e2⟩,e1⟩:=hv;have h2:b= .slice none 0 0:=h2;subst h2;exact⟨a,l,h1,⟨_,l2,⟨none,0,rfl,qc _,fun h=>absurd h (j8 _)⟩,h3,e2⟩,e1⟩
end
section
def lyW (f:Nat)(L:List Ly)(i b c:Nat)(r:List Cl×List Pr):Nat->List SV:=fun j=>if j=i then [.int .i64 (lyA L j).lvl,.int .u32 (lyA L j).wd,.slc true f (3*j+1) 0 (lyA L j).ids.length,.slc true b 0 0 r.1.length,.slc true c 0 0 r.2.length] else lyR f L j
theorem lyW_ren (ρ:Nat->Nat)(f:Nat)(L:List Ly)(i b c:Nat)(r:List Cl×List Pr):(fun j=>SV.renL ρ (lyW f L i b c r j))=lyW (ρ f) L i (ρ b) (ρ c) r:=by
 funext j
 unfold lyW
 split
 ·simp[SV.renL,SV.ren]
 ·exact lyR_ren' ρ f L j
theorem lyW_ren' (ρ:Nat->Nat)(f:Nat)(L:List Ly)(i b c:Nat)(r:List Cl×List Pr)(j:Nat):SV.renL ρ (lyW f L i b c r j)=lyW (ρ f) L i (ρ b) (ρ c) r j:=jH (lyW_ren ρ f L i b c r) j
theorem lyW_lt {m f:Nat}{L:List Ly}{i b c:Nat}{r:List Cl×List Pr}(hf:f<m)(hb:b<m)(hc:c<m)(j:Nat):SV.ltL m (lyW f L i b c r j):=by
 unfold lyW
 split
 ·simp[SV.ltL,SV.lt,hf,hb,hc]
 ·exact(lyR_lt m f L j).2 hf
theorem lyW_in (f:Nat)(L:List Ly)(i b c:Nat)(r:List Cl×List Pr)(j:Nat):((if j=i then [SV.int .i64 (lyA L i).lvl,.int .u32 (lyA L i).wd,.slc true f (3*i+1) 0 (lyA L i).ids.length,.slc true b 0 0 r.1.length,.slc true c 0 0 r.2.length] else [.int .i64 (lyA L j).lvl,.int .u32 (lyA L j).wd,.slc true f (3*j+1) 0 (lyA L j).ids.length,.slc true f (3*j+2) 0 (lyA L j).cs.length,.slc true f (3*j+3) 0 (lyA L j).ps.length])=lyW f L i b c r j)=True:=eq_true (by
 unfold lyW
 split
 ·rename_i e;rw[e]
 ·rfl)
theorem startM_spec (L:List Ly)(hb:lyB L)(i k:Nat)(hi:i<k)(p kind cell:Int):
  zf prog 101 [.agg [.slc false 0 (3*i+2) 0 (lyA L i).cs.length,.slc false 0 (3*i+3) 0 (lyA L i).ps.length],.int .i64 p,.int .i64 kind,.int .i64 cell] ⟨2,[(0,(3*k+1,fam false 3 1 (lyF false L)))]⟩
   (fun s H1=>s= .tup [lsS (z5s (lyA L i).cs (lyA L i).ps p kind cell),.int .i64 (z58 (lyA L i).cs (lyA L i).ps p kind cell)]/\H1=lsH (z5s (lyA L i).cs (lyA L i).ps p kind cell)):=by
 have hbi:=hb.2 i;refine(lyLs L i k hi (start_spec (lyA L i).cs (lyA L i).ps _ _ rfl rfl (by omega) (by omega) p kind cell) (by simp[SV.ltL,SV.lt]) fun π=>rfl).imp ?_;rintro s H' ⟨s0,H0',⟨rfl,rfl⟩,rfl,rfl⟩;refine⟨by simp[lsS,SV.renP,SV.renPL,memP],?_⟩;simp only[lsH,renPOs,Qk,jf,z3u,z3a,uQ,Obj.renP,prs_renP,z4q]
theorem stepM_spec (L:List Ly)(hb:lyB L)(i k:Nat)(hi:i<k)(p:Int):
  zf prog 106 [.agg [.slc false 0 (3*i+2) 0 (lyA L i).cs.length,.slc false 0 (3*i+3) 0 (lyA L i).ps.length],.int .i64 p] ⟨2,[(0,(3*k+1,fam false 3 1 (lyF false L)))]⟩
   (fun s H1=>s= .tup [lsS (stepR (lyA L i).cs (lyA L i).ps p),.bool (stepOk (lyA L i).cs (lyA L i).ps p)]/\H1=lsH (stepR (lyA L i).cs (lyA L i).ps p)):=by
 have hbi:=hb.2 i;refine(lyLs L i k hi (stepL_spec (lyA L i).cs (lyA L i).ps _ _ rfl rfl (by omega) (by omega) p) (by simp[SV.ltL,SV.lt]) fun π=>rfl).imp ?_;rintro s H' ⟨s0,H0',⟨rfl,rfl⟩,rfl,rfl⟩;refine⟨by simp[lsS,SV.renP,SV.renPL,memP],?_⟩;simp only[lsH,renPOs,Qk,jf,z3u,z3a,uQ,Obj.renP,prs_renP,z4q]
def begR (L:List Ly)(p:Int)(c:Cb):List Cl×List Pr:=z5s (lyA L (plI L c.node c.lvl).toNat).cs (lyA L (plI L c.node c.lvl).toNat).ps p c.kind (plK L c.node c.lvl)
def ec44:=aj @lsS.eq_1 @lsH.eq_1
def JnTm.exE:=aj9 @z1b @zg @zh @zq @zk @z14 @z1a ec2 (aj9 @zi @zy @zo @zl z5u @zp z47 z4n (aj9 @zz ec3 ec5 @z19.eq_1 @z12.eq_1 @ints.eq_1 ec34 ec35 (aj ec36 ec44)))
def ec45:=aj3 @lyW_ren' @lyW_lt @lyW_in
def JnTm.gxE:=aj9 @z1b z47 ec16 z4n ec3 ec7 ec8 @z19.eq_1 (aj7 @z12.eq_1 @z1x @z1u ec37 ec26 ec29 ec45)
def JnTm.axE:=aj9 @z1b @zg @zh @zq @zk @z14 @z1a ec2 (aj9 @zi @zy @zo @zl z5u @zp z47 z4n (aj9 @zz ec3 ec5 @z19.eq_1 @z12.eq_1 ec34 ec35 ec44 (aj7 @z1v @z2e @z2t @z34 ec38 @z3z @lyW_ren)))
open JnTm (gxE axE exE)
open JnNm (oxE)
open D0 (sdE)
theorem begin_spec (L:List Ly)(C:List Cb)(hb:lyB L)(n k m p:Nat)(ht:Int)(hk:L.length=k)(hm:C.length=m)(hm6:m<=1000000)(hp:p<m)(hI:0<=plI L (cbA C p).node (cbA C p).lvl)(he:beginE L p (cbA C p)=0):
  zf prog 63 [.agg [.slc false 0 0 0 n,.int .i64 ht,.slc true 1 0 0 k,.slc false 3 0 0 m],.int .i64 p] ⟨4,[(1,uQ (.row ⟨true,false,89,5,k,lyR 2 L⟩)),(2,(3*k+1,fam false 3 1 (lyF false L))),(3,uQ (.row ⟨false,false,58,3,m,cbs C⟩))]⟩
   (fun s H1=>s= .int .i64 0/\H1=⟨6,[(1,uQ (.row ⟨true,false,89,5,k,lyW 2 L (plI L (cbA C p).node (cbA C p).lvl).toNat 4 5 (begR L p (cbA C p))⟩)),(4,z3a (begR L p (cbA C p)).1),(5,z3u (begR L p (cbA C p)).2)]⟩):=by
 subst hk hm;have hlen:=hb.1;obtain⟨i,hi,hIi,hlv,q,hq,hKk,_⟩:=plI_at hI;rw[beginE,hIi,hKk,qz] at he;have hr:begR L p (cbA C p)=z5s (lyA L i).cs (lyA L i).ps p (cbA C p).kind ((q:Int)+2):=by rw[begR,hIi,hKk,qz]
 rw[hr,hIi,qz];refine zf.ofC false 47 [.tmp 4] func63 rfl rfl ntmps63 results63 rfl ?_;intro w0 own0 β0 Q hQ hQn;simp only[z1c];refine Zrs [1,2] ?_;refine Zrs [1,2,5] ?_;refine sg [1,2,5,6,7] rfl ?_;intro K hK;iterate 5 (refine Zo Zl ?_)
 refine Zo Zl ?_;refine Zc1 (place_spec L hb L.length n C.length rfl ht (cbA C p).node (cbA C p).lvl) (id) ?_;rw[hIi,hKk];iterate 5 (refine Zo Zl ?_)
 refine z8 (Zpr (hK _ _ ?_));clear hK K;refine z6 ?_;refine Zrt [2,6,8,9] (.op 0 (.op 1 (.op 2 (.op 3 (.op 4 (.op 5 (.op 6 (.op 7 (.op 8 (.op 9 (.two 10 14 (.op 11 (.op 12 (.op 13 (.op 14 (.op 15 (.op 16 .done)))))) (.op 10 (.op 11 (.op 12 (.op 13 (.op 15 (.op 16 .done))))))))))))))))) [[],[],[],[],[],[],[],[],[],[],[],[],[],[],[],[],[]] [[],[],[],[],[],[],[],[],[],[],[],[],[],[],[],[],[]] ?_;intro K hK hG
 have hk3:K [(2,.ptr 4 0 0 0),(6,.int .i64 i),(8,.ptr 8 0 0 0),(9,.int .i64 0)] ⟨9,[(8,uQ (.row ⟨true,true,85,2,1,fun _=>[.slc true 6 0 0 (z5s (lyA L i).cs (lyA L i).ps p (cbA C p).kind ((q:Int)+2)).1.length,.slc true 7 0 0 (z5s (lyA L i).cs (lyA L i).ps p (cbA C p).kind ((q:Int)+2)).2.length]⟩)),(7,z3u (z5s (lyA L i).cs (lyA L i).ps p (cbA C p).kind ((q:Int)+2)).2),(6,z3a (z5s (lyA L i).cs (lyA L i).ps p (cbA C p).kind ((q:Int)+2)).1),(4,uQ (.row ⟨true,true,34,4,1,fun _=>[.slc false 0 0 0 n,.int .i64 ht,.slc true 1 0 0 L.length,.slc false 3 0 0 C.length]⟩)),(1,uQ (.row ⟨true,false,89,5,L.length,lyR 2 L⟩)),(2,(3*L.length+1,fam false 3 1 (lyF false L)))]⟩:=by
  refine hK _ _ ?_;clear hG hK K;refine z6 ?_;refine Zrs [2,6,8,9,39] ?_;refine z7 _ rfl ?_ ?_
  ·intro h39
   try replace h39:=Znb h39
   refine Zrg [9] ?_;refine Zrs [4] ?_;refine ze (hQ _ _ ?_);refine zu (fun x=>if x=4 then 6 else if x=5 then 7 else x) (.int .i64 0) (⟨6,[(1,uQ (.row ⟨true,false,89,5,L.length,lyW 2 L i 4 5 (z5s (lyA L i).cs (lyA L i).ps p (cbA C p).kind ((q:Int)+2))⟩)),(4,z3a (z5s (lyA L i).cs (lyA L i).ps p (cbA C p).kind ((q:Int)+2)).1),(5,z3u (z5s (lyA L i).cs (lyA L i).ps p (cbA C p).kind ((q:Int)+2)).2)]⟩) (.inl rfl) ?_;refine Zou ?_;refine⟨Zs,Zs,(Zg (fun x=>if x=4 then 6 else if x=5 then 7 else x)),Zs,?_⟩
   all_goals first|trivial|exact⟨rfl,trivial⟩
  ·intro h39
   exfalso;simp at h39
 refine Zo (ZT [] [] []) ?_;refine Zo (ZT [] [] []) ?_;refine Zo (ZT [] [] []) ?_;refine Zo (ZT [] [] []) ?_;refine Zo (ZT [] [] []) ?_;refine Zo (ZT [] [] []) ?_;refine Zo (ZT [] [] []) ?_;refine Zo (ZT [] [] []) ?_;refine Zo (ZT [] [] []) ?_;refine Zo (ZT [] [] []) ?_;refine z26 ?_ ?_
 ·skip
  refine Zo (ZT [] [] []) ?_;refine Zc1 (startM_spec L hb i L.length hi p (cbA C p).kind ((q:Int)+2)) (fun x=>if x=0 then 2 else 0) ?_;rw[he];refine Zo (ZT [] [] []) ?_;refine Zo (ZT [] [] []) ?_;refine Zo (ZT [] [] []) ?_;refine Zo (ZT [] [] [8]) ?_;refine Zo (ZT [8] [] [8]) ?_;refine Zo (ZT [8] [] [8]) ?_;refine z17 ?_;refine Zpr ?_;exact hG _ _ _ _ id (Zg id) hk3
 ·skip
  refine Zo (ZT [] [] [6]) ?_;refine Zo (ZT [6] [] [6]) ?_;refine Zc1 (startM_spec L hb i L.length hi p (cbA C p).kind ((q:Int)+2)) (fun x=>if x=0 then 2 else 0) ?_;rw[he];refine Zo (ZT [6] [] [6]) ?_;refine Zo (ZT [6] [] [6]) ?_;refine Zo (ZT [6] [] [6]) ?_;refine Zo (ZT [6] [] [6]) ?_;refine Zo (ZT [6] [] [6]) ?_;refine z17 ?_;refine Zpr ?_;exact hG _ _ _ _ (fun x=>if x=6 then 7 else if x=7 then 8 else if x=8 then 6 else x) (Zg (fun x=>if x=6 then 7 else if x=7 then 8 else if x=8 then 6 else x)) hk3
end
section
theorem fam0_rowK (ρ:Nat->Nat)(e:Go.TypeId)(sz:Nat)(G:Nat->Sk.Obj)(f:Nat->List SV):z1d ρ (fam true e sz G 0) (.row ⟨true,false,e,sz,0,f⟩)=True:=eq_true ⟨fun _=>⟨rfl,rfl⟩,rfl,qc _,fun i hi=>absurd hi (qR _)⟩
theorem lyW_out (f:Nat)(L:List Ly)(b c:Nat)(r:List Cl×List Pr):(∀j,j<L.length->lyR f L j=lyW f L L.length b c r j)=True:=eq_true fun j hj=>by rw[lyW,qb (by omega)]
theorem cbs_put' (C:List Cb)(k:Nat)(a b c:Int)(h:k<C.length):(fun i=>if i=k then [SV.int .i64 a,SV.int .i64 b,SV.int .i64 c] else [SV.int .i64 (cbA C i).kind,SV.int .i64 (cbA C i).node,SV.int .i64 (cbA C i).lvl])=cbs (C.set k ⟨a,b,c⟩):=cbs_put C k a b c h
def clmI (L:List Ly)(ht:Int)(c:Cb):Nat:=if outB ht (nxC c) then L.length else(plI L (nxC c).node (nxC c).lvl).toNat
def clmR (L:List Ly)(ht p:Int)(c:Cb):List Cl×List Pr:=if outB ht (nxC c) then([],[]) else begR L p (nxC c)
def clmC (ht:Int)(c:Cb):Cb:=if outB ht (nxC c) then noCb else nxC c
def JnUm.gxE:=aj9 @z1b z47 ec16 z4n ec3 ec7 ec8 @z19.eq_1 (aj9 @z12.eq_1 @z1x @z1u ec37 ec26 ec29 ec45 @lyW_out @fam0_rowK)
open JnUm (gxE)
open JnTm (axE exE)
open JnNm (oxE)
open D0 (sdE)
theorem climb_spec (L:List Ly)(C:List Cb)(hb:lyB L)(n k m p:Nat)(ht:Int)(hk:L.length=k)(hm:C.length=m)(hm6:m<=1000000)(hp:p<m)(hl: -1000<=(cbA C p).lvl/\(cbA C p).lvl<=1000)
  (hin:outB ht (nxC (cbA C p))=false->0<=plI L (nxC (cbA C p)).node (nxC (cbA C p)).lvl/\beginE L p (nxC (cbA C p))=0):
  zf prog 105 [.agg [.slc false 0 0 0 n,.int .i64 ht,.slc true 1 0 0 k,.slc true 3 0 0 m],.int .i64 p] ⟨4,[(1,uQ (.row ⟨true,false,89,5,k,lyR 2 L⟩)),(2,(3*k+1,fam false 3 1 (lyF false L))),(3,uQ (.row ⟨true,false,58,3,m,cbs C⟩))]⟩
   (fun s H1=>s= .bool true/\H1=⟨6,[(1,uQ (.row ⟨true,false,89,5,k,lyW 2 L (clmI L ht (cbA C p)) 4 5 (clmR L ht p (cbA C p))⟩)),(4,z3a (clmR L ht p (cbA C p)).1),(5,z3u (clmR L ht p (cbA C p)).2),(3,uQ (.row ⟨true,false,58,3,m,cbs (C.set p (clmC ht (cbA C p)))⟩))]⟩):=by
 subst hk hm;have hlen:=hb.1;have hcp:=z3m (x:=nxC (cbA C p)) hp;refine zf.ofC false 50 [.tmp 4] func105 rfl rfl ntmps105 results105 rfl ?_;intro w0 own0 β0 Q hQ hQn;simp only[z1c];refine Zrs [1,2] ?_;refine Zrs [1,2,5] ?_;refine z6 ?_;refine Zrs [1,2,5,14] ?_;refine z7 _ rfl ?_ ?_
 ·intro h14;replace h14:=Znb h14;have hnx:nxC (cbA C p)=⟨(cbA C p).kind,(cbA C p).node,(cbA C p).lvl+1⟩:=by rw[nxC,qf h14]
  refine z4p [1,2,5] rfl ?_;intro K hK;iterate 8 (refine Zo Zl ?_)
  rw[cbs_put' _ _ _ _ _ hp,<-hnx];repeat(with_reducible apply qe;exact sdE)
  refine z8 (Zpr (hK _ _ ?_));clear hK K;refine z6 (z6 ?_);clear hnx;obtain⟨C',hC'⟩:∃C',C.set p (nxC (cbA C p))=C':=⟨_,rfl⟩;have hcl:C'.length=C.length:=by rw[<-hC',qD]
  rw[hC'] at hcp ⊢;obtain⟨c',hc'⟩:∃c',nxC (cbA C p)=c':=⟨_,rfl⟩;rw[hc'] at hcp hin;refine Zrd [1,2,5,42] [0,1,2,3,4,5,6,7,8,9,10,11,12,13] [[],[],[],[],[],[],[],[],[],[],[],[],[],[]] [[],[],[],[],[],[],[],[],[],[],[],[],[],[]] ?_;intro K hK;iterate 14 (refine Zo (Zi [] []) ?_)
  refine zx (Zpr (hK _ _ ?_));clear hK K;refine z7 _ rfl ?_ ?_
  ·intro h42;rw[hcp] at h42;have ho:outB ht c'=true:=h42;refine sg [] rfl ?_;intro K hK;iterate 4 (refine Zo Zl ?_)
   rw[cbs_put' _ _ _ _ _ (by omega),show(⟨0,0,0⟩:Cb)=noCb from rfl];repeat(with_reducible apply qe;exact sdE)
   refine z8 (Zpr (hK _ _ ?_));clear hK K;refine Zrs [4] ?_;refine z2x 117 5 (lyF true []) ?_;dsimp only;refine z2x 110 7 (lyF true []) ?_;dsimp only;refine ze (hQ _ _ ?_);have e1:clmI L ht (cbA C p)=L.length:=by rw[clmI,hc',ho];rfl
   have e2:clmR L ht p (cbA C p)=([],[]):=by rw[clmR,hc',ho];rfl
   have e3:C.set p (clmC ht (cbA C p))=C'.set p noCb:=by rw[clmC,hc',ho,<-hC',List.set_set];rfl
   rw[e1,e2,e3];refine zu (fun x=>if x=4 then 5 else if x=5 then 6 else x) (.bool true) (⟨6,[(1,uQ (.row ⟨true,false,89,5,L.length,lyW 2 L L.length 4 5 ([],[])⟩)),(4,z3a []),(5,z3u []),(3,uQ (.row ⟨true,false,58,3,C.length,cbs (C'.set p noCb)⟩))]⟩) (.inl rfl) ?_;refine Zou ?_;refine⟨Zs,Zs,(Zg (fun x=>if x=4 then 5 else if x=5 then 6 else x)),Zs,?_⟩
   all_goals first|trivial|exact⟨rfl,trivial⟩
  ·intro h42;rw[hcp] at h42;have ho:outB ht c'=false:=h42;obtain⟨g1,g2⟩:=hin ho;refine za ?_;refine sg [4] rfl ?_;intro K hK;iterate 2 (refine Zo Zl ?_)
   refine Zo Zl ?_;refine Zc1 (begin_spec L C' hb n L.length C.length p ht rfl hcl hm6 hp (by rw[hcp];exact g1) (by rw[hcp];exact g2)) (id) ?_;rw[hcp];iterate 2 (refine Zo Zl ?_)
   refine z8 (Zpr (hK _ _ ?_));clear hK K;refine ze (hQ _ _ ?_);have e1:clmI L ht (cbA C p)=(plI L c'.node c'.lvl).toNat:=by rw[clmI,hc',ho];rfl
   have e2:clmR L ht p (cbA C p)=begR L p c':=by rw[clmR,hc',ho];rfl
   have e3:C.set p (clmC ht (cbA C p))=C':=by rw[clmC,hc',ho,<-hC',hc'];rfl
   rw[e1,e2,e3];refine zu (fun x=>if x=4 then 5 else if x=5 then 6 else x) (.bool true) (⟨6,[(1,uQ (.row ⟨true,false,89,5,L.length,lyW 2 L (plI L c'.node c'.lvl).toNat 4 5 (begR L p c')⟩)),(4,z3a (begR L p c').1),(5,z3u (begR L p c').2),(3,uQ (.row ⟨true,false,58,3,C.length,cbs C'⟩))]⟩) (.inl rfl) ?_;refine Zou ?_;refine⟨Zs,Zs,(Zg (fun x=>if x=4 then 5 else if x=5 then 6 else x)),Zs,?_⟩
   all_goals first|trivial|exact⟨rfl,trivial⟩
 ·intro h14;replace h14:=Znb h14;have hnx:nxC (cbA C p)=⟨(cbA C p).kind,(cbA C p).node,(cbA C p).lvl-1⟩:=by rw[nxC,qb h14]
  refine z4p [1,2,5] rfl ?_;intro K hK;iterate 8 (refine Zo Zl ?_)
  rw[cbs_put' _ _ _ _ _ hp,<-hnx];repeat(with_reducible apply qe;exact sdE)
  refine z8 (Zpr (hK _ _ ?_));clear hK K;refine z6 (z6 ?_);clear hnx;obtain⟨C',hC'⟩:∃C',C.set p (nxC (cbA C p))=C':=⟨_,rfl⟩;have hcl:C'.length=C.length:=by rw[<-hC',qD]
  rw[hC'] at hcp ⊢;obtain⟨c',hc'⟩:∃c',nxC (cbA C p)=c':=⟨_,rfl⟩;rw[hc'] at hcp hin;refine Zrd [1,2,5,42] [0,1,2,3,4,5,6,7,8,9,10,11,12,13] [[],[],[],[],[],[],[],[],[],[],[],[],[],[]] [[],[],[],[],[],[],[],[],[],[],[],[],[],[]] ?_;intro K hK;iterate 14 (refine Zo (Zi [] []) ?_)
  refine zx (Zpr (hK _ _ ?_));clear hK K;refine z7 _ rfl ?_ ?_
  ·intro h42;rw[hcp] at h42;have ho:outB ht c'=true:=h42;refine sg [] rfl ?_;intro K hK;iterate 4 (refine Zo Zl ?_)
   rw[cbs_put' _ _ _ _ _ (by omega),show(⟨0,0,0⟩:Cb)=noCb from rfl];repeat(with_reducible apply qe;exact sdE)
   refine z8 (Zpr (hK _ _ ?_));clear hK K;refine Zrs [4] ?_;refine z2x 117 5 (lyF true []) ?_;dsimp only;refine z2x 110 7 (lyF true []) ?_;dsimp only;refine ze (hQ _ _ ?_);have e1:clmI L ht (cbA C p)=L.length:=by rw[clmI,hc',ho];rfl
   have e2:clmR L ht p (cbA C p)=([],[]):=by rw[clmR,hc',ho];rfl
   have e3:C.set p (clmC ht (cbA C p))=C'.set p noCb:=by rw[clmC,hc',ho,<-hC',List.set_set];rfl
   rw[e1,e2,e3];refine zu (fun x=>if x=4 then 5 else if x=5 then 6 else x) (.bool true) (⟨6,[(1,uQ (.row ⟨true,false,89,5,L.length,lyW 2 L L.length 4 5 ([],[])⟩)),(4,z3a []),(5,z3u []),(3,uQ (.row ⟨true,false,58,3,C.length,cbs (C'.set p noCb)⟩))]⟩) (.inl rfl) ?_;refine Zou ?_;refine⟨Zs,Zs,(Zg (fun x=>if x=4 then 5 else if x=5 then 6 else x)),Zs,?_⟩
   all_goals first|trivial|exact⟨rfl,trivial⟩
  ·intro h42;rw[hcp] at h42;have ho:outB ht c'=false:=h42;obtain⟨g1,g2⟩:=hin ho;refine za ?_;refine sg [4] rfl ?_;intro K hK;iterate 2 (refine Zo Zl ?_)
   refine Zo Zl ?_;refine Zc1 (begin_spec L C' hb n L.length C.length p ht rfl hcl hm6 hp (by rw[hcp];exact g1) (by rw[hcp];exact g2)) (id) ?_;rw[hcp];iterate 2 (refine Zo Zl ?_)
   refine z8 (Zpr (hK _ _ ?_));clear hK K;refine ze (hQ _ _ ?_);have e1:clmI L ht (cbA C p)=(plI L c'.node c'.lvl).toNat:=by rw[clmI,hc',ho];rfl
   have e2:clmR L ht p (cbA C p)=begR L p c':=by rw[clmR,hc',ho];rfl
   have e3:C.set p (clmC ht (cbA C p))=C':=by rw[clmC,hc',ho,<-hC',hc'];rfl
   rw[e1,e2,e3];refine zu (fun x=>if x=4 then 5 else if x=5 then 6 else x) (.bool true) (⟨6,[(1,uQ (.row ⟨true,false,89,5,L.length,lyW 2 L (plI L c'.node c'.lvl).toNat 4 5 (begR L p c')⟩)),(4,z3a (begR L p c').1),(5,z3u (begR L p c').2),(3,uQ (.row ⟨true,false,58,3,C.length,cbs C'⟩))]⟩) (.inl rfl) ?_;refine Zou ?_;refine⟨Zs,Zs,(Zg (fun x=>if x=4 then 5 else if x=5 then 6 else x)),Zs,?_⟩
   all_goals first|trivial|exact⟨rfl,trivial⟩
end
section
def stOn (C:List Cb)(p:Int):Bool:=inC C p && (cbA C p.toNat).kind !=0
def stI (fo:Fo)(p:Int):Nat:=if stOn fo.cb p then(if endB fo p then clmI fo.ly fo.ht (cbA fo.cb p.toNat) else curI fo p) else fo.ly.length
def stR (fo:Fo)(p:Int):List Cl×List Pr:=if stOn fo.cb p then(if endB fo p then clmR fo.ly fo.ht p (cbA fo.cb p.toNat) else stepR (lyA fo.ly (curI fo p)).cs (lyA fo.ly (curI fo p)).ps p) else([],[])
def stC (fo:Fo)(p:Int):List Cb:=if stOn fo.cb p && endB fo p then fo.cb.set p.toNat (clmC fo.ht (cbA fo.cb p.toNat)) else fo.cb
def stS (fo:Fo)(p:Int):Bool:=stOn fo.cb p && (endB fo p||stepOk (lyA fo.ly (curI fo p)).cs (lyA fo.ly (curI fo p)).ps p)
structure StH (fo:Fo) (p:Int):Prop where
 pl:0<=plI fo.ly (cbA fo.cb p.toNat).node (cbA fo.cb p.toNat).lvl
 lv: -1000<=(cbA fo.cb p.toNat).lvl/\(cbA fo.cb p.toNat).lvl<=1000
 pn:p<(lyA fo.ly (curI fo p)).ps.length
 go:endB fo p=true->outB fo.ht (nxC (cbA fo.cb p.toNat))=false->0<=plI fo.ly (nxC (cbA fo.cb p.toNat)).node (nxC (cbA fo.cb p.toNat)).lvl/\beginE fo.ly p (nxC (cbA fo.cb p.toNat))=0
open JnUm (gxE)
open JnTm (axE exE)
open JnNm (oxE)
open D0 (sdE)
theorem step_specF (fo:Fo)(hb:lyB fo.ly)(n k m:Nat)(p:Int)(hk:fo.ly.length=k)(hm:fo.cb.length=m)(hm6:m<=1000000)(hS:stOn fo.cb p=true->StH fo p):
  zf prog 67 [.agg [.slc false 0 0 0 n,.int .i64 fo.ht,.slc true 1 0 0 k,.slc true 3 0 0 m],.int .i64 p] ⟨4,[(1,uQ (.row ⟨true,false,89,5,k,lyR 2 fo.ly⟩)),(2,(3*k+1,fam false 3 1 (lyF false fo.ly))),(3,uQ (.row ⟨true,false,58,3,m,cbs fo.cb⟩))]⟩
   (fun s H1=>s= .bool (stS fo p)/\H1=⟨6,[(1,uQ (.row ⟨true,false,89,5,k,lyW 2 fo.ly (stI fo p) 4 5 (stR fo p)⟩)),(4,z3a (stR fo p).1),(5,z3u (stR fo p).2),(3,uQ (.row ⟨true,false,58,3,m,cbs (stC fo p)⟩))]⟩):=by
 obtain⟨ns,ht,L,C⟩:=fo;dsimp only at hb hk hm ⊢;subst hk hm;have hlen:=hb.1;refine zf.ofC false 77 [.tmp 4] func67 rfl rfl ntmps67 results67 rfl ?_;intro w0 own0 β0 Q hQ hQn;simp only[z1c];refine Zrs [1,2] ?_;refine z6 ?_;refine Zrs [1,2,26] ?_;refine z7 _ rfl ?_ ?_
 ·intro h26
  have hon:stOn C p=false:=by
   rw[stOn,<-qk,Bool.not_and,inC,jB];simpa [bne] using h26
  refine Zrs [4] ?_;refine z2x 117 5 (lyF true []) ?_;dsimp only;refine z2x 110 7 (lyF true []) ?_;dsimp only;refine ze (hQ _ _ ?_);rw[stS,stI,stR,stC,hon];simp only[QJ,qw,Qo];refine zu (fun x=>if x=4 then 5 else if x=5 then 6 else x) (.bool false) (⟨6,[(1,uQ (.row ⟨true,false,89,5,L.length,lyW 2 L L.length 4 5 ([],[])⟩)),(4,z3a []),(5,z3u []),(3,uQ (.row ⟨true,false,58,3,C.length,cbs C⟩))]⟩) (.inl rfl) ?_;refine Zou ?_;refine⟨Zs,Zs,(Zg (fun x=>if x=4 then 5 else if x=5 then 6 else x)),Zs,?_⟩
  all_goals first|trivial|exact⟨rfl,trivial⟩
 ·intro h26
  have hon:stOn C p=true:=by
   rw[stOn,<-qq,Bool.not_and,inC,jB];simpa [bne] using h26
  obtain⟨hpl,hlv,hpn,hgo⟩:=hS hon;dsimp only at hpl hlv hpn hgo
  have hin:0<=p/\p<C.length:=by
   rw[stOn,qh] at hon;exact inC_iff.1 hon.1
  obtain⟨P,hP⟩:∃P:Nat,p=P:=⟨p.toNat,by omega⟩;subst hP;rw[qz] at hpl hlv hgo;obtain⟨i,hi,hIi,hlvi,q,hq,hKk,_⟩:=plI_at hpl;have hcu:curI ⟨ns,ht,L,C⟩ (P:Int)=i:=by rw[curI,qz,hIi,qz]
  rw[hcu] at hpn;refine za (z6 ?_);refine Zrd [1,2,5] [0,1,2,3,4,5,6,7,8,9,10,11,12,13,14,15,16,17,18] [[],[],[],[],[],[],[],[],[],[],[],[],[],[],[],[],[],[],[]] [[],[],[],[],[],[],[],[],[],[],[],[],[],[],[],[],[],[],[]] ?_;intro K hK;iterate 13 (refine Zo (Zi [] []) ?_)
  refine Zo (Zi [] []) ?_;refine Zc1 (place_spec L hb L.length n C.length rfl ht (cbA C P).node (cbA C P).lvl) (id) ?_;rw[hIi,hKk];iterate 5 (refine Zo (Zi [] []) ?_)
  refine zx (Zpr (hK _ _ ?_));clear hK K;refine z6 ?_;refine Zrs [1,2,5,55] ?_;refine z7 _ rfl ?_ ?_
  ·intro h55;have he:endB ⟨ns,ht,L,C⟩ (P:Int)=true:=by rw[endB,hcu,qz];exact h55
   refine sg [4] rfl ?_;intro K hK;iterate 2 (refine Zo Zl ?_)
   refine Zo Zl ?_;refine Zc1 (climb_spec L C hb n L.length C.length P ht rfl rfl hm6 (by omega) hlv (hgo he)) (id) ?_;refine Zo Zl ?_;refine z8 (Zpr (hK _ _ ?_));clear hK K;refine ze (hQ _ _ ?_);rw[stS,stI,stR,stC,hon,he,qz];simp only[qV,Jy,Qi];refine zu (fun x=>if x=4 then 5 else if x=5 then 6 else x) (.bool true) (⟨6,[(1,uQ (.row ⟨true,false,89,5,L.length,lyW 2 L (clmI L ht (cbA C P)) 4 5 (clmR L ht P (cbA C P))⟩)),(4,z3a (clmR L ht P (cbA C P)).1),(5,z3u (clmR L ht P (cbA C P)).2),(3,uQ (.row ⟨true,false,58,3,C.length,cbs (C.set P (clmC ht (cbA C P)))⟩))]⟩) (.inl rfl) ?_;refine Zou ?_;refine⟨Zs,Zs,(Zg (fun x=>if x=4 then 5 else if x=5 then 6 else x)),Zs,?_⟩
   all_goals first|trivial|exact⟨rfl,trivial⟩
  ·intro h55;have he:endB ⟨ns,ht,L,C⟩ (P:Int)=false:=by rw[endB,hcu,qz];exact h55
   refine za ?_;refine sg [2,5,7,8] rfl ?_;intro K hK;iterate 7 (refine Zo Zl ?_)
   refine Zo Zl ?_;refine Zc1 (stepM_spec L hb i L.length hi P) (fun x=>if x=0 then 2 else 0) ?_;iterate 6 (refine Zo Zl ?_)
   refine z8 (Zpr (hK _ _ ?_));clear hK K;refine Zrs [8] ?_;refine Zrs [4] ?_;refine ze (hQ _ _ ?_);rw[stS,stI,stR,stC,hon,he,hcu];simp only[qV,jW,jn,qw,Qi,Qo];refine zu (fun x=>if x=4 then 5 else if x=5 then 6 else x) (.bool (stepOk (lyA L i).cs (lyA L i).ps P)) (⟨6,[(1,uQ (.row ⟨true,false,89,5,L.length,lyW 2 L i 4 5 (stepR (lyA L i).cs (lyA L i).ps P)⟩)),(4,z3a (stepR (lyA L i).cs (lyA L i).ps P).1),(5,z3u (stepR (lyA L i).cs (lyA L i).ps P).2),(3,uQ (.row ⟨true,false,58,3,C.length,cbs C⟩))]⟩) (.inl rfl) ?_;refine Zou ?_;refine⟨Zs,Zs,(Zg (fun x=>if x=4 then 5 else if x=5 then 6 else x)),Zs,?_⟩
   all_goals first|trivial|exact⟨rfl,trivial⟩
end
section
theorem shpL_le (ns:List Nd)(h:Nat):(z36 ns h).length<=(h+1)*ns.length:=by
 unfold z36
 have:∀l:List Nat,(l.flatMap fun(n:Nat)=>(z4l (z43 ns) (n:Int)).map fun c=>((n:Int),c)).length<=l.length*ns.length:=fun l=>by
  induction l with
  |nil=>simp
  |cons a l ih=>
   rw[yk,Qn,qA,QK,qX,jo];have:=clsN_len (z43 ns) (a:Int);rw[<-(z1o ns).length_eq] at this;omega
 have:=this (List.range (h+1));rwa [List.length_range] at this
section
variable {fo:Fo} {ls:Nat->List Int}
theorem Fsh.few (h:Fsh fo):fo.ns.length<=19:=h.sm
theorem Fsh.idsl (h:Fsh fo){i:Nat}(hi:i<fo.ly.length):(lyA fo.ly i).ids.length<=64/\(lyA fo.ly i).cs.length=(lyA fo.ly i).ids.length+2:=by
 have:=(h.at_ i hi).len;have e:=(h.at_ i hi).ids;have:=(h.sub hi).length_le;rw[<-(z1o fo.ns).length_eq] at this;have:=h.few;rw[e,qA];omega
theorem Fsh.lyB (h:Fsh fo):lyB fo.ly:=by
 have h64:=h.few;have h16:=h.h16;have hl:=shpL_le fo.ns fo.ht.toNat;have:(fo.ht.toNat+1)*fo.ns.length<=17*64:=jx (by omega) (qT h64 (by decide));refine⟨by rw[h.len];omega,fun i=> ?_⟩
 by_cases hi:i<fo.ly.length
 ·have:=h.idsl hi;have:=(h.at_ i hi).pn;have:=h.m8;omega
 ·rw[lyA,qt,qI (by omega)];exact⟨qo _,qo _,qo _⟩
theorem Fsh.lyC (h:Fsh fo):lyC fo.ly:=fun i hi=>(h.idsl hi).2
theorem FI.stH (h:FI fo ls){p:Int}(hs:stOn fo.cb p=true):StH fo p:=by
 rw[stOn,qh,qU,inC_iff] at hs;obtain⟨⟨p0,p1⟩,hk⟩:=hs;have hp:p.toNat<fo.cb.length:=by omega
 have hpp:((p.toNat:Nat):Int)=p:=by omega
 obtain⟨x,i,k,hw,ha,hc1,hc2,hc3,hc4⟩:=h.stands hp hk;have hI:=ha.pI;rw[hw.id] at hI;have hcur:curI fo p=i:=by rw[curI,hI,qz]
 have hl0:=hw.l0;have hlh:=hw.lh;have h16:=h.sh.h16;refine⟨by omega,by omega,by rw[hcur,(h.sh.at_ i ha.hi).pn];exact p1,fun he ho=> ?_⟩;rw[endB,hcur,qv] at he;rw[outB,qi,qg,qg] at ho;have hnn:(nxC (cbA fo.cb p.toNat)).node=(cbA fo.cb p.toNat).node:=by unfold nxC;split<;>rfl
 have hnk:(nxC (cbA fo.cb p.toNat)).kind=(cbA fo.cb p.toNat).kind:=by unfold nxC;split<;>rfl
 obtain⟨j,q,a⟩:=h.sh.place hw.mm (lv:=(nxC (cbA fo.cb p.toNat)).lvl) (by omega) (by omega);have hIj:=a.pI;have hKj:=a.pK;rw[hw.id,<-hnn] at hIj hKj;have hcel:=a.cel
 have hrest:=h.rest hp (fun j _ hj=>by
  have:j=i:=by omega
  subst this;exact he) j a.hi
 refine⟨by omega,?_⟩;rw[beginE,hIj,hKj,qz];unfold z58;rw[(h.inv j a.hi).vb]
 have h1:(decide (p<0)||decide (((lyA fo.ly j).ps.length:Int)<=p))=false:=by
  rw[(h.sh.at_ j a.hi).pn,qi,qg,qg];omega
 have h2:(decide ((q:Int)+2<2)||decide (((lyA fo.ly j).cs.length:Int)<=q+2))=false:=by
  rw[qi,qg,qg];omega
 have h3:kindBad (nxC (cbA fo.cb p.toNat)).kind=false:=by
  rw[kindBad,hnk,qi,qg,qg];have:=hw.k;omega
 rw[h1,h2,h3,hrest]
 rfl
theorem upL_out (L:List Ly)(i:Nat)(h:L.length<=i)(cs:List Cl)(ps:List Pr):upL L i cs ps=L:=by
 unfold upL;exact List.set_eq_of_length_le h
theorem FI.stS (h:FI fo ls)(p:Int):stS fo p=z3w fo p:=by
 unfold Go.Proofs.stS z3w;rw[h.vf,qV]
 cases hs:stOn fo.cb p with
 |false=>rw[stOn] at hs;rw[hs];rfl
 |true=>
  have hH:=h.stH hs;rw[stOn] at hs;rw[hs,qV,qV]
  cases he:endB fo p with
  |false=>rfl
  |true=>
   simp only[Jy,Qi]
   cases ho:outB fo.ht (nxC (cbA fo.cb p.toNat)) with
   |true=>rfl
   |false=>rw[(hH.go he ho).2];rfl
theorem begR_eq {L:List Ly}{p:Int}{c:Cb}(h:beginE L p c=0):upL L (plI L c.node c.lvl).toNat (begR L p c).1 (begR L p c).2=beginL L p c:=by
 rw[beginE] at h;rw[beginL,begR,z5s,qf h]
theorem FI.stF (h:FI fo ls){p:Int}(hs:z3w fo p=true):z21 fo p={fo with ly:=upL fo.ly (stI fo p) (stR fo p).1 (stR fo p).2,cb:=stC fo p}:=by
 have h0:=h.stS p;rw[hs] at h0
 have hon:stOn fo.cb p=true:=by
  unfold Go.Proofs.stS at h0;rw[qh] at h0;exact h0.1
 have hH:=h.stH hon;unfold z21 stI stR stC;rw[h.vf,hs,hon];simp only[Qp,qw,Qo,Qi,qV]
 cases he:endB fo p with
 |false=>simp only[qw,Qo]
 |true=>
  simp only[Qi]
  cases ho:outB fo.ht (nxC (cbA fo.cb p.toNat)) with
  |true=>
   simp only[Qi,clmI,clmR,clmC,ho];rw[upL_out _ _ (qc _)]
  |false=>
   simp only[qw,Qo,clmI,clmR,clmC,ho];rw[begR_eq (hH.go he ho).2]
theorem FI.stN (h:FI fo ls){p:Int}(hs:z3w fo p=false):z21 fo p=fo:=by
 unfold z21;rw[h.vf,hs];rfl
end
theorem lyW_M2 (f:Nat)(L:List Ly)(j b c:Nat)(r:List Cl×List Pr)(q:Nat)(hq:q<L.length):lyW f L j b c r q=SV.renPL (mvM (fun x=>x) f (ms2 j b c)) (lyR f (upL L j r.1 r.2) q):=by
 rw[lyR_renM2,lyW]
 by_cases e:q=j
 ·subst e;rw[qf rfl,qf rfl,upL_eq hq]
 ·rw[qb e,qb e,lyR,lyR,upL_ne (QD e)]
theorem lyF_consU {ρ:Nat->Nat}{f j b c m:Nat}{os l:List (Nat×Nat×(Nat->Sk.Obj))}{L:List Ly}{r:List Cl×List Pr}(hf:Sk.find os (ρ f)=some (3*L.length+1,fam true 3 1 (lyF true L)))
  (hb:Sk.find os b=some (z3a r.1)) (hc:Sk.find os c=some (z3u r.2)) (hm:f<m) (ht:z1e (mvM ρ f (ms2 j b c)) m os l):z1e (mvM ρ f (ms2 j b c)) m os ((f,(3*L.length+1,fam true 3 1 (lyF true (upL L j r.1 r.2))))::l):=by
 by_cases hj:j<L.length
 ·exact lyF_cons2 (x:={lyA L j with cs:=r.1,ps:=r.2}) hf hb hc (upL_eq hj ..) rfl (fun i hne=>upL_ne (QD hne) ..) hm ht
 ·rw[upL_out _ _ (by omega)];refine z1e.consF hf (by omega) ⟨fun _=>⟨rfl,rfl⟩,rfl⟩ (by unfold ms2;rw[qb (by omega),qb (by omega)]) (fun i hi=> ?_) hm ht;have e:ms2 j b c (i+1)=none:=by unfold ms2;rw[qb (by omega),qb (by omega)]
  rw[e];exact⟨hi,lyF_givesP _ _ _ _ _ _ id rfl,z40 ..⟩
open JnUm (gxE)
open JnTm (axE exE)
open JnNm (oxE)
open D0 (sdE)
theorem Step_spec (fo:Fo)(ls:Nat->List Int)(h:FI fo ls)(n k m:Nat)(p:Int)(hn:fo.ns.length=n)(hk:fo.ly.length=k)(hm:fo.cb.length=m):
  zf prog 27 [.agg [.slc false 0 0 0 n,.int .i64 fo.ht,.slc false 1 0 0 k,.slc false 3 0 0 m],.int .i64 p] ⟨4,[(0,uQ (.row ⟨false,false,62,3,n,nds fo.ns⟩)),(1,uQ (.row ⟨false,false,89,5,k,lyR 2 fo.ly⟩)),(2,(3*k+1,fam false 3 1 (lyF false fo.ly))),(3,uQ (.row ⟨false,false,58,3,m,cbs fo.cb⟩))]⟩
   (fun s H1=>s= .tup [.agg [.slc true 4 0 0 n,.int .i64 fo.ht,.slc true 5 0 0 k,.slc true 7 0 0 m],.bool (z3w fo p)]/\H1=⟨8,[(4,uQ (.row ⟨true,false,62,3,n,nds fo.ns⟩)),(5,uQ (.row ⟨true,false,89,5,k,lyR 6 (z21 fo p).ly⟩)),(6,(3*k+1,fam true 3 1 (lyF true (z21 fo p).ly))),(7,uQ (.row ⟨true,false,58,3,m,cbs (z21 fo p).cb⟩))]⟩):=by
 have hb:=h.sh.lyB;have h64:=h.sh.few;have h8:=h.sh.m8;have hh0:=h.sh.h0;have hh16:=h.sh.h16;have hvf:=h.vf;subst hn hk hm;refine zf.ofC false 20 [.cell 4 34,.tmp 5] func27 rfl rfl ntmps27 results27 rfl ?_;intro w0 own0 β0 Q hQ hQn;simp only[z1c];refine Zrs [1,2,4] ?_;refine z6 ?_;refine sg [1,2,4,9] rfl ?_;intro K hK;refine Zo Zl ?_;refine Zo Zl ?_;refine Zc1 (valid_specF fo hb fo.ns.length fo.ly.length fo.cb.length rfl rfl rfl (by omega) (by omega) (by omega)) (id) ?_;rw[hvf];refine Zo Zl ?_;refine z8 (Zpr (hK _ _ ?_));clear hK K;refine z7 _ rfl ?_ ?_
 ·intro h9
  exfalso;simp at h9
 ·intro h9
  refine za ?_;refine sg [1,2,4,6] rfl ?_;intro K hK;refine Zo Zl ?_;refine Zo Zl ?_;refine Zc1 (clone_specF fo hb fo.ns.length fo.ly.length fo.cb.length rfl rfl rfl (by omega) (by omega)) (id) ?_;iterate 2 (refine Zo Zl ?_)
  refine z8 (Zpr (hK _ _ ?_));clear hK K;refine z6 ?_;refine sg [2,4,6,16] rfl ?_;intro K hK;iterate 2 (refine Zo Zl ?_)
  refine Zo Zl ?_;refine Zc1 (step_specF fo hb fo.ns.length fo.ly.length fo.cb.length p rfl rfl (by omega) h.stH) (fun x=>if x=0 then 6 else if x=1 then 7 else if x=2 then 8 else if x=3 then 9 else x) ?_;rw[h.stS p];refine Zo Zl ?_;refine z8 (Zpr (hK _ _ ?_));clear hK K;refine z7 _ rfl ?_ ?_
  ·intro h16;have hsb:z3w fo p=false:=by simpa using h16
   refine sg [4,5] rfl ?_;intro K hK;refine Zo Zl ?_;refine Zo Zl ?_;refine Zc1 (clone_specF fo hb fo.ns.length fo.ly.length fo.cb.length rfl rfl rfl (by omega) (by omega)) (id) ?_;iterate 2 (refine Zo Zl ?_)
   refine z8 (Zpr (hK _ _ ?_));clear hK K;refine ze (hQ _ _ ?_);rw[h.stN hsb,hsb];refine zu (fun x=>if x=4 then 13 else if x=5 then 14 else if x=6 then 15 else if x=7 then 16 else x) (.tup [.agg [.slc true 4 0 0 fo.ns.length,.int .i64 fo.ht,.slc true 5 0 0 fo.ly.length,.slc true 7 0 0 fo.cb.length],.bool false]) (⟨8,[(4,uQ (.row ⟨true,false,62,3,fo.ns.length,nds fo.ns⟩)),(5,uQ (.row ⟨true,false,89,5,fo.ly.length,lyR 6 fo.ly⟩)),(6,(3*fo.ly.length+1,fam true 3 1 (lyF true fo.ly))),(7,uQ (.row ⟨true,false,58,3,fo.cb.length,cbs fo.cb⟩))]⟩) (.inl rfl) ?_;refine Zou ?_;refine⟨Zs,Zs,(Zg (fun x=>if x=4 then 13 else if x=5 then 14 else if x=6 then 15 else if x=7 then 16 else x)),Zs,?_⟩
   all_goals first|trivial|exact⟨rfl,trivial⟩
  ·intro h16;have hsb:z3w fo p=true:=by simpa using h16
   refine za (z6 ?_);have hout:∀q,q<fo.ly.length->lyW 8 fo.ly (stI fo p) 11 12 (stR fo p) q=SV.renPL (mvM (fun x=>x) 8 (ms2 (stI fo p) 11 12)) (lyR 8 (upL fo.ly (stI fo p) (stR fo p).1 (stR fo p).2) q):=fun q hq=>lyW_M2 8 fo.ly (stI fo p) 11 12 (stR fo p) q hq;refine z4o (fr':=[(4,.ptr 5 0 0 0),(6,.ptr 10 0 0 0)]) (H':=⟨11,[(10,uQ (.row ⟨true,true,34,4,1,fun _=>[.slc true 6 0 0 fo.ns.length,.int .i64 fo.ht,.slc true 7 0 0 fo.ly.length,.slc true 9 0 0 fo.cb.length]⟩)),(7,uQ (.row ⟨true,false,89,5,fo.ly.length,lyR 8 (upL fo.ly (stI fo p) (stR fo p).1 (stR fo p).2)⟩)),(8,(3*fo.ly.length+1,fam true 3 1 (lyF true (upL fo.ly (stI fo p) (stR fo p).1 (stR fo p).2)))),(9,uQ (.row ⟨true,false,58,3,fo.cb.length,cbs (stC fo p)⟩)),(6,uQ (.row ⟨true,false,62,3,fo.ns.length,nds fo.ns⟩)),(5,uQ (.row ⟨true,true,34,4,1,fun _=>[.nils,.int .i64 0,.nils,.nils]⟩))]⟩) _ (Zgm (fun x=>x) (8) (ms2 (stI fo p) 11 12) (ms2_ok _ (by decide) ⟨rfl,rfl⟩ ⟨qd rfl,qd rfl⟩) ((z13 (by decide) rfl qm (zr.of (fun _=>⟨rfl,rfl⟩) rfl (qc _) (fun _ _=>rfl)) (Obj.lt_row.2 fun q _=>by simp[SV.ltL,SV.lt]) (qd rfl) (z13 (by decide) rfl qm (zr.of (fun _=>⟨rfl,rfl⟩) rfl (qc _) (hout)) (Obj.lt_row.2 fun q _=>(lyR_lt _ _ _ q).2 (qd rfl)) (qd rfl) (lyF_consU (r:=stR fo p) rfl rfl rfl (qd rfl) (z13 (by decide) rfl qm (zr.of (fun _=>⟨rfl,rfl⟩) rfl (qc _) (fun q _=>(cbs_renP _ _ q).symm)) (Obj.lt_row.2 fun q _=>cbs_lt _ _ q) (qd rfl) (z13 (by decide) rfl qm (zr.of (fun _=>⟨rfl,rfl⟩) rfl (qc _) (fun q _=>(z33 _ _ q).symm)) (Obj.lt_row.2 fun q _=>z4u _ _ q) (qd rfl) (z13 (by decide) rfl qm (zr.of (fun _=>⟨rfl,rfl⟩) rfl (qc _) (fun _ _=>rfl)) (Obj.lt_row.2 fun q _=>by simp[SV.ltL,SV.lt]) (qd rfl) trivial)))))))) ?_
   refine Zrg [4,5] ?_;refine ze (hQ _ _ ?_);rw[h.stF hsb,hsb];dsimp only;refine zu (fun x=>if x=4 then 6 else if x=5 then 7 else if x=6 then 8 else if x=7 then 9 else x) (.tup [.agg [.slc true 4 0 0 fo.ns.length,.int .i64 fo.ht,.slc true 5 0 0 fo.ly.length,.slc true 7 0 0 fo.cb.length],.bool true]) (⟨8,[(4,uQ (.row ⟨true,false,62,3,fo.ns.length,nds fo.ns⟩)),(5,uQ (.row ⟨true,false,89,5,fo.ly.length,lyR 6 (upL fo.ly (stI fo p) (stR fo p).1 (stR fo p).2)⟩)),(6,(3*fo.ly.length+1,fam true 3 1 (lyF true (upL fo.ly (stI fo p) (stR fo p).1 (stR fo p).2)))),(7,uQ (.row ⟨true,false,58,3,fo.cb.length,cbs (stC fo p)⟩))]⟩) (.inl rfl) ?_;refine Zou ?_;refine⟨Zs,Zs,(Zg (fun x=>if x=4 then 6 else if x=5 then 7 else if x=6 then 8 else if x=7 then 9 else x)),Zs,?_⟩
   all_goals first|trivial|exact⟨rfl,trivial⟩
end
section
section
variable {X:Cx} {Q:Exit->Fr->AH->Prop} {fr:Fr} {H:AH} {l:List Code}
theorem znilV {c:Code}(id j:Nat)(e:TypeId)(sz:Nat)(f:Nat->List SV){F:Nat->Sk.Obj}{r:Row}{n':Nat}{os':List (Nat×Nat×(Nat->Sk.Obj))}(hf:Sk.find H.os id=some (1,F):=by rfl)(hr:F 0= .row r:=by rfl)(hv:r.var=true:=by rfl)(hn:r.n=1:=by rfl)(ho:r.own=true:=by rfl)
  (hs:(r.f 0).all SV.scalar=true:=by rfl) (hlen:(r.f 0).length=r.sz:=by rfl) (hj:(r.f 0)[j]? =some .nils:=by rfl) (hlt:id<H.nxt:=by dsimp only;omega) (hrl:SV.ltL H.nxt (r.f 0):=by simp[SV.ltL,SV.lt])
  (e1:H.nxt+1=n':=by simp only[Nat.reduceAdd];rfl) (e2:setO ((H.nxt,uQ (.row ⟨true,false,e,sz,0,f⟩))::H.os) id 0 (.row {r with f:=fun _=>(r.f 0).set j (.slc true H.nxt 0 0 0)})=os':=by simp only[setO,↓reduceIte,Nat.reduceEqDiff,Nat.reduceAdd,qP,qO,reduceCtorEq,uQ];rfl)
  (h:Cs X (c::l) Q fr ⟨n',os'⟩):Cs X (c::l) Q fr H:=by
 subst e1 e2;exact z23 id j e sz f hf hr hv hn ho hs hlen hj hlt hrl h
end
def nfS (e:Int):SV:= .tup [.agg [.slc true 4 0 0 0,.int .i64 0,.slc true 5 0 0 0,.slc true 7 0 0 0],.int .i64 e]
def nfH:AH:=⟨8,[(4,uQ (.row ⟨true,false,62,3,0,nds []⟩)),(5,uQ (.row ⟨true,false,89,5,0,lyR 6 []⟩)),(6,(3*0+1,fam true 3 1 (lyF true []))),(7,uQ (.row ⟨true,false,58,3,0,cbs []⟩))]⟩
def JnXm.exE:=aj9 @z1b @zg @zh @zq @zk @z14 @z1a ec2 (aj9 @zi @zy @zo @zl z5u @zp z47 z4n (aj9 @zz ec3 ec5 @z19.eq_1 @z12.eq_1 @ints.eq_1 ec34 ec35 (aj3 ec36 @z4m.eq_1 @Cb.sv.eq_1)))
def JnXm.gxE:=aj9 @z1b z47 ec16 z4n ec3 ec7 ec8 @z19.eq_1 (aj8 @z12.eq_1 @z1x @z1u ec37 ec26 ec29 @z4m.eq_1 @Cb.sv.eq_1)
def JnXm.axE:=aj9 @z1b @zg @zh @zq @zk @z14 @z1a ec2 (aj9 @zi @zy @zo @zl z5u @zp z47 z4n (aj9 @zz ec3 ec5 @z19.eq_1 @z12.eq_1 ec34 ec35 @z4m.eq_1 (aj7 @Cb.sv.eq_1 @z1v @z2e @z2t @z34 ec38 @z3z)))
open JnXm (gxE axE exE)
open JnNm (oxE)
open D0 (sdE)
theorem busyTest (v:Int)(x:Cb):zf prog 60 [.agg x.sv,.ptr 0 0 0 0] ⟨1,[(0,z4m v)]⟩ (fun s H1=>s= .bool (x.kind !=0 && x.node==v)/\H1=⟨1,[]⟩):=by
 rw[Cb.sv];refine zf.ofC false 13 [.tmp 3] func60 rfl rfl ntmps60 results60 rfl ?_;intro w0 own0 β0 Q hQ hQn;simp only[z1c];refine Zrs [1,2] ?_;refine Zrs [3] ?_;refine ze (hQ _ _ ?_);refine zc (H':=⟨1,[]⟩) (.inl rfl) ?_;refine Zou ?_;refine⟨Zs,(Zg id),Zs,?_⟩
 first|trivial|exact⟨rfl,trivial⟩
theorem busyI_spec (v:Int)(C:List Cb)(m:Nat)(hm:C.length=m)(hx:m<=1000000):
  zf prog 97 [.slc false 0 0 0 m,.fn 60 [.ptr 1 0 0 0]] ⟨2,[(0,uQ (.row ⟨false,false,58,3,m,cbs C⟩)),(1,z4m v)]⟩
   (fun s H1=>s= .int .i64 (idxB m fun i=>(cbA C i).kind !=0 && (cbA C i).node==v)/\H1=⟨2,[]⟩):=by
 refine zf.ofC false 19 [.tmp 4] func97 rfl rfl ntmps97 results97 rfl ?_;intro w0 own0 β0 Q hQ hQn;simp only[z1c];refine Zrs [0,1] ?_;refine z6 ?_;refine Zrs [0,1,7,8] ?_;refine zb fun Q0 hN0 hX0 hR0 hE0=> ?_;refine zn (σ:=Nat) (fun i=>i<=m/\∀q,q<i->((cbA C q).kind !=0 && (cbA C q).node==v)=false) (fun i=>m-i) (fun i=>[(0,.slc false 0 0 0 m),(1,.fn 60 [.ptr 1 0 0 0]),(7,.int .i64 m),(8,.int .i64 i)]) (fun _=>⟨2,[(0,uQ (.row ⟨false,false,58,3,m,cbs C⟩)),(1,z4m v)]⟩) 0 ⟨qo _,fun q h=>by omega⟩ (ρ:=id) (Zg id) ?_;rintro i hi QL1 hL1 hRL1 hEL1;refine Zrs [0,1,7,8,9] ?_;refine z6 ?_;refine z7 _ rfl ?_ ?_
 ·intro h9;replace h9:=Znb h9;obtain⟨hi1,hi2⟩:=hi;refine za (z6 (zb fun Q1 hN1 hX1 hR1 hE1=> ?_));refine Zrs [0,1,5,7,8] ?_;refine sg [0,1,5,7,8,16] rfl ?_;intro K hK;iterate 5 (refine Zo Zl ?_)
  refine Zo Zl ?_;refine Zc1 (busyTest v (cbA C i)) (fun _=>1) ?_;refine z8 (Zpr (hK _ _ ?_));clear hK K;refine z7 _ rfl ?_ ?_
  ·intro h16
   refine Zrs [4] ?_;refine ze (hR1 _ _ (hRL1 _ _ (hR0 _ _ (hQ _ _ ?_))));refine zc (H':=⟨2,[]⟩) (.inl rfl) ?_;refine Zou ?_;refine⟨Zs,(Zg id),Zs,?_⟩;rw[idxB_at (p:=fun i=>(cbA C i).kind !=0 && (cbA C i).node==v) h16 (by omega) hi2];exact⟨rfl,by trivial⟩
  ·intro h16
   refine za (zd (hN1 _ _ ?_));refine Zrg [0,1,7,8] ?_;refine zd (hL1 _ _ ?_);rw[show(i:Int)+1=((i+1:Nat):Int) from by omega];refine⟨i+1,⟨⟨by omega,fun q hq=> ?_⟩,by omega⟩,id,(Zg id)⟩
   by_cases e:q=i
   ·subst e;exact h16
   ·exact hi2 q (by omega)
 ·intro h9;replace h9:=Znb h9;obtain⟨hi1,hi2⟩:=hi;refine zm (hEL1 _ _ _ (hX0 _ _ ?_));refine Zrs [4] ?_;refine ze (hQ _ _ ?_);refine zc (H':=⟨2,[]⟩) (.inl rfl) ?_;refine Zou ?_;refine⟨Zs,(Zg id),Zs,?_⟩;rw[idxB_none (p:=fun i=>(cbA C i).kind !=0 && (cbA C i).node==v) fun q hq=>hi2 q (by omega)];exact⟨rfl,by trivial⟩
theorem busyF_spec (v:Int)(C:List Cb)(m:Nat)(hm:C.length=m)(hx:m<=1000000):
  zf prog 59 [.slc false 0 0 0 m,.fn 60 [.ptr 1 0 0 0]] ⟨2,[(0,uQ (.row ⟨false,false,58,3,m,cbs C⟩)),(1,z4m v)]⟩
   (fun s H1=>s= .bool (busyF C v)/\H1=⟨2,[]⟩):=by
 refine zf.ofC false 9 [.tmp 4] func59 rfl rfl ntmps59 results59 rfl ?_;intro w0 own0 β0 Q hQ hQn;simp only[z1c];refine Zrs [0,1] ?_;refine sg [4] rfl ?_;intro K hK;iterate 2 (refine Zo Zl ?_)
 refine Zo Zl ?_;refine Zc1 (busyI_spec v C m hm hx) (id) ?_;iterate 2 (refine Zo Zl ?_)
 refine z8 (Zpr (hK _ _ ?_));clear hK K;refine ze (hQ _ _ ?_);refine zc (H':=⟨2,[]⟩) (.inl rfl) ?_;refine Zou ?_;refine⟨Zs,(Zg id),Zs,?_⟩;rw[idxB_any,busyF,hm]
 first|trivial|exact⟨rfl,by trivial⟩
end
section
def JnYm.exE:=aj9 @z1b @zg @zh @zq @zk @z14 @z1a ec2 (aj9 @zi @zy @zo @zl z5u @zp z47 z4n (aj9 @zz ec3 ec5 @z19.eq_1 @z12.eq_1 @ints.eq_1 ec34 ec35 (aj3 ec36 ec44 @z4m.eq_1)))
def JnYm.gxE:=aj9 @z1b z47 ec16 z4n ec3 ec7 ec8 @z19.eq_1 (aj9 @z12.eq_1 @z1x @z1u ec37 ec26 ec29 ec45 @lyW_out (aj @fam0_rowK @z4m.eq_1))
def JnYm.axE:=aj9 @z1b @zg @zh @zq @zk @z14 @z1a ec2 (aj9 @zi @zy @zo @zl z5u @zp z47 z4n (aj9 @zz ec3 ec5 @z19.eq_1 @z12.eq_1 ec34 ec35 ec44 (aj8 @z4m.eq_1 @z1v @z2e @z2t @z34 ec38 @z3z @lyW_ren)))
open JnYm (gxE axE exE)
open JnNm (oxE)
open D0 (sdE)
theorem z4a (fo:Fo)(ls:Nat->List Int)(h:FI fo ls)(n k m:Nat)(p kind v:Int)(hn:fo.ns.length=n)(hk:fo.ly.length=k)(hm:fo.cb.length=m):
  zf prog 25 [.agg [.slc false 0 0 0 n,.int .i64 fo.ht,.slc false 1 0 0 k,.slc false 3 0 0 m],.int .i64 p,.int .i64 kind,.int .i64 v] ⟨4,[(0,uQ (.row ⟨false,false,62,3,n,nds fo.ns⟩)),(1,uQ (.row ⟨false,false,89,5,k,lyR 2 fo.ly⟩)),(2,(3*k+1,fam false 3 1 (lyF false fo.ly))),(3,uQ (.row ⟨false,false,58,3,m,cbs fo.cb⟩))]⟩
   (fun s H1=>s= .tup [.agg [.slc true 4 0 0 (z15 fo p kind v).ns.length,.int .i64 (z15 fo p kind v).ht,.slc true 5 0 0 (z15 fo p kind v).ly.length,.slc true 7 0 0 (z15 fo p kind v).cb.length],.int .i64 (z28 fo p kind v)]/\H1=⟨8,[(4,uQ (.row ⟨true,false,62,3,(z15 fo p kind v).ns.length,nds (z15 fo p kind v).ns⟩)),(5,uQ (.row ⟨true,false,89,5,(z15 fo p kind v).ly.length,lyR 6 (z15 fo p kind v).ly⟩)),(6,(3*(z15 fo p kind v).ly.length+1,fam true 3 1 (lyF true (z15 fo p kind v).ly))),(7,uQ (.row ⟨true,false,58,3,(z15 fo p kind v).cb.length,cbs (z15 fo p kind v).cb⟩))]⟩):=by
 have hb:=h.sh.lyB;have hlc:=h.sh.lyC;have hx64:=h.sh.few;have hx8:=h.sh.m8;have hh0:=h.sh.h0;have hh16:=h.sh.h16;have hvf:=h.vf;subst hn hk hm;refine zf.ofC false 109 [.cell 8 34,.tmp 9] func25 rfl rfl ntmps25 results25 rfl ?_;intro w0 own0 β0 Q hQ hQn;simp only[z1c];refine Zrs [1,2,4,7,8] ?_;refine z6 ?_;refine sg [1,2,4,7,8,17] rfl ?_;intro K hK;refine Zo Zl ?_;refine Zo Zl ?_;refine Zc1 (valid_specF fo hb fo.ns.length fo.ly.length fo.cb.length rfl rfl rfl (by omega) (by omega) (by omega)) (id) ?_;rw[hvf];refine Zo Zl ?_;refine z8 (Zpr (hK _ _ ?_));clear hK K;refine z7 _ rfl ?_ ?_
 ·intro h17
  exfalso;simp at h17
 ·intro h17
  refine za (z6 ?_);refine Zrs [1,2,4,7,8,27] ?_;refine z7 _ rfl ?_ ?_
  ·intro h27;have g27:inC fo.cb p=false:=by rw[inC,h27];rfl
   refine Zrs [8,9] ?_;refine z2x 3 1 (lyF true []) ?_;dsimp only;refine znilV 6 0 62 3 (nds []) (h:= ?_);refine znilV 6 2 89 5 (lyR 7 []) (h:= ?_);refine znilV 6 3 58 3 (cbs []) (h:= ?_);refine ze (hQ _ _ ?_)
   have hE:z28 fo p kind v=2:=by
    rw[z28,hvf,qb (by decide),qf (by rw[g27];rfl)]
   have hR:z15 fo p kind v=noFo:=by rw[z15,hE,qb (by decide)]
   rw[hE,hR];refine zu (fun x=>if x=4 then 8 else if x=5 then 9 else if x=6 then 7 else if x=7 then 10 else x) (nfS 2) nfH (.inl rfl) ?_;unfold nfS nfH;refine Zou ?_;refine⟨Zs,Zs,(Zg (fun x=>if x=4 then 8 else if x=5 then 9 else if x=6 then 7 else if x=7 then 10 else x)),Zs,?_⟩
   all_goals first|trivial|exact⟨rfl,trivial⟩
  ·intro h27;have g27:inC fo.cb p=true:=by rw[inC,h27];rfl
   have g27':=inC_iff.1 g27;refine za ?_;refine sg [1,2,4,7,8,11] rfl ?_;intro K hK;iterate 3 (refine Zo Zl ?_)
   refine Zo Zl ?_;refine Zc1 (find_spec fo.ns v fo.ns.length rfl (by omega)) (id) ?_;iterate 6 (refine Zo Zl ?_)
   refine z8 (Zpr (hK _ _ ?_));clear hK K;refine sg [1,2,4,7,8,11,12] rfl ?_;intro K hK;iterate 3 (refine Zo Zl ?_)
   refine Zo Zl ?_;refine Zc1 (busyF_spec v fo.cb fo.cb.length rfl (by omega)) (fun x=>if x=0 then 3 else if x=1 then 5 else x) ?_;refine Zo Zl ?_;refine z8 (Zpr (hK _ _ ?_));clear hK K;refine z6 (zb fun Q0 hN0 hX0 hR0 hE0=> ?_);refine Zrs [1,2,4,7,8,12,40] ?_;refine z7 _ rfl ?_ ?_
   ·intro h40;have g40:findI fo.ns v<0:=by simpa using h40
    refine Zrs [8,9] ?_;refine z2x 3 1 (lyF true []) ?_;dsimp only;refine znilV 6 0 62 3 (nds []) (h:= ?_);refine znilV 6 2 89 5 (lyR 8 []) (h:= ?_);refine znilV 6 3 58 3 (cbs []) (h:= ?_);refine ze (hR0 _ _ (hQ _ _ ?_))
    have hE:z28 fo p kind v=6:=by
     rw[z28,hvf,qb (by decide),qb (by rw[g27];decide),qf g40]
    have hR:z15 fo p kind v=noFo:=by rw[z15,hE,qb (by decide)]
    rw[hE,hR];refine zu (fun x=>if x=4 then 9 else if x=5 then 10 else if x=6 then 8 else if x=7 then 11 else x) (nfS 6) nfH (.inl rfl) ?_;unfold nfS nfH;refine Zou ?_;refine⟨Zs,Zs,(Zg (fun x=>if x=4 then 9 else if x=5 then 10 else if x=6 then 8 else if x=7 then 11 else x)),Zs,?_⟩
    all_goals first|trivial|exact⟨rfl,trivial⟩
   ·intro h40;have g40:¬findI fo.ns v<0:=by simpa using h40
    refine Zrs [1,2,4,7,8,12,44] ?_;refine z7 _ rfl ?_ ?_
    ·intro h44;have g44:kind≠1/\kind≠2:=by simpa using h44
     refine Zrs [8,9] ?_;refine z2x 3 1 (lyF true []) ?_;dsimp only;refine znilV 6 0 62 3 (nds []) (h:= ?_);refine znilV 6 2 89 5 (lyR 8 []) (h:= ?_);refine znilV 6 3 58 3 (cbs []) (h:= ?_);refine ze (hR0 _ _ (hQ _ _ ?_))
     have hE:z28 fo p kind v=1:=by
      rw[z28,hvf,qb (by decide),qb (by rw[g27];decide),qb g40,qf g44]
     have hR:z15 fo p kind v=noFo:=by rw[z15,hE,qb (by decide)]
     rw[hE,hR];refine zu (fun x=>if x=4 then 9 else if x=5 then 10 else if x=6 then 8 else if x=7 then 11 else x) (nfS 1) nfH (.inl rfl) ?_;unfold nfS nfH;refine Zou ?_;refine⟨Zs,Zs,(Zg (fun x=>if x=4 then 9 else if x=5 then 10 else if x=6 then 8 else if x=7 then 11 else x)),Zs,?_⟩
     all_goals first|trivial|exact⟨rfl,trivial⟩
    ·intro h44
     have g44:¬(kind≠1/\kind≠2):=by
      intro g;rw[show(kind !=1 && kind !=2)=true by simpa using g] at h44;cases h44
     refine Zrs [1,2,4,7,8,12,52] ?_;refine z7 _ rfl ?_ ?_
     ·intro h52;have g52:(cbA fo.cb p.toNat).kind≠0:=by simpa using h52
      refine Zrs [8,9] ?_;refine z2x 3 1 (lyF true []) ?_;dsimp only;refine znilV 6 0 62 3 (nds []) (h:= ?_);refine znilV 6 2 89 5 (lyR 8 []) (h:= ?_);refine znilV 6 3 58 3 (cbs []) (h:= ?_);refine ze (hR0 _ _ (hQ _ _ ?_))
      have hE:z28 fo p kind v=7:=by
       rw[z28,hvf,qb (by decide),qb (by rw[g27];decide),qb g40,qb g44,qf g52]
      have hR:z15 fo p kind v=noFo:=by rw[z15,hE,qb (by decide)]
      rw[hE,hR];refine zu (fun x=>if x=4 then 9 else if x=5 then 10 else if x=6 then 8 else if x=7 then 11 else x) (nfS 7) nfH (.inl rfl) ?_;unfold nfS nfH;refine Zou ?_;refine⟨Zs,Zs,(Zg (fun x=>if x=4 then 9 else if x=5 then 10 else if x=6 then 8 else if x=7 then 11 else x)),Zs,?_⟩
      all_goals first|trivial|exact⟨rfl,trivial⟩
     ·intro h52;have g52:¬(cbA fo.cb p.toNat).kind≠0:=by simpa using h52
      refine Zrs [1,2,4,7,8,61] ?_;refine z7 _ rfl ?_ ?_
      ·intro h61;have g61:busyF fo.cb v=true:=h61;refine Zrs [8,9] ?_;refine z2x 3 1 (lyF true []) ?_;dsimp only;refine znilV 6 0 62 3 (nds []) (h:= ?_);refine znilV 6 2 89 5 (lyR 8 []) (h:= ?_);refine znilV 6 3 58 3 (cbs []) (h:= ?_);refine ze (hR0 _ _ (hQ _ _ ?_))
       have hE:z28 fo p kind v=13:=by
        rw[z28,hvf,qb (by decide),qb (by rw[g27];decide),qb g40,qb g44,qb g52,qf g61]
       have hR:z15 fo p kind v=noFo:=by rw[z15,hE,qb (by decide)]
       rw[hE,hR];refine zu (fun x=>if x=4 then 9 else if x=5 then 10 else if x=6 then 8 else if x=7 then 11 else x) (nfS 13) nfH (.inl rfl) ?_;unfold nfS nfH;refine Zou ?_;refine⟨Zs,Zs,(Zg (fun x=>if x=4 then 9 else if x=5 then 10 else if x=6 then 8 else if x=7 then 11 else x)),Zs,?_⟩
       all_goals first|trivial|exact⟨rfl,trivial⟩
      ·intro h61;have g61:busyF fo.cb v=false:=h61;refine sg [1,2,4,7,8,64] rfl ?_;intro K hK
       have hk15:∀B:Bool,B=(kind==1 && memF fo.ly v 0)->K [(1,.int .i64 p),(2,.int .i64 kind),(4,.ptr 4 0 0 0),(7,.ptr 5 0 0 0),(8,.ptr 6 0 0 0),(64,.bool B)] ⟨8,[(7,uQ (.row ⟨true,true,62,3,1,fun _=>[.int .i64 (findN fo.ns v).id,.str (findN fo.ns v).key,.int .u32 (findN fo.ns v).word]⟩)),(6,uQ (.row ⟨true,true,34,4,1,fun _=>[.nils,.int .i64 0,.nils,.nils]⟩)),(5,uQ (.row ⟨true,true,3,1,1,fun _=>[.int .i64 v]⟩)),(4,uQ (.row ⟨true,true,34,4,1,fun _=>[.slc false 0 0 0 fo.ns.length,.int .i64 fo.ht,.slc false 1 0 0 fo.ly.length,.slc false 3 0 0 fo.cb.length]⟩)),(0,uQ (.row ⟨false,false,62,3,fo.ns.length,nds fo.ns⟩)),(1,uQ (.row ⟨false,false,89,5,fo.ly.length,lyR 2 fo.ly⟩)),(2,(3*fo.ly.length+1,fam false 3 1 (lyF false fo.ly))),(3,uQ (.row ⟨false,false,58,3,fo.cb.length,cbs fo.cb⟩))]⟩:=by
        intro B hB;subst hB;refine hK _ _ ?_;clear hK K;refine z7 _ rfl ?_ ?_
        ·intro h64;have g64:kind=1/\memF fo.ly v 0=true:=by simpa using h64
         refine Zrs [8,9] ?_;refine z2x 3 1 (lyF true []) ?_;dsimp only;refine znilV 6 0 62 3 (nds []) (h:= ?_);refine znilV 6 2 89 5 (lyR 8 []) (h:= ?_);refine znilV 6 3 58 3 (cbs []) (h:= ?_);refine ze (hR0 _ _ (hQ _ _ ?_))
         have hE:z28 fo p kind v=5:=by
          rw[z28,hvf,qb (by decide),qb (by rw[g27];decide),qb g40,qb g44,qb g52,qb (by rw[g61];decide),qf g64]
         have hR:z15 fo p kind v=noFo:=by rw[z15,hE,qb (by decide)]
         rw[hE,hR];refine zu (fun x=>if x=4 then 9 else if x=5 then 10 else if x=6 then 8 else if x=7 then 11 else x) (nfS 5) nfH (.inl rfl) ?_;unfold nfS nfH;refine Zou ?_;refine⟨Zs,Zs,(Zg (fun x=>if x=4 then 9 else if x=5 then 10 else if x=6 then 8 else if x=7 then 11 else x)),Zs,?_⟩
         all_goals first|trivial|exact⟨rfl,trivial⟩
        ·intro h64;have g64:¬(kind=1/\memF fo.ly v 0=true):=by simpa using h64
         refine sg [1,2,4,7,8,73] rfl ?_;intro K hK
         have hk17:∀B:Bool,B=(kind==2 && !memF fo.ly v 0)->K [(1,.int .i64 p),(2,.int .i64 kind),(4,.ptr 4 0 0 0),(7,.ptr 5 0 0 0),(8,.ptr 6 0 0 0),(73,.bool B)] ⟨8,[(7,uQ (.row ⟨true,true,62,3,1,fun _=>[.int .i64 (findN fo.ns v).id,.str (findN fo.ns v).key,.int .u32 (findN fo.ns v).word]⟩)),(6,uQ (.row ⟨true,true,34,4,1,fun _=>[.nils,.int .i64 0,.nils,.nils]⟩)),(5,uQ (.row ⟨true,true,3,1,1,fun _=>[.int .i64 v]⟩)),(4,uQ (.row ⟨true,true,34,4,1,fun _=>[.slc false 0 0 0 fo.ns.length,.int .i64 fo.ht,.slc false 1 0 0 fo.ly.length,.slc false 3 0 0 fo.cb.length]⟩)),(0,uQ (.row ⟨false,false,62,3,fo.ns.length,nds fo.ns⟩)),(1,uQ (.row ⟨false,false,89,5,fo.ly.length,lyR 2 fo.ly⟩)),(2,(3*fo.ly.length+1,fam false 3 1 (lyF false fo.ly))),(3,uQ (.row ⟨false,false,58,3,fo.cb.length,cbs fo.cb⟩))]⟩:=by
          intro B hB;subst hB;refine hK _ _ ?_;clear hK K;refine z7 _ rfl ?_ ?_
          ·intro h73;have g73:kind=2/\memF fo.ly v 0=false:=by simpa using h73
           refine Zrs [8,9] ?_;refine z2x 3 1 (lyF true []) ?_;dsimp only;refine znilV 6 0 62 3 (nds []) (h:= ?_);refine znilV 6 2 89 5 (lyR 8 []) (h:= ?_);refine znilV 6 3 58 3 (cbs []) (h:= ?_);refine ze (hR0 _ _ (hQ _ _ ?_))
           have hE:z28 fo p kind v=18:=by
            rw[z28,hvf,qb (by decide),qb (by rw[g27];decide),qb g40,qb g44,qb g52,qb (by rw[g61];decide),qb g64,qf g73]
           have hR:z15 fo p kind v=noFo:=by rw[z15,hE,qb (by decide)]
           rw[hE,hR];refine zu (fun x=>if x=4 then 9 else if x=5 then 10 else if x=6 then 8 else if x=7 then 11 else x) (nfS 18) nfH (.inl rfl) ?_;unfold nfS nfH;refine Zou ?_;refine⟨Zs,Zs,(Zg (fun x=>if x=4 then 9 else if x=5 then 10 else if x=6 then 8 else if x=7 then 11 else x)),Zs,?_⟩
           all_goals first|trivial|exact⟨rfl,trivial⟩
          ·intro h73;have g73:¬(kind=2/\memF fo.ly v 0=false):=by simpa using h73
           refine za (zd (hN0 _ _ (z6 ?_)))
           obtain⟨x,s⟩:∃x,Sok fo p kind v x:=by
            rw[inC_iff] at g27;obtain⟨x,hx,hxi⟩:=findI_mem (show 0<=findI fo.ns v by omega);refine⟨x,g27.1,by omega,by omega,hx,hxi,by omega,by simpa using g61,?_⟩;have gk:kind=1\/kind=2:=by omega
            rcases gk with e|e<;>subst e
            ·cases hm:memF fo.ly v 0 with
             |false=>rfl
             |true=>exact absurd ⟨rfl,hm⟩ g64
            ·cases hm:memF fo.ly v 0 with
             |true=>rfl
             |false=>exact absurd ⟨rfl,hm⟩ g73
           obtain⟨hB,_⟩:=h.start_begin s
           have hE:z28 fo p kind v=0:=by
            rw[z28,hvf,qb (by decide),qb (by rw[g27];decide),qb g40,qb g44,qb g52,qb (by rw[g61];decide),qb g64,qb g73,hB]
           have hR:z15 fo p kind v={fo with ly:=beginL fo.ly p (begC fo.ht kind v),cb:=fo.cb.set p.toNat (begC fo.ht kind v)}:=by rw[z15,qf hE]
           have hpl:=s.pl;obtain⟨P,hP⟩:∃P:Nat,p=P:=⟨p.toNat,by have:=s.p0;omega⟩;rw[hP] at hpl hB hR hE;rw[qz] at hpl hR;rw[hP]
           have hgo:0<=plI fo.ly (begC fo.ht kind v).node (begC fo.ht kind v).lvl:=by
            obtain⟨i,k,a⟩:=h.sh.place s.mm (lv:=(begC fo.ht kind v).lvl) (by unfold begC;dsimp only;split<;>omega) (by unfold begC;dsimp only;split<;>omega);have:=a.pI;rw[s.ide] at this;rw[show(begC fo.ht kind v).node=v from rfl,this];omega
           refine z4p [1,2,4,7,8,13] rfl ?_;intro K hK;refine Zo Zl ?_;refine Zo Zl ?_;refine Zc1 (clone_specF fo hb fo.ns.length fo.ly.length fo.cb.length rfl rfl rfl (by omega) (by omega)) (id) ?_;iterate 2 (refine Zo Zl ?_)
           refine z8 (Zpr (hK _ _ ?_));clear hK K;refine sg [1,2,4,8,13] rfl ?_;intro K hK;iterate 8 (refine Zo Zl ?_)
           rw[cbs_put' _ _ _ _ _ hpl];repeat(with_reducible apply qe;exact sdE)
           refine z8 (Zpr (hK _ _ ?_));clear hK K;refine z6 ?_;refine Zrs [1,4,8,13,93] ?_;refine z7 _ rfl ?_ ?_
           ·intro h93;replace h93:=Znb h93;obtain⟨C1,hC1⟩:∃C1,fo.cb.set P ⟨kind,v,0⟩=C1:=⟨_,rfl⟩;have hC1l:C1.length=fo.cb.length:=by rw[<-hC1,qD]
            have hC1p:cbA C1 P=⟨kind,v,0⟩:=by rw[<-hC1];exact z3m hpl
            have hC2:C1.set P ⟨kind,v,fo.ht⟩=fo.cb.set P (begC fo.ht kind v):=by rw[<-hC1,List.set_set,begC,qf h93]
            rw[hC1];refine z4p [1,8,13] rfl ?_;intro K hK;iterate 8 (refine Zo Zl ?_)
            rw[cbs_put' _ _ _ _ _ (by omega),hC1p,hC2];repeat(with_reducible apply qe;exact sdE)
            refine z8 (Zpr (hK _ _ ?_));clear hK K;refine z6 (z6 ?_);obtain⟨C2,hC2'⟩:∃C2,fo.cb.set P (begC fo.ht kind v)=C2:=⟨_,rfl⟩;have hC2l:C2.length=fo.cb.length:=by rw[<-hC2',qD]
            have hC2p:cbA C2 P=begC fo.ht kind v:=by rw[<-hC2'];exact z3m hpl
            rw[hC2'];refine z4p [8,13,14] rfl ?_;intro K hK;iterate 2 (refine Zo Zl ?_)
            refine Zo Zl ?_;refine Zc1 (begin_spec fo.ly C2 hb fo.ns.length fo.ly.length fo.cb.length P fo.ht rfl hC2l (by omega) (by omega) (by rw[hC2p];exact hgo) (by rw[hC2p];exact hB)) (fun x=>if x=0 then 8 else if x=1 then 9 else if x=2 then 10 else if x=3 then 11 else x) ?_;rw[hC2p];refine Zo Zl ?_;refine z8 (Zpr (hK _ _ ?_));clear hK K;refine Zrs [8,13,14,105] ?_;refine z7 _ rfl ?_ ?_
            ·intro h105
             exfalso;simp at h105
            ·intro h105
             refine za (z6 ?_);obtain⟨I,hIe⟩:∃I,(plI fo.ly (begC fo.ht kind v).node (begC fo.ht kind v).lvl).toNat=I:=⟨_,rfl⟩;obtain⟨R,hRe⟩:∃R,begR fo.ly (P:Int) (begC fo.ht kind v)=R:=⟨_,rfl⟩;have hUp:=begR_eq hB;rw[hIe,hRe] at hUp;rw[hIe,hRe];have hout:∀q,q<fo.ly.length->lyW 10 fo.ly I 13 14 R q=SV.renPL (mvM (fun x=>x) 10 (ms2 I 13 14)) (lyR 10 (upL fo.ly I R.1 R.2) q):=fun q hq=>lyW_M2 10 fo.ly I 13 14 R q hq;refine z4o (fr':=[(8,.ptr 6 0 0 0),(13,.ptr 12 0 0 0)]) (H':=⟨13,[(12,uQ (.row ⟨true,true,34,4,1,fun _=>[.slc true 8 0 0 fo.ns.length,.int .i64 fo.ht,.slc true 9 0 0 fo.ly.length,.slc true 11 0 0 fo.cb.length]⟩)),(9,uQ (.row ⟨true,false,89,5,fo.ly.length,lyR 10 (upL fo.ly I R.1 R.2)⟩)),(10,(3*fo.ly.length+1,fam true 3 1 (lyF true (upL fo.ly I R.1 R.2)))),(11,uQ (.row ⟨true,false,58,3,fo.cb.length,cbs C2⟩)),(8,uQ (.row ⟨true,false,62,3,fo.ns.length,nds fo.ns⟩)),(6,uQ (.row ⟨true,true,34,4,1,fun _=>[.nils,.int .i64 0,.nils,.nils]⟩))]⟩) _ (Zgm (fun x=>x) (10) (ms2 I 13 14) (ms2_ok _ (by decide) ⟨rfl,rfl⟩ ⟨qd rfl,qd rfl⟩) ((z13 (by decide) rfl qm (zr.of (fun _=>⟨rfl,rfl⟩) rfl (qc _) (fun _ _=>rfl)) (Obj.lt_row.2 fun q _=>by simp[SV.ltL,SV.lt]) (qd rfl) (z13 (by decide) rfl qm (zr.of (fun _=>⟨rfl,rfl⟩) rfl (qc _) (hout)) (Obj.lt_row.2 fun q _=>(lyR_lt _ _ _ q).2 (qd rfl)) (qd rfl) (lyF_consU (r:=R) rfl rfl rfl (qd rfl) (z13 (by decide) rfl qm (zr.of (fun _=>⟨rfl,rfl⟩) rfl (qc _) (fun q _=>(cbs_renP _ _ q).symm)) (Obj.lt_row.2 fun q _=>cbs_lt _ _ q) (qd rfl) (z13 (by decide) rfl qm (zr.of (fun _=>⟨rfl,rfl⟩) rfl (qc _) (fun q _=>(z33 _ _ q).symm)) (Obj.lt_row.2 fun q _=>z4u _ _ q) (qd rfl) (z13 (by decide) rfl qm (zr.of (fun _=>⟨rfl,rfl⟩) rfl (qc _) (fun _ _=>rfl)) (Obj.lt_row.2 fun q _=>by simp[SV.ltL,SV.lt]) (qd rfl) trivial)))))))) ?_
             refine Zrg [8,9] ?_;refine ze (hQ _ _ ?_);rw[hP,hE,hR];dsimp only;rw[hC2',<-hUp,z5f,hC2l];refine zu (fun x=>if x=4 then 8 else if x=5 then 9 else if x=6 then 10 else if x=7 then 11 else x) (.tup [.agg [.slc true 4 0 0 fo.ns.length,.int .i64 fo.ht,.slc true 5 0 0 fo.ly.length,.slc true 7 0 0 fo.cb.length],.int .i64 0]) (⟨8,[(4,uQ (.row ⟨true,false,62,3,fo.ns.length,nds fo.ns⟩)),(5,uQ (.row ⟨true,false,89,5,fo.ly.length,lyR 6 (upL fo.ly I R.1 R.2)⟩)),(6,(3*fo.ly.length+1,fam true 3 1 (lyF true (upL fo.ly I R.1 R.2)))),(7,uQ (.row ⟨true,false,58,3,fo.cb.length,cbs C2⟩))]⟩) (.inl rfl) ?_;refine Zou ?_;refine⟨Zs,Zs,(Zg (fun x=>if x=4 then 8 else if x=5 then 9 else if x=6 then 10 else if x=7 then 11 else x)),Zs,?_⟩
             all_goals first|trivial|exact⟨rfl,trivial⟩
           ·intro h93;replace h93:=Znb h93;have hC2:fo.cb.set P ⟨kind,v,0⟩=fo.cb.set P (begC fo.ht kind v):=by rw[begC,qb h93]
            rw[hC2];refine za (z6 (z6 ?_));obtain⟨C2,hC2'⟩:∃C2,fo.cb.set P (begC fo.ht kind v)=C2:=⟨_,rfl⟩;have hC2l:C2.length=fo.cb.length:=by rw[<-hC2',qD]
            have hC2p:cbA C2 P=begC fo.ht kind v:=by rw[<-hC2'];exact z3m hpl
            rw[hC2'];refine z4p [8,13,14] rfl ?_;intro K hK;iterate 2 (refine Zo Zl ?_)
            refine Zo Zl ?_;refine Zc1 (begin_spec fo.ly C2 hb fo.ns.length fo.ly.length fo.cb.length P fo.ht rfl hC2l (by omega) (by omega) (by rw[hC2p];exact hgo) (by rw[hC2p];exact hB)) (fun x=>if x=0 then 8 else if x=1 then 9 else if x=2 then 10 else if x=3 then 11 else x) ?_;rw[hC2p];refine Zo Zl ?_;refine z8 (Zpr (hK _ _ ?_));clear hK K;refine Zrs [8,13,14,105] ?_;refine z7 _ rfl ?_ ?_
            ·intro h105
             exfalso;simp at h105
            ·intro h105
             refine za (z6 ?_);obtain⟨I,hIe⟩:∃I,(plI fo.ly (begC fo.ht kind v).node (begC fo.ht kind v).lvl).toNat=I:=⟨_,rfl⟩;obtain⟨R,hRe⟩:∃R,begR fo.ly (P:Int) (begC fo.ht kind v)=R:=⟨_,rfl⟩;have hUp:=begR_eq hB;rw[hIe,hRe] at hUp;rw[hIe,hRe];have hout:∀q,q<fo.ly.length->lyW 10 fo.ly I 13 14 R q=SV.renPL (mvM (fun x=>x) 10 (ms2 I 13 14)) (lyR 10 (upL fo.ly I R.1 R.2) q):=fun q hq=>lyW_M2 10 fo.ly I 13 14 R q hq;refine z4o (fr':=[(8,.ptr 6 0 0 0),(13,.ptr 12 0 0 0)]) (H':=⟨13,[(12,uQ (.row ⟨true,true,34,4,1,fun _=>[.slc true 8 0 0 fo.ns.length,.int .i64 fo.ht,.slc true 9 0 0 fo.ly.length,.slc true 11 0 0 fo.cb.length]⟩)),(9,uQ (.row ⟨true,false,89,5,fo.ly.length,lyR 10 (upL fo.ly I R.1 R.2)⟩)),(10,(3*fo.ly.length+1,fam true 3 1 (lyF true (upL fo.ly I R.1 R.2)))),(11,uQ (.row ⟨true,false,58,3,fo.cb.length,cbs C2⟩)),(8,uQ (.row ⟨true,false,62,3,fo.ns.length,nds fo.ns⟩)),(6,uQ (.row ⟨true,true,34,4,1,fun _=>[.nils,.int .i64 0,.nils,.nils]⟩))]⟩) _ (Zgm (fun x=>x) (10) (ms2 I 13 14) (ms2_ok _ (by decide) ⟨rfl,rfl⟩ ⟨qd rfl,qd rfl⟩) ((z13 (by decide) rfl qm (zr.of (fun _=>⟨rfl,rfl⟩) rfl (qc _) (fun _ _=>rfl)) (Obj.lt_row.2 fun q _=>by simp[SV.ltL,SV.lt]) (qd rfl) (z13 (by decide) rfl qm (zr.of (fun _=>⟨rfl,rfl⟩) rfl (qc _) (hout)) (Obj.lt_row.2 fun q _=>(lyR_lt _ _ _ q).2 (qd rfl)) (qd rfl) (lyF_consU (r:=R) rfl rfl rfl (qd rfl) (z13 (by decide) rfl qm (zr.of (fun _=>⟨rfl,rfl⟩) rfl (qc _) (fun q _=>(cbs_renP _ _ q).symm)) (Obj.lt_row.2 fun q _=>cbs_lt _ _ q) (qd rfl) (z13 (by decide) rfl qm (zr.of (fun _=>⟨rfl,rfl⟩) rfl (qc _) (fun q _=>(z33 _ _ q).symm)) (Obj.lt_row.2 fun q _=>z4u _ _ q) (qd rfl) (z13 (by decide) rfl qm (zr.of (fun _=>⟨rfl,rfl⟩) rfl (qc _) (fun _ _=>rfl)) (Obj.lt_row.2 fun q _=>by simp[SV.ltL,SV.lt]) (qd rfl) trivial)))))))) ?_
             refine Zrg [8,9] ?_;refine ze (hQ _ _ ?_);rw[hP,hE,hR];dsimp only;rw[hC2',<-hUp,z5f,hC2l];refine zu (fun x=>if x=4 then 8 else if x=5 then 9 else if x=6 then 10 else if x=7 then 11 else x) (.tup [.agg [.slc true 4 0 0 fo.ns.length,.int .i64 fo.ht,.slc true 5 0 0 fo.ly.length,.slc true 7 0 0 fo.cb.length],.int .i64 0]) (⟨8,[(4,uQ (.row ⟨true,false,62,3,fo.ns.length,nds fo.ns⟩)),(5,uQ (.row ⟨true,false,89,5,fo.ly.length,lyR 6 (upL fo.ly I R.1 R.2)⟩)),(6,(3*fo.ly.length+1,fam true 3 1 (lyF true (upL fo.ly I R.1 R.2)))),(7,uQ (.row ⟨true,false,58,3,fo.cb.length,cbs C2⟩))]⟩) (.inl rfl) ?_;refine Zou ?_;refine⟨Zs,Zs,(Zg (fun x=>if x=4 then 8 else if x=5 then 9 else if x=6 then 10 else if x=7 then 11 else x)),Zs,?_⟩
             all_goals first|trivial|exact⟨rfl,trivial⟩
         iterate 5 (refine Zo Zl ?_)
         refine z11 ?_;refine z1w rfl rfl ?_;refine Zgr ?_
         first|refine z1r ?_ ?_|refine(fun(h1:false=true->_) (h2:false=false->_)=>qe h1 fun _=>h2 rfl) ?_ ?_|refine qe ?_ ?_
         ·intro hg5
          first
           |(simp at hg5;done)
           |skip
            try replace hg5:=Znb hg5
            refine Zo id ?_;refine Zc1 (member_spec fo.ly hb hlc fo.ly.length fo.ns.length fo.cb.length rfl fo.ht v 0) (id) ?_;iterate 3 (refine Zo Zl ?_)
            refine z8 ?_;refine Zpr ?_;refine hk17 _ ?_;clear hk17 K hK;simp_all
         ·intro hg5;refine⟨.bool false,?_⟩
          first
           |(simp at hg5;done)
           |skip
            try replace hg5:=Znb hg5
            iterate 3 (refine Zo Zl ?_)
            refine z8 ?_;refine Zpr ?_;refine hk17 _ ?_;clear hk17 K hK;simp_all
       iterate 5 (refine Zo Zl ?_)
       refine z11 ?_;refine z1w rfl rfl ?_;refine Zgr ?_
       first|refine z1r ?_ ?_|refine(fun(h1:false=true->_) (h2:false=false->_)=>qe h1 fun _=>h2 rfl) ?_ ?_|refine qe ?_ ?_
       ·intro hg5
        first
         |(simp at hg5;done)
         |skip
          try replace hg5:=Znb hg5
          refine Zo id ?_;refine Zc1 (member_spec fo.ly hb hlc fo.ly.length fo.ns.length fo.cb.length rfl fo.ht v 0) (id) ?_;iterate 2 (refine Zo Zl ?_)
          refine z8 ?_;refine Zpr ?_;refine hk15 _ ?_;clear hk15 K hK;simp_all
       ·intro hg5;refine⟨.bool false,?_⟩
        first
         |(simp at hg5;done)
         |skip
          try replace hg5:=Znb hg5
          iterate 2 (refine Zo Zl ?_)
          refine z8 ?_;refine Zpr ?_;refine hk15 _ ?_;clear hk15 K hK;simp_all
end
section
def z1n (fo:Fo)(lv:Int):List Int:=if 0<=lv/\lv<=fo.ht then((z43 fo.ns).filter fun x=>memF fo.ly x.id lv).map (·.id) else []
theorem map_snoc (l:List Nd)(x:Nd):(l++[x]).map (·.id)=l.map (·.id)++[x.id]:=by simp
def JnZm.exE:=aj9 @z1b @zg @zh @zq @zk @z14 @z1a ec2 (aj9 @zi @zy @zo @zl z5u @zp z47 z4n (aj9 @zz ec3 ec5 @z19.eq_1 @z12.eq_1 @ints.eq_1 ec34 ec35 (aj3 ec36 @z1f @app_intsN)))
def JnZm.axE:=aj9 @z1b @zg @zh @zq @zk @z14 @z1a ec2 (aj9 @zi @zy @zo @zl z5u @zp z47 z4n (aj9 @zz ec3 ec5 @z19.eq_1 @z12.eq_1 ec34 ec35 @z1f (aj7 @app_intsN @z1v @z2e @z2t @z34 ec38 @z3z)))
open JnNm (gxE oxE)
open JnZm (axE exE)
open D0 (sdE)
theorem z4x (fo:Fo)(ls:Nat->List Int)(h:FI fo ls)(n k m:Nat)(lv:Int)(hn:fo.ns.length=n)(hk:fo.ly.length=k)(hm:fo.cb.length=m):
  zf prog 33 [.agg [.slc false 0 0 0 n,.int .i64 fo.ht,.slc false 1 0 0 k,.slc false 3 0 0 m],.int .i64 lv] ⟨4,[(0,uQ (.row ⟨false,false,62,3,n,nds fo.ns⟩)),(1,uQ (.row ⟨false,false,89,5,k,lyR 2 fo.ly⟩)),(2,(3*k+1,fam false 3 1 (lyF false fo.ly))),(3,uQ (.row ⟨false,false,58,3,m,cbs fo.cb⟩))]⟩
   (fun s H1=>s= .slc true 4 0 0 (z1n fo lv).length/\H1=⟨5,[(4,uQ (.row ⟨true,false,3,1,(z1n fo lv).length,ints (z1n fo lv)⟩))]⟩):=by
 have hb:=h.sh.lyB;have hlc:=h.sh.lyC;have hx64:=h.sh.few;have hx8:=h.sh.m8;have hh0:=h.sh.h0;have hh16:=h.sh.h16;have hvf:=h.vf;subst hn hk hm;have hsl:(z43 fo.ns).length=fo.ns.length:=(z1o fo.ns).length_eq.symm;refine zf.ofC false 41 [.tmp 4] func33 rfl rfl ntmps33 results33 rfl ?_;intro w0 own0 β0 Q hQ hQn;simp only[z1c];refine Zrs [1,2] ?_;refine z6 ?_;refine sg [1,2,20] rfl ?_;intro K hK;refine Zo Zl ?_;refine Zo Zl ?_;refine Zc1 (valid_specF fo hb fo.ns.length fo.ly.length fo.cb.length rfl rfl rfl (by omega) (by omega) (by omega)) (id) ?_;rw[hvf];iterate 11 (refine Zo Zl ?_)
 refine z8 (Zpr (hK _ _ ?_));clear hK K;refine z7 _ rfl ?_ ?_
 ·intro h20
  have hno:¬(0<=lv/\lv<=fo.ht):=by
   rintro⟨g1,g2⟩;rcases(by simpa using h20:lv<0\/fo.ht<lv) with g|g<;>omega
  refine Zrs [4] ?_;refine z29 4 3 1 (ints []) rfl ?_;dsimp only;refine ze (hQ _ _ ?_);rw[show z1n fo lv=[] by rw[z1n,qb hno]];refine zu (fun x=>if x=4 then 5 else x) (.slc true 4 0 0 ([]:List Int).length) (⟨5,[(4,uQ (.row ⟨true,false,3,1,([]:List Int).length,ints []⟩))]⟩) (.inl rfl) ?_;refine Zou ?_;refine⟨Zs,Zs,(Zg (fun x=>if x=4 then 5 else x)),Zs,?_⟩
  all_goals first|trivial|exact⟨rfl,trivial⟩
 ·intro h20
  have hyes:0<=lv/\lv<=fo.ht:=by
   have:¬(lv<0\/fo.ht<lv):=by intro g;rw[show(decide (lv<0)||decide (fo.ht<lv))=true by simpa using g] at h20;cases h20
   omega
  refine za ?_;refine Zrs [1,2,5] ?_;refine z6 ?_;refine sg [1,2,5,23,24,25] rfl ?_;intro K hK;iterate 2 (refine Zo Zl ?_)
  refine Zo Zl ?_;refine Zc1 (sort_spec fo.ns fo.ns.length rfl (by omega)) (id) ?_;iterate 2 (refine Zo Zl ?_)
  refine z8 (Zpr (hK _ _ ?_));clear hK K;obtain⟨s,hs⟩:∃s,z43 fo.ns=s:=⟨_,rfl⟩;rw[hs] at hsl ⊢;obtain⟨P,hP⟩:∃P:Nd->Bool,(fun x:Nd=>memF fo.ly x.id lv)=P:=⟨_,rfl⟩;have hPx:∀x:Nd,memF fo.ly x.id lv=P x:=fun x=>by rw[<-hP]
  refine z29 5 3 1 (ints (((s.take 0).filter P).map (·.id))) rfl ?_;dsimp only;refine zb fun Q0 hN0 hX0 hR0 hE0=> ?_;refine zn (σ:=Nat) (fun i=>i<=fo.ns.length) (fun i=>fo.ns.length-i) (fun i=>[(1,.int .i64 lv),(2,.ptr 4 0 0 0),(5,.slc true 6 0 0 (((s.take i).filter P).map (·.id)).length),(23,.slc true 5 0 0 fo.ns.length),(24,.int .i64 fo.ns.length),(25,.int .i64 i)]) (fun i=>⟨7,[(6,uQ (.row ⟨true,false,3,1,(((s.take i).filter P).map (·.id)).length,ints (((s.take i).filter P).map (·.id))⟩)),(5,uQ (.row ⟨true,false,62,3,fo.ns.length,nds s⟩)),(4,uQ (.row ⟨true,true,34,4,1,fun _=>[.slc false 0 0 0 fo.ns.length,.int .i64 fo.ht,.slc false 1 0 0 fo.ly.length,.slc false 3 0 0 fo.cb.length]⟩)),(0,uQ (.row ⟨false,false,62,3,fo.ns.length,nds fo.ns⟩)),(1,uQ (.row ⟨false,false,89,5,fo.ly.length,lyR 2 fo.ly⟩)),(2,(3*fo.ly.length+1,fam false 3 1 (lyF false fo.ly))),(3,uQ (.row ⟨false,false,58,3,fo.cb.length,cbs fo.cb⟩))]⟩) 0 (qo _) (ρ:=id) (Zg id) ?_;rintro i hi QL1 hL1 hRL1 hEL1;refine Zrs [1,2,5,23,24,25,26] ?_;refine z6 ?_;refine z7 _ rfl ?_ ?_
  ·intro h26;replace h26:=Znb h26;have hst:=filter_step (xs:=s) (j:=i) (by omega) P;have hfl:((s.take i).filter P).length<=i:=qT (jF ..) (by rw[qS];omega);obtain⟨O,hO⟩:∃O,((s.take i).filter P).map (·.id)=O:=⟨_,rfl⟩;have hOl:O.length<=i:=by rw[<-hO,qA];exact hfl
   rw[hO];refine za (z6 (zb fun Q1 hN1 hX1 hR1 hE1=> ?_));refine Zrs [1,2,5,7,23,24,25] ?_;refine sg [1,2,5,7,23,24,25,33] rfl ?_;intro K hK;iterate 4 (refine Zo Zl ?_)
   refine Zo Zl ?_;refine Zc1 (member_spec fo.ly hb hlc fo.ly.length fo.ns.length fo.cb.length rfl fo.ht (nd s i).id lv) (id) ?_;rw[hPx];refine z8 (Zpr (hK _ _ ?_));clear hK K;refine z7 _ rfl ?_ ?_
   ·intro h33;rw[h33,qf rfl] at hst;refine Zrg [1,2,5,23,24,25] ?_;refine zd (hN1 _ _ ?_);refine Zrg [1,2,5,23,24,25] ?_;refine zd (hL1 _ _ ?_);have e1:((s.take (i+1)).filter P).map (·.id)=O++[(nd s i).id]:=by rw[hst,map_snoc,hO]
    rw[show(i:Int)+1=((i+1:Nat):Int) from by omega];refine⟨i+1,⟨by omega,by omega⟩,fun x=>if x=6 then 9 else x,?_⟩;rw[e1];exact(Zg (fun x=>if x=6 then 9 else x))
   ·intro h33;rw[h33,qb (by decide),QN] at hst;refine za (zd (hN1 _ _ ?_));refine Zrg [1,2,5,23,24,25] ?_;refine zd (hL1 _ _ ?_);rw[<-hO,show(i:Int)+1=((i+1:Nat):Int) from by omega,<-hst];exact⟨i+1,⟨by omega,by omega⟩,id,(Zg id)⟩
  ·intro h26;replace h26:=Znb h26;refine zm (hEL1 _ _ _ (hX0 _ _ ?_));refine Zrs [4] ?_;refine ze (hQ _ _ ?_);have hie:i=fo.ns.length:=by omega
   subst hie;rw[show z1n fo lv=(s.filter P).map (·.id) by rw[z1n,qf hyes,hs,hP],Qt (by omega:s.length<=fo.ns.length)];refine zu (fun x=>if x=4 then 6 else x) (.slc true 4 0 0 ((s.filter P).map (·.id)).length) (⟨5,[(4,uQ (.row ⟨true,false,3,1,((s.filter P).map (·.id)).length,ints ((s.filter P).map (·.id))⟩))]⟩) (.inl rfl) ?_;refine Zou ?_;refine⟨Zs,Zs,(Zg (fun x=>if x=4 then 6 else x)),Zs,?_⟩
   all_goals first|trivial|exact⟨rfl,trivial⟩
end
section
def bsyN (C:List Cb)(i:Nat):Nat:=sumR (fun p=>((cbA C p).kind !=0).toNat) i
theorem bsyN_le (C:List Cb):∀i,bsyN C i<=i
 |0=>qc _
 |i+1=>by
  have:=bsyN_le C i;have h:((cbA C i).kind !=0).toNat<=1:=by cases(cbA C i).kind !=0<;>decide
  simp only[bsyN,sumR] at this ⊢;omega
def boundF (fo:Fo):Int:=(z2c fo.cb:Int)*(fo.ht+1)*(((z2c fo.cb:Int)+1)*((fo.ns.length:Int)+7)+7)
theorem mul_in {a b A B:Int}(ha:0<=a/\a<=A)(hb:0<=b/\b<=B):0<=a*b/\a*b<=A*B:=⟨Int.mul_nonneg ha.1 hb.1,Int.mul_le_mul ha.2 hb.2 hb.1 (by omega)⟩
open JnNm (gxE axE oxE exE)
open D0 (sdE)
theorem Bound_spec (fo:Fo)(ls:Nat->List Int)(h:FI fo ls)(n k m:Nat)(hn:fo.ns.length=n)(hk:fo.ly.length=k)(hm:fo.cb.length=m):
  zf prog 35 [.agg [.slc false 0 0 0 n,.int .i64 fo.ht,.slc false 1 0 0 k,.slc false 3 0 0 m]] ⟨4,[(0,uQ (.row ⟨false,false,62,3,n,nds fo.ns⟩)),(1,uQ (.row ⟨false,false,89,5,k,lyR 2 fo.ly⟩)),(2,(3*k+1,fam false 3 1 (lyF false fo.ly))),(3,uQ (.row ⟨false,false,58,3,m,cbs fo.cb⟩))]⟩ (fun s H1=>s= .int .i64 (boundF fo)/\H1=⟨4,[]⟩):=by
 have hb:=h.sh.lyB;have hlc:=h.sh.lyC;have hx64:=h.sh.few;have hx8:=h.sh.m8;have hh0:=h.sh.h0;have hh16:=h.sh.h16;have hvf:=h.vf;subst hn hk hm;refine zf.ofC false 38 [.tmp 2] func35 rfl rfl ntmps35 results35 rfl ?_;intro w0 own0 β0 Q hQ hQn;simp only[z1c];refine Zrs [1] ?_;refine z6 ?_;refine sg [1,9] rfl ?_;intro K hK;refine Zo Zl ?_;refine Zo Zl ?_;refine Zc1 (valid_specF fo hb fo.ns.length fo.ly.length fo.cb.length rfl rfl rfl (by omega) (by omega) (by omega)) (id) ?_;rw[hvf];refine Zo Zl ?_;refine z8 (Zpr (hK _ _ ?_));clear hK K;refine z7 _ rfl ?_ ?_
 ·intro h9
  exfalso;simp at h9
 ·intro h9
  refine za (z6 ?_);refine Zrd [1,3,4] [0,1,2,3,4] [[],[],[],[],[]] [[],[],[],[],[]] ?_;intro K hK;iterate 5 (refine Zo (Zi [] []) ?_)
  refine zx (Zpr (hK _ _ ?_));clear hK K;refine z6 ?_;refine Zrs [1,3,4,14,15,16] ?_;refine zb fun Q0 hN0 hX0 hR0 hE0=> ?_;refine zn (σ:=Nat) (fun i=>i<=fo.cb.length) (fun i=>fo.cb.length-i) (fun i=>[(1,.ptr 4 0 0 0),(3,.int .i64 (bsyN fo.cb i)),(4,.int .i64 fo.ns.length),(14,.slc false 3 0 0 fo.cb.length),(15,.int .i64 fo.cb.length),(16,.int .i64 i)]) (fun i=>⟨5,[(4,uQ (.row ⟨true,true,34,4,1,fun _=>[.slc false 0 0 0 fo.ns.length,.int .i64 fo.ht,.slc false 1 0 0 fo.ly.length,.slc false 3 0 0 fo.cb.length]⟩)),(0,uQ (.row ⟨false,false,62,3,fo.ns.length,nds fo.ns⟩)),(1,uQ (.row ⟨false,false,89,5,fo.ly.length,lyR 2 fo.ly⟩)),(2,(3*fo.ly.length+1,fam false 3 1 (lyF false fo.ly))),(3,uQ (.row ⟨false,false,58,3,fo.cb.length,cbs fo.cb⟩))]⟩) 0 (qo _) (ρ:=id) (have xE:=aj @bsyN.eq_1 (aj @sumR.eq_1 @sumR.eq_2);Zgx id) ?_;rintro i hi QL1 hL1 hRL1 hEL1;refine Zrs [1,3,4,14,15,16,17] ?_;refine z6 ?_;refine z7 _ rfl ?_ ?_
  ·intro h17;replace h17:=Znb h17;have hbl:=bsyN_le fo.cb i;refine za (z6 (zb fun Q1 hN1 hX1 hR1 hE1=> ?_));refine Zrs [1,3,4,6,14,15,16] ?_;refine Zrs [1,3,4,14,15,16,22] ?_;refine z7 _ rfl ?_ ?_
   ·intro h22;have e1:bsyN fo.cb (i+1)=bsyN fo.cb i+1:=by rw[bsyN,sumR,h22];rfl
    refine Zrg [1,3,4,14,15,16] ?_;refine zd (hN1 _ _ ?_);refine Zrg [1,3,4,14,15,16] ?_;refine zd (hL1 _ _ ?_);rw[show(i:Int)+1=((i+1:Nat):Int) from by omega,show(bsyN fo.cb i:Int)+1=((bsyN fo.cb (i+1):Nat):Int) from by omega];exact⟨i+1,⟨by omega,by omega⟩,id,(Zg id)⟩
   ·intro h22;have e1:bsyN fo.cb (i+1)=bsyN fo.cb i:=by rw[bsyN,sumR,h22];rfl
    refine za (zd (hN1 _ _ ?_));refine Zrg [1,3,4,14,15,16] ?_;refine zd (hL1 _ _ ?_);rw[show(i:Int)+1=((i+1:Nat):Int) from by omega,<-e1];exact⟨i+1,⟨by omega,by omega⟩,id,(Zg id)⟩
  ·intro h17;replace h17:=Znb h17;have hbl:=bsyN_le fo.cb i;refine zm (hEL1 _ _ _ (hX0 _ _ (z6 ?_)));have hie:i=fo.cb.length:=by omega
   subst hie;have hM:bsyN fo.cb fo.cb.length=z2c fo.cb:=rfl;rw[hM] at hbl ⊢;obtain⟨M,hMe⟩:∃M,z2c fo.cb=M:=⟨_,rfl⟩;rw[hMe] at hbl ⊢;have p1:=mul_in (a:=(M:Int)) (b:=fo.ht+1) (A:=8) (B:=17) (by omega) (by omega);have p2:=mul_in (a:=(M:Int)+1) (b:=(fo.ns.length:Int)+7) (A:=9) (B:=71) (by omega) (by omega);have p3:=mul_in (a:=(M:Int)*(fo.ht+1)) (b:=((M:Int)+1)*((fo.ns.length:Int)+7)+7) (A:=136) (B:=646) (by omega) (by omega);refine Zrg [2] ?_;refine ze (hQ _ _ ?_);refine zc (H':=⟨4,[]⟩) (.inl rfl) ?_;refine Zou ?_;refine⟨Zs,(Zg id),Zs,?_⟩;rw[boundF,hMe];exact⟨rfl,by trivial⟩
theorem FI.nest {fo:Fo}{ls:Nat->List Int}(h:FI fo ls){x:Nd}(hx:x∈fo.ns){lv:Int}(l1:1<=lv)(lh:lv<=fo.ht)(hm:memF fo.ly x.id lv=true):memF fo.ly x.id (lv-1)=true:=by
 rw[memF_gone h.sh hx (by omega) lh,qk] at hm;rw[memF_gone h.sh hx (by omega) (by omega),qk]
 by_cases hb:busyF fo.cb x.id=false
 ·rw[h.lev x hx hb (lv-1) (by omega) (by omega),<-h.lev x hx hb lv (by omega) lh];exact hm
 ·have:¬∀p,p<fo.cb.length->(cbA fo.cb p).kind≠0->(cbA fo.cb p).node≠x.id:=fun g=>hb (z1z.2 g)
  have⟨p,hp,hk,hn⟩:∃p,p<fo.cb.length/\(cbA fo.cb p).kind≠0/\(cbA fo.cb p).node=x.id:=by
   refine QH fun g=>this fun p hp hk hn=>g ⟨p,hp,hk,hn⟩
  have g1:=h.low p hp hk lv (by omega) lh;have g2:=h.low p hp hk (lv-1) (by omega) (by omega);rw[hn] at g1 g2
  by_cases g:lv-1<(cbA fo.cb p).lvl
  ·exact g2.1 g
  ·rw[g1.2 (by omega)] at hm;cases hm
theorem presF_mem {fo:Fo}{lv:Int}{v:Int}:v∈z1n fo lv↔(0<=lv/\lv<=fo.ht)/\∃x∈fo.ns,x.id=v/\memF fo.ly v lv=true:=by
 unfold z1n
 split
 ·rename_i g;simp only[Qy,ji,g,J4,QT]
  constructor
  ·rintro⟨x,⟨h1,h2⟩,rfl⟩;exact⟨x,(z1o fo.ns).mem_iff.2 h1,rfl,h2⟩
  ·rintro⟨x,h1,rfl,h2⟩;exact⟨x,⟨(z1o fo.ns).mem_iff.1 h1,h2⟩,rfl⟩
 ·rename_i g;simp[g]
theorem presF_len (fo:Fo)(lv:Int):(z1n fo lv).length<=fo.ns.length:=by
 unfold z1n
 split
 ·rw[qA];exact qT (jF ..) (by rw[<-(z1o fo.ns).length_eq];exact qc _)
 ·simp
theorem Check_spec (fo:Fo)(ls:Nat->List Int)(h:FI fo ls)(n k m:Nat)(hn:fo.ns.length=n)(hk:fo.ly.length=k)(hm:fo.cb.length=m):
  zf prog 32 [.agg [.slc false 0 0 0 n,.int .i64 fo.ht,.slc false 1 0 0 k,.slc false 3 0 0 m]] ⟨4,[(0,uQ (.row ⟨false,false,62,3,n,nds fo.ns⟩)),(1,uQ (.row ⟨false,false,89,5,k,lyR 2 fo.ly⟩)),(2,(3*k+1,fam false 3 1 (lyF false fo.ly))),(3,uQ (.row ⟨false,false,58,3,m,cbs fo.cb⟩))]⟩ (fun s H1=>s= .bool true/\H1=⟨4,[]⟩):=by
 have hb:=h.sh.lyB;have hlc:=h.sh.lyC;have hlb:=hb.1;have hx64:=h.sh.few;have hx8:=h.sh.m8;have hh0:=h.sh.h0;have hh16:=h.sh.h16;have hvf:=h.vf;subst hn hk hm;refine zf.ofC false 44 [.tmp 2] func32 rfl rfl ntmps32 results32 rfl ?_;intro w0 own0 β0 Q hQ hQn;simp only[z1c];refine Zrs [1] ?_;refine z6 ?_;refine sg [1,10] rfl ?_;intro K hK;refine Zo Zl ?_;refine Zo Zl ?_;refine Zc1 (valid_specF fo hb fo.ns.length fo.ly.length fo.cb.length rfl rfl rfl (by omega) (by omega) (by omega)) (id) ?_;rw[hvf];refine Zo Zl ?_;refine z8 (Zpr (hK _ _ ?_));clear hK K;refine z7 _ rfl ?_ ?_
 ·intro h10
  exfalso;simp at h10
 ·intro h10
  refine za (z6 ?_);refine Zrs [1,12,13,14] ?_;refine zb fun Q0 hN0 hX0 hR0 hE0=> ?_;refine zn (σ:=Nat) (fun i=>i<=fo.ly.length) (fun i=>fo.ly.length-i) (fun i=>[(1,.ptr 4 0 0 0),(12,.slc false 1 0 0 fo.ly.length),(13,.int .i64 fo.ly.length),(14,.int .i64 i)]) (fun i=>⟨5,[(4,uQ (.row ⟨true,true,34,4,1,fun _=>[.slc false 0 0 0 fo.ns.length,.int .i64 fo.ht,.slc false 1 0 0 fo.ly.length,.slc false 3 0 0 fo.cb.length]⟩)),(0,uQ (.row ⟨false,false,62,3,fo.ns.length,nds fo.ns⟩)),(1,uQ (.row ⟨false,false,89,5,fo.ly.length,lyR 2 fo.ly⟩)),(2,(3*fo.ly.length+1,fam false 3 1 (lyF false fo.ly))),(3,uQ (.row ⟨false,false,58,3,fo.cb.length,cbs fo.cb⟩))]⟩) 0 (qo _) (ρ:=id) (Zg id) ?_;rintro i hi QL1 hL1 hRL1 hEL1;refine Zrs [1,12,13,14,15] ?_;refine z6 ?_;refine z7 _ rfl ?_ ?_
  ·intro h15;replace h15:=Znb h15;have hbi:=hb.2 i;refine za (z6 (zb fun Q1 hN1 hX1 hR1 hE1=> ?_));refine Zrs [1,4,12,13,14] ?_;refine sg [1,12,13,14,21] rfl ?_;intro K hK;iterate 2 (refine Zo Zl ?_)
   refine Zo Zl ?_;refine Zc1 (lyLsB fo.ly i fo.ly.length (by omega) (check_specL (lyA fo.ly i).cs (lyA fo.ly i).ps _ _ rfl rfl (by omega) (by omega))) (fun q=>if q=0 then 2 else 0) ?_;rw[(h.inv i (by omega)).check];refine Zo Zl ?_;refine z8 (Zpr (hK _ _ ?_));clear hK K;refine z7 _ rfl ?_ ?_
   ·intro h21
    exfalso;simp at h21
   ·intro h21
    refine za (zd (hN1 _ _ ?_));refine Zrg [1,12,13,14] ?_;refine zd (hL1 _ _ ?_);rw[show(i:Int)+1=((i+1:Nat):Int) from by omega];exact⟨i+1,⟨by omega,by omega⟩,id,(Zg id)⟩
  ·intro h15;replace h15:=Znb h15;refine zm (hEL1 _ _ _ (hX0 _ _ (z6 ?_)));refine Zrs [1,5] ?_;refine zb fun Q2 hN2 hX2 hR2 hE2=> ?_;refine zn (σ:=Nat) (fun i=>(i:Int)<=fo.ht+1/\1<=i\/i=1) (fun i=>fo.ht.toNat+1-i) (fun i=>[(1,.ptr 4 0 0 0),(5,.int .i64 i)]) (fun i=>⟨5,[(4,uQ (.row ⟨true,true,34,4,1,fun _=>[.slc false 0 0 0 fo.ns.length,.int .i64 fo.ht,.slc false 1 0 0 fo.ly.length,.slc false 3 0 0 fo.cb.length]⟩)),(0,uQ (.row ⟨false,false,62,3,fo.ns.length,nds fo.ns⟩)),(1,uQ (.row ⟨false,false,89,5,fo.ly.length,lyR 2 fo.ly⟩)),(2,(3*fo.ly.length+1,fam false 3 1 (lyF false fo.ly))),(3,uQ (.row ⟨false,false,58,3,fo.cb.length,cbs fo.cb⟩))]⟩) 1 (.inr rfl) (ρ:=id) (Zg id) ?_;rintro lv hlv QL2 hL2 hRL2 hEL2;refine z6 ?_;refine Zrs [1,5,26] ?_;refine z7 _ rfl ?_ ?_
   ·intro h26;replace h26:=Znb h26;have hlv1:1<=lv:=by omega
    refine za (z6 (zb fun Q3 hN3 hX3 hR3 hE3=> ?_));refine sg [1,5,31,32,33] rfl ?_;intro K hK;iterate 2 (refine Zo Zl ?_)
    refine Zo Zl ?_;refine Zc1 (z4x fo ls h fo.ns.length fo.ly.length fo.cb.length lv rfl rfl rfl) (id) ?_;have hpl:=presF_len fo lv;iterate 2 (refine Zo Zl ?_)
    refine z8 (Zpr (hK _ _ ?_));clear hK K;refine zb fun Q4 hN4 hX4 hR4 hE4=> ?_;refine zn (σ:=Nat) (fun i=>i<=(z1n fo lv).length) (fun i=>(z1n fo lv).length-i) (fun i=>[(1,.ptr 4 0 0 0),(5,.int .i64 lv),(31,.slc true 5 0 0 (z1n fo lv).length),(32,.int .i64 (z1n fo lv).length),(33,.int .i64 i)]) (fun i=>⟨6,[(5,uQ (.row ⟨true,false,3,1,(z1n fo lv).length,ints (z1n fo lv)⟩)),(4,uQ (.row ⟨true,true,34,4,1,fun _=>[.slc false 0 0 0 fo.ns.length,.int .i64 fo.ht,.slc false 1 0 0 fo.ly.length,.slc false 3 0 0 fo.cb.length]⟩)),(0,uQ (.row ⟨false,false,62,3,fo.ns.length,nds fo.ns⟩)),(1,uQ (.row ⟨false,false,89,5,fo.ly.length,lyR 2 fo.ly⟩)),(2,(3*fo.ly.length+1,fam false 3 1 (lyF false fo.ly))),(3,uQ (.row ⟨false,false,58,3,fo.cb.length,cbs fo.cb⟩))]⟩) 0 (qo _) (ρ:=id) (Zg id) ?_;rintro i hi QL3 hL3 hRL3 hEL3;refine Zrs [1,5,31,32,33,34] ?_;refine z6 ?_;refine z7 _ rfl ?_ ?_
    ·intro h34;replace h34:=Znb h34;obtain⟨_,x,hx,hxi,hxm⟩:=presF_mem.1 (show nth (z1n fo lv) i∈z1n fo lv by rw[z2n (by omega)];exact qN _);refine za (z6 (zb fun Q5 hN5 hX5 hR5 hE5=> ?_));refine Zrs [1,5,7,31,32,33] ?_;refine sg [1,5,31,32,33,42] rfl ?_;intro K hK;iterate 4 (refine Zo Zl ?_)
     refine Zo Zl ?_;refine Zc1 (member_spec fo.ly hb hlc fo.ly.length fo.ns.length fo.cb.length rfl fo.ht (nth (z1n fo lv) i) ((lv:Int)-1)) (id) ?_;rw[show memF fo.ly (nth (z1n fo lv) i) ((lv:Int)-1)=true by rw[<-hxi];rw[<-hxi] at hxm;exact h.nest hx (by omega) (by omega) hxm];refine Zo Zl ?_;refine z8 (Zpr (hK _ _ ?_));clear hK K;refine z7 _ rfl ?_ ?_
     ·intro h42
      exfalso;simp at h42
     ·intro h42
      refine za (zd (hN5 _ _ ?_));refine Zrg [1,5,31,32,33] ?_;refine zd (hL3 _ _ ?_);rw[show(i:Int)+1=((i+1:Nat):Int) from by omega];exact⟨i+1,⟨by omega,by omega⟩,id,(Zg id)⟩
    ·intro h34;replace h34:=Znb h34;refine zm (hEL3 _ _ _ (hX4 _ _ (zd (hN3 _ _ ?_))));refine Zrg [1,5] ?_;refine zd (hL2 _ _ ?_);rw[show(lv:Int)+1=((lv+1:Nat):Int) from by omega];exact⟨lv+1,⟨by omega,by omega⟩,id,(Zg id)⟩
   ·intro h26
    refine zm (hEL2 _ _ _ (hX2 _ _ ?_));refine Zrs [2] ?_;refine ze (hQ _ _ ?_);refine zc (H':=⟨4,[]⟩) (.inl rfl) ?_;refine Zou ?_;refine⟨Zs,(Zg id),Zs,?_⟩
    first|trivial|exact⟨rfl,trivial⟩
end
end Go.Proofs
