/-
  Walks and plain facts, joined: part 12 of 12.
  Conditions: those that each statement names.
-/
import Derived.Test.YtpnefndionckaaaGreatDoorRoj
import Derived.Test.YtpnefndionckaaaGreatDoorRok
import Derived.Test.YtpnefndionckaaaGreatDoorRoc
import Derived.Test.YtpnefndionckaaaGreatDoorRog
import Derived.Test.YtpnefndionckaaaGreatDoorRof
import Derived.Test.YtpnefndionckaaaGreatDoorRoe
set_option linter.unusedSimpArgs false
set_option linter.unusedVariables false
set_option linter.defProp false
set_option maxRecDepth 4000
set_option maxHeartbeats 8000000
namespace Go.Proofs
open Tryz
open Go.Sk
section
theorem hasI_con (l:List Int)(v:Int):hasI l v=l.contains v:=by
 rw[Qj,jB]
 constructor
 ·intro h;refine Je fun g=> ?_
  have:hasI l v=false:=z1s fun i hi=>by
   rw[qg,z2v hi];intro e;exact g (e ▸ qM hi)
  rw[this] at h;cases h
 ·intro h;obtain⟨i,hi,e⟩:=Qe h;exact z3r hi (by rw[z2v hi,e];exact qG rfl)
section
variable {ns:List Nd} {h:Nat}
theorem shp_cls (hc:z1o ns=0)(h16:h<=16){lv i:Nat}(hl:lv<=h)(hi:i<(z4t (z52 ns) (lv:Int)).length):(z4l ns lv).length+i<(z3n ns h).length/\(shA (z3n ns h) ((z4l ns lv).length+i)).1=lv/\(shA (z3n ns h) ((z4l ns lv).length+i)).2=cnd (z4t (z52 ns) (lv:Int)) i:=by
 have hls:lstN ns (lv:Int)=lstG (z52 ns) (lv:Int):=by rw[lstN,qf ⟨hc,by omega,by omega⟩]
 have hll:(lstN ns (lv:Int)).length=(z4t (z52 ns) (lv:Int)).length:=by rw[hls,lstG,qB]
 obtain⟨h1,h2,h3⟩:=shp_at hc h16 hl (i:=i) (by omega);refine⟨h1,h2,?_⟩;have hmem:=shpL_sub h16 h1
 have hsub:∀y∈cnd (z4t (z52 ns) (lv:Int)) i,y∈ns:=fun y hy=>by
  rw[cnd_lt hi] at hy;exact(z2f ns).mem_iff.2 ((cls_sub (by omega) (qM hi)).subset hy)
 have he:(shA (z3n ns h) ((z4l ns lv).length+i)).2.map (·.id)=(cnd (z4t (z52 ns) (lv:Int)) i).map (·.id):=by
  rw[h3,hls,ind_lt (by rw[lstG,qB];exact hi),cnd_lt hi];simp[lstG]
 have hl:=Qr List.length he;rw[qB,qB] at hl;refine Qz hl fun q q1 q2=>ids_inj hc (hmem.1 _ (qM q1)) (hsub _ (qM q2)) ?_;have:=List.getElem_of_eq he (i:=q) (by rw[qB];exact q1);simpa using this
end
theorem clR_renMO (ρ:Nat->Nat)(o:Bool)(f g:Nat)(ms:Nat->Option Nat)(cs:List (List Nd))(i:Nat)(h:g≠f):SV.renPL (mvM ρ f ms) (clR o g cs i)=clR o (ρ g) cs i:=by
 simp[clR,SV.renPL,SV.renP,mvM,h]
def JoNm.exE:=aj9 @z17 @zg @zi @zn @zk @z12 @z1a ec2 (aj9 @zj @zt @zo @zl ec13 @zp z43 z4y (aj9 @zu ec3 ec5 @z1d.eq_1 @zz.eq_1 @ints.eq_1 ec33 ec34 (aj9 ec35 ec43 ec23 ec22 @z29 ec31 ec38 @Tryz.zB (aj3 @Tryz.zStrN ec39 @z1c))))
def JoNm.gxE:=aj9 @z17 z43 ec16 z4y ec3 ec7 ec8 @z1d.eq_1 (aj9 @zz.eq_1 @z1v @z1t ec36 ec26 ec29 ec43 ec25 (aj4 ec41 ec39 @z2i @z3q))
def JoNm.axE:=aj9 @z17 @zg @zi @zn @zk @z12 @z1a ec2 (aj9 @zj @zt @zo @zl ec13 @zp z43 z4y (aj9 @zu ec3 ec5 @z1d.eq_1 @zz.eq_1 ec33 ec34 ec43 (aj9 ec22 @z29 ec38 @Tryz.zB @Tryz.zStrN ec39 @z1c @z1q (aj7 @z26 @z2n @z31 ec37 @z40 ec42 ec27))))
open JoNm (gxE axE exE)
open JnNm (oxE)
open D0 (sdE)
theorem buildR_spec (ns:List Nd)(dn:List Int)(m n d:Nat)(ht:Int)(hn:ns.length=n)(hd:dn.length=d)(hc:z1o ns=0)(m1:1<=m)(m8:m<=8)(h0:0<=ht)(h16:ht<=16)(hdx:d<=1000000):
  zf prog 52 [.slc false 0 0 0 n,.slc false 1 0 0 d,.int .i64 m,.int .i64 ht] ⟨2,[(0,uQ (.row ⟨false,false,62,3,n,nds ns⟩)),(1,uQ (.row ⟨false,false,3,1,d,ints dn⟩))]⟩
   (fun s H1=>s= .slc true 2 0 0 (z3j ns dn m ht).ly.length/\H1=⟨4,[(2,uQ (.row ⟨true,false,89,5,(z3j ns dn m ht).ly.length,lyR 3 (z3j ns dn m ht).ly⟩)),(3,(3*(z3j ns dn m ht).ly.length+1,fam true 3 1 (lyF true (z3j ns dn m ht).ly)))]⟩):=by
 subst hn hd;have h64:ns.length<=64:=((good_iff ns).1 hc).1;obtain⟨h,hh⟩:∃h:Nat,ht=h:=⟨ht.toNat,by omega⟩;have hhn:ht.toNat=h:=by omega
 have hn16:h<=16:=by omega
 have hLe:(z3j ns dn m ht).ly=(z3n ns h).map (newLy dn m):=by rw[z3j,hhn]
 obtain⟨L,hL⟩:∃L,(z3n ns h).map (newLy dn m)=L:=⟨_,rfl⟩;have hLl:(z4l ns (h+1)).length=L.length:=by rw[<-hL,qB];exact lvl_len hc hn16
 have hLx:L.length<=1088:=by
  have:=lvlP_bd ns (h+1);have:(h+1)*ns.length<=17*64:=j0 (by omega) h64;omega
 rw[hLe,hL];refine zf.ofC false 91 [.tmp 8] func52 rfl rfl ntmps52 results52 rfl ?_;intro w0 own0 β0 Q hQ hQn;simp only[z18];refine Zrs [0,1,2,3] ?_;refine Zrs [0,1,2,3,9] ?_;refine z6 ?_;refine Zrs [0,1,2,3,9,10] ?_;refine z2d 9 89 5 (lyR 3 (L.take 0)) rfl ?_;dsimp only;refine z23 3 1 (lyF true (L.take 0)) ?_;dsimp only;refine zc fun Q0 hN0 hX0 hR0 hE0=> ?_;refine zx (σ:=Nat) (fun lv=>lv<=h+1) (fun lv=>h+1-lv) (fun lv=>[(0,.slc false 0 0 0 ns.length),(1,.slc false 1 0 0 dn.length),(2,.int .i64 m),(3,.int .i64 ht),(9,.slc true 2 0 0 (z4l ns lv).length),(10,.int .i64 lv)]) (fun lv=>⟨4,[(2,uQ (.row ⟨true,false,89,5,(z4l ns lv).length,lyR 3 (L.take ((z4l ns lv).length))⟩)),(3,(3*((z4l ns lv).length)+1,fam true 3 1 (lyF true (L.take ((z4l ns lv).length))))),(0,uQ (.row ⟨false,false,62,3,ns.length,nds ns⟩)),(1,uQ (.row ⟨false,false,3,1,dn.length,ints dn⟩))]⟩) 0 (qp _) (ρ:=id) (have xE:=@z4l.eq_1;Zgx id) ?_;rintro lv hlv QL1 hL1 hRL1 hEL1;refine z6 ?_;refine Zrs [0,1,2,3,9,10,20] ?_;refine z7 _ rfl ?_ ?_
 ·intro h20;replace h20:=Znb h20;have hps:=lvlP_len (ns:=ns) (n:=lv);have hpl:=lvlP_le (ns:=ns) (show lv+1<=h+1 by omega);have hsA:=fun i=>shp_cls hc hn16 (lv:=lv) (i:=i) (by omega);have hls:(lstN ns (lv:Int)).length=(z4t (z52 ns) (lv:Int)).length:=by rw[lstN,qf ⟨hc,by omega,by omega⟩,lstG,qB]
  rw[hls] at hps;obtain⟨cs,hcs⟩:∃cs,z4t (z52 ns) (lv:Int)=cs:=⟨_,rfl⟩;obtain⟨P,hP⟩:∃P,(z4l ns lv).length=P:=⟨_,rfl⟩;rw[hcs] at hps hsA;rw[hP] at hps hsA ⊢;have hPw:P+cs.length<=L.length:=by omega
  refine za (z6 (zc fun Q1 hN1 hX1 hR1 hE1=> ?_));refine sg [0,1,2,3,9,10,11] rfl ?_;intro K hK;iterate 2 (refine Zo Zl ?_)
  refine Zo Zl ?_;refine Zc1 (refClasses6_spec ns ns.length rfl lv (by omega)) (id) ?_;rw[hcs];refine Zo Zl ?_;refine z8 (Zpr (hK _ _ ?_));clear hK K;refine Zrs [0,1,2,3,9,10,11,12] ?_;refine zc fun Q2 hN2 hX2 hR2 hE2=> ?_;refine zx (σ:=Nat) (fun i=>i<=cs.length) (fun i=>cs.length-i) (fun i=>[(0,.slc false 0 0 0 ns.length),(1,.slc false 1 0 0 dn.length),(2,.int .i64 m),(3,.int .i64 ht),(9,.slc true 2 0 0 (P+i)),(10,.int .i64 lv),(11,.slc true 4 0 0 cs.length),(12,.int .i64 i)]) (fun i=>⟨6,[(4,uQ (.row ⟨true,false,23,1,cs.length,clR true 5 cs⟩)),(5,(cs.length+1,fam true 62 3 (clF true cs))),(2,uQ (.row ⟨true,false,89,5,P+i,lyR 3 (L.take (P+i))⟩)),(3,(3*(P+i)+1,fam true 3 1 (lyF true (L.take (P+i))))),(0,uQ (.row ⟨false,false,62,3,ns.length,nds ns⟩)),(1,uQ (.row ⟨false,false,3,1,dn.length,ints dn⟩))]⟩) 0 (qp _) (ρ:=id) (Zg id) ?_;rintro i hi QL2 hL2 hRL2 hEL2;refine z6 ?_;refine Zrs [0,1,2,3,9,10,11,12,29] ?_;refine z7 _ rfl ?_ ?_
  ·intro h29;replace h29:=Znb h29;obtain⟨hp1,hp2,hp3⟩:=hsA i (by omega);have hk3:=shp_keys hc hn16 hp1;have hsb:=shpL_sub hn16 hp1;rw[hp3] at hk3 hsb;obtain⟨c,hcc⟩:∃c,cnd cs i=c:=⟨_,rfl⟩;rw[hcc] at hp3 hk3 hsb;have hcl:=Qr List.length hcc
   have hlA:lyA L (P+i)=newLy dn m ((lv:Int),c):=by
    rw[<-hL,lyA_new hp1];congr 1;exact Prod.ext hp2 hp3
   have hc1:0<c.length:=by
    cases c with
    |nil=>exact absurd rfl hsb.2
    |cons _ _=>exact QZ _
   refine za (z6 (zc fun Q3 hN3 hX3 hR3 hE3=> ?_));refine Zrs [0,1,2,3,9,10,11,12,13] ?_;refine Zrs [0,1,2,3,9,10,11,12,13,14] ?_;refine z6 ?_;refine Zrs [0,1,2,3,9,10,11,12,13,14,15] ?_;refine z2d 13 9 1 (strsK ((keyL c).take 0)) rfl ?_;dsimp only;refine z2d 14 4 1 (bos ((innL dn c).take 0)) rfl ?_;dsimp only;refine zc fun Q4 hN4 hX4 hR4 hE4=> ?_;refine zx (σ:=Nat) (fun j=>j<=c.length) (fun j=>c.length-j) (fun j=>[(0,.slc false 0 0 0 ns.length),(1,.slc false 1 0 0 dn.length),(2,.int .i64 m),(3,.int .i64 ht),(9,.slc true 2 0 0 (P+i)),(10,.int .i64 lv),(11,.slc true 4 0 0 cs.length),(12,.int .i64 i),(13,.slc true 6 0 0 j),(14,.slc true 7 0 0 j),(15,.int .i64 j)]) (fun j=>⟨8,[(7,uQ (.row ⟨true,false,4,1,j,bos ((innL dn c).take j)⟩)),(6,uQ (.row ⟨true,false,9,1,j,strsK ((keyL c).take j)⟩)),(4,uQ (.row ⟨true,false,23,1,cs.length,clR true 5 cs⟩)),(5,(cs.length+1,fam true 62 3 (clF true cs))),(2,uQ (.row ⟨true,false,89,5,P+i,lyR 3 (L.take (P+i))⟩)),(3,(3*(P+i)+1,fam true 3 1 (lyF true (L.take (P+i))))),(0,uQ (.row ⟨false,false,62,3,ns.length,nds ns⟩)),(1,uQ (.row ⟨false,false,3,1,dn.length,ints dn⟩))]⟩) 0 (qp _) (ρ:=id) (Zg id) ?_;rintro j hj QL3 hL3 hRL3 hEL3;refine z6 ?_;refine sg [0,1,2,3,9,10,11,12,13,14,15,38] rfl ?_;intro K hK;iterate 6 (refine Zo Zl ?_)
   rw[hcc];repeat(with_reducible apply qe;exact sdE)
   refine Zo Zl ?_;refine z8 (Zpr (hK _ _ ?_));clear hK K;refine z7 _ rfl ?_ ?_
   ·intro h38;replace h38:=Znb h38;refine za (z6 (zc fun Q5 hN5 hX5 hR5 hE5=> ?_));refine Zrd [0,1,2,3,9,10,11,12,13,14,15] [0,1,2,3,4,5,6,7,8,11,12,13,14,15,16,17,18,19,20,9,10,21,22,23,24,25] [[],[],[],[],[],[],[],[],[],[],[6],[],[],[],[],[],[],[],[],[],[],[],[],[7],[],[]] [[],[],[],[],[],[],[],[],[],[],[6],[6],[6],[6],[6],[6],[6],[6],[6],[6],[6],[6],[6],[6,7],[6,7],[6,7]] ?_;intro K hK;iterate 9 (refine Zo (Zi [] []) ?_)
    rw[hcc];repeat(with_reducible apply qe;exact sdE)
    iterate 10 (refine Zo (Zi [] [6]) ?_)
    rw[hcc];repeat(with_reducible apply qe;exact sdE)
    refine Zo (Zi [] []) ?_;refine Zo (Zi [6] [6]) ?_;refine Zo (Zi [] [6]) ?_;refine Zc1 (refHas_spec dn (nd c j).id dn.length rfl (by omega)) (fun _=>1) ?_;rw[hasI_con];refine Zo (Zi [] [6]) ?_;refine Zo (Zi [7] [6,7]) ?_;iterate 2 (refine Zo (Zi [] [6,7]) ?_)
    refine z11 (Zpr (hK _ _ ?_));clear hK K;refine ze (hN5 _ _ ?_);refine Zrg [0,1,2,3,9,10,11,12,13,14,15] ?_;refine ze (hL3 _ _ ?_);rw[app_strs1 (by omega),app_bos1 (by omega) _ rfl];rw[show(j:Int)+1=((j+1:Nat):Int) from by omega];exact⟨j+1,⟨by omega,by omega⟩,fun q=>if q=6 then 9 else if q=7 then 11 else q,(Zg (fun q=>if q=6 then 9 else if q=7 then 11 else q))⟩
   ·intro h38;replace h38:=Znb h38;have hjc:j=c.length:=by omega
    subst hjc;have hkl:=z2i c;have hkm:=z3q dn c;rw[Qo (show(keyL c).length<=c.length by rw[z2i];exact qd _),Qo (show(innL dn c).length<=c.length by rw[z3q];exact qd _)];refine zw (hEL3 _ _ _ (hX4 _ _ ?_));refine sg [0,1,2,3,9,10,11,12,16] rfl ?_;intro K hK;iterate 3 (refine Zo Zl ?_)
    refine Zo Zl ?_;refine Zc1 (refNew_spec (keyL c) (innL dn c) c.length m (z2i c) (z3q dn c) hk3.2.2 m1 m8 hk3.1 hk3.2.1) (fun q=>if q=0 then 6 else if q=1 then 7 else q) ?_;iterate 6 (refine Zo Zl ?_)
    refine z8 (Zpr (hK _ _ ?_));clear hK K;refine Zrd [0,1,2,3,9,10,11,12] [0,1,2,3,4,5,6,7,8,9,10,11,12,14,13,15,16,17,18] [[],[],[],[],[],[],[],[],[],[],[],[],[],[],[],[],[],[2],[]] [[],[],[],[],[],[],[],[],[],[],[],[],[],[],[],[],[],[2],[2]] ?_;intro K hK;iterate 9 (refine Zo (Zi [] []) ?_)
    rw[hcc];repeat(with_reducible apply qe;exact sdE)
    iterate 5 (refine Zo (Zi [] []) ?_)
    refine Zo (Zi [] []) ?_;refine Zc1 (ids5M_spec cs i cs.length rfl (by omega) (by omega)) (fun q=>if q=0 then 5 else q) ?_;rw[hcc];iterate 2 (refine Zo (Zi [] []) ?_)
    refine Zo (Zi [2] [2]) ?_;refine Zo (Zi [] [2]) ?_;refine z11 (Zpr (hK _ _ ?_));clear hK K;refine ze (hN3 _ _ ?_);have hidl:(newLy dn m ((lv:Int),c)).ids.length=c.length:=qB ..;have hx:lyA (L.take (P+i+1)) (P+i)=newLy dn m ((lv:Int),c):=by rw[take_ly (by omega),hlA]
    have hout:∀q,q<P+i+1->app (lyR 3 (L.take (P+i))) (P+i) (z4f 5 1 [SV.int .i64 lv,SV.int .u32 (nd c 0).word,SV.slc true 11 0 0 c.length,SV.slc true 8 0 0 (newK (keyL c) (innL dn c) c.length).length,SV.slc true 9 0 0 (List.replicate m noPr).length]) q=SV.renPL (mvM (fun q=>if q=2 then 13 else q) 3 (ms3 (P+i) 11 8 9)) (lyR 3 (L.take (P+i+1)) q):=fun q hq=>by
     have e:=lyR_renM3 (fun q=>if q=2 then 13 else q) 3 (P+i) 11 8 9 (L.take (P+i+1)) q;rw[show(if(3:Nat)=2 then 13 else 3)=3 from rfl] at e;rw[e]
     split
     ·rename_i e;subst e;rw[app,qb (by omega),jb,hx];simp only[newLy];rw[hdN_nd hc1,qB];rfl
     ·rename_i e;rw[app,qf (by omega),lyR,lyR,take_ly (by omega),take_ly (by omega)]
    refine z4p (fr':=[(0,.slc false 0 0 0 ns.length),(1,.slc false 1 0 0 dn.length),(2,.int .i64 m),(3,.int .i64 ht),(9,.slc true 2 0 0 (P+i+1)),(10,.int .i64 lv),(11,.slc true 4 0 0 cs.length),(12,.int .i64 i)]) (H':=⟨6,[(4,uQ (.row ⟨true,false,23,1,cs.length,clR true 5 cs⟩)),(5,(cs.length+1,fam true 62 3 (clF true cs))),(2,uQ (.row ⟨true,false,89,5,P+i+1,lyR 3 (L.take (P+i+1))⟩)),(3,(3*(P+i+1)+1,fam true 3 1 (lyF true (L.take (P+i+1))))),(0,uQ (.row ⟨false,false,62,3,ns.length,nds ns⟩)),(1,uQ (.row ⟨false,false,3,1,dn.length,ints dn⟩))]⟩) _ (Zgm (fun q=>if q=2 then 13 else q) (3) (ms3 (P+i) 11 8 9) (ms3_ok (P+i) (by decide) ⟨rfl,rfl,rfl⟩ ⟨qc rfl,qc rfl,qc rfl⟩) ((z10 (by decide) rfl ql (zq.of (fun _=>⟨rfl,rfl⟩) rfl (qd _) (fun q _=>(show clR true 5 cs q=SV.renPL _ (clR true 5 cs q) by rw[clR_renMO _ _ _ _ _ _ _ (by decide)];rfl))) (Obj.lt_row.2 fun q _=>(clR_lt _ _ _ _ q).2 (qc rfl)) (qc rfl) (z1b.consO (by decide) rfl ⟨fun _=>⟨rfl,rfl⟩,rfl⟩ (by omega) (qd _) (fun q _=>⟨clF_givesP _ _ _ _ _ _ id rfl,clFm_lt _ _ _ _⟩) (qc rfl) (z10 (by decide) rfl ql (zq.of (fun _=>⟨rfl,rfl⟩) rfl (qd _) (hout)) (Obj.lt_row.2 fun q _=>(lyR_lt _ _ _ q).2 (qc rfl)) (qc rfl) (lyF_cons3 (n:=P+i) (x:=newLy dn m ((lv:Int),c)) rfl (by rw[hidl];rfl) rfl rfl hx (fun q hq hne=>⟨by omega,by rw[take_ly (by omega),take_ly (by omega)]⟩) (qc rfl) (z10 (by decide) rfl ql (zq.of (fun h=>(by cases h)) rfl (qd _) (fun q _=>(z33 _ _ q).symm)) (Obj.lt_row.2 fun q _=>z4e _ _ q) (qc rfl) (z10 (by decide) rfl ql (zq.of (fun h=>(by cases h)) rfl (qd _) (fun q _=>(z2k _ _ q).symm)) (Obj.lt_row.2 fun q _=>z1t _ _ q) (qc rfl) trivial)))))))) ?_
    refine Zrg [0,1,2,3,9,10,11,12] ?_;refine ze (hL2 _ _ ?_);rw[jj P i 1];rw[show(i:Int)+1=((i+1:Nat):Int) from by omega];exact⟨i+1,⟨by omega,by omega⟩,id,(Zg id)⟩
  ·intro h29;replace h29:=Znb h29;refine zw (hEL2 _ _ _ (hX2 _ _ (ze (hN1 _ _ ?_))));refine Zrg [0,1,2,3,9,10] ?_;refine ze (hL1 _ _ ?_);have hie:i=cs.length:=by omega
   subst hie;rw[<-hps,show(lv:Int)+1=((lv+1:Nat):Int) from by omega];exact⟨lv+1,⟨by omega,by omega⟩,id,(Zg id)⟩
 ·intro h20;replace h20:=Znb h20;have hlh:lv=h+1:=by omega
  subst hlh;rw[hLl,QV];refine zw (hEL1 _ _ _ (hX0 _ _ ?_));refine Zrs [8] ?_;refine zd (hQ _ _ ?_);refine zb (H':=⟨4,[(2,uQ (.row ⟨true,false,89,5,L.length,lyR 3 L⟩)),(3,(3*L.length+1,fam true 3 1 (lyF true L)))]⟩) (.inl rfl) ?_;refine Zou ?_;refine⟨Zs,(Zg id),Zs,?_⟩
  all_goals first|trivial|exact⟨rfl,trivial⟩
end
section
theorem ints_wkT {ids:List Int}{k:Nat}(m:Nat)(i:Nat)(h:i<k):SV.wkL (ints ids i) (ints (ids.take k) i)/\(∀s∈ints (ids.take k) i,s.scalar=true)/\SV.ltL m (ints (ids.take k) i):=by
 have e:nth (ids.take k) i=nth ids i:=by rw[nth,nth,qx,qx,Qd,qf h]
 refine⟨?_,fun s hs=> ?_,z1t m _ i⟩
 ·rw[ints,ints,e];exact⟨rfl,trivial⟩
 ·simp only[ints,qL] at hs;subst hs;rfl
theorem refHasP_spec (ids:List Int)(v:Int)(k m:Nat)(hm:ids.length=m)(hk:k<=m)(hx:m<=1000000):
  zf prog 34 [.slc false 0 0 0 k,.int .i64 v] ⟨1,[(0,uQ (.row ⟨false,false,3,1,m,ints ids⟩))]⟩ (fun s H1=>s= .bool (hasI (ids.take k) v)/\H1=⟨1,[]⟩):=
 (refHas_spec (ids.take k) v k (by rw[qO];omega) (by omega)).less ⟨⟨rfl,rfl,fun _=> .inr ⟨rfl,rfl,rfl,hk,fun i hi=>ints_wkT _ i hi⟩⟩,trivial⟩ (by simp[ownU,Obj.own.eq_1])
open JnNm (gxE axE oxE exE)
open D0 (sdE)
theorem refNewF_spec (ns:List Nd)(dn:List Int)(m n d:Nat)(ht:Int)(hn:ns.length=n)(hd:dn.length=d)(hc:z1o ns=0)(m1:1<=m)(m8:m<=8)(h0:0<=ht)(h16:ht<=16)(hdx:d<=1000000)(hin:∀v∈dn,0<=z44 ns v)(hnd:dn.Nodup):
  zf prog 17 [.slc false 0 0 0 n,.slc false 1 0 0 d,.int .i64 m,.int .i64 ht] ⟨2,[(0,uQ (.row ⟨false,false,62,3,n,nds ns⟩)),(1,uQ (.row ⟨false,false,3,1,d,ints dn⟩))]⟩
   (fun s H1=>s= .tup [.agg [.slc true 2 0 0 n,.int .i64 ht,.slc true 3 0 0 (z3j ns dn m ht).ly.length,.slc true 5 0 0 m],.int .i64 0]/\H1=⟨6,[(2,uQ (.row ⟨true,false,62,3,n,nds ns⟩)),(3,uQ (.row ⟨true,false,89,5,(z3j ns dn m ht).ly.length,lyR 4 (z3j ns dn m ht).ly⟩)),(4,(3*(z3j ns dn m ht).ly.length+1,fam true 3 1 (lyF true (z3j ns dn m ht).ly))),(5,uQ (.row ⟨true,false,58,3,m,cbs (List.replicate m noCb)⟩))]⟩):=by
 subst hn hd;have h64:ns.length<=64:=((good_iff ns).1 hc).1;refine zf.ofC false 76 [.cell 8 34,.tmp 9] func17 rfl rfl ntmps17 results17 rfl ?_;intro w0 own0 β0 Q hQ hQn;simp only[z18];refine Zrs [0,1,2,3,8] ?_;refine z6 (zc fun Q0 hN0 hX0 hR0 hE0=> ?_);refine sg [0,1,2,3,8,14] rfl ?_;intro K hK;refine Zo Zl ?_;refine Zo Zl ?_;refine Zc1 (refIs_spec ns ns.length rfl (by omega)) (id) ?_;iterate 2 (refine Zo Zl ?_)
 refine z8 (Zpr (hK _ _ ?_));clear hK K;refine z7 _ rfl ?_ ?_
 ·intro h14
  exfalso;simp[hc] at h14
 ·intro h14
  refine sg [0,1,2,3,8,19] rfl ?_;intro K hK
  have hk3:∀B:Bool,B=false->K [(0,.slc false 0 0 0 ns.length),(1,.slc false 1 0 0 dn.length),(2,.int .i64 m),(3,.int .i64 ht),(8,.ptr 2 0 0 0),(19,.bool B)] ⟨3,[(2,uQ (.row ⟨true,true,34,4,1,fun _=>[.nils,.int .i64 0,.nils,.nils]⟩)),(0,uQ (.row ⟨false,false,62,3,ns.length,nds ns⟩)),(1,uQ (.row ⟨false,false,3,1,dn.length,ints dn⟩))]⟩:=by
   intro B hB;subst hB;refine hK _ _ ?_;clear hK K;refine z7 _ rfl ?_ ?_
   ·intro h19
    cases h19
   ·intro h19
    refine za (ze (hN0 _ _ (z6 ?_)));refine Zrs [0,1,2,3,8,10] ?_;refine zc fun Q1 hN1 hX1 hR1 hE1=> ?_;refine zx (σ:=Nat) (fun i=>i<=dn.length) (fun i=>dn.length-i) (fun i=>[(0,.slc false 0 0 0 ns.length),(1,.slc false 1 0 0 dn.length),(2,.int .i64 m),(3,.int .i64 ht),(8,.ptr 2 0 0 0),(10,.int .i64 i)]) (fun i=>⟨3,[(2,uQ (.row ⟨true,true,34,4,1,fun _=>[.nils,.int .i64 0,.nils,.nils]⟩)),(0,uQ (.row ⟨false,false,62,3,ns.length,nds ns⟩)),(1,uQ (.row ⟨false,false,3,1,dn.length,ints dn⟩))]⟩) 0 (qp _) (ρ:=id) (Zg id) ?_;rintro i hi QL1 hL1 hRL1 hEL1;refine z6 ?_;refine Zrs [0,1,2,3,8,10,35] ?_;refine z7 _ rfl ?_ ?_
    ·intro h35;replace h35:=Znb h35;refine za (z6 (zc fun Q2 hN2 hX2 hR2 hE2=> ?_));refine sg [0,1,2,3,8,10,12] rfl ?_;intro K hK;iterate 5 (refine Zo Zl ?_)
     refine Zo Zl ?_;refine Zc1 (refFind_spec ns (nth dn i) ns.length rfl (by omega)) (id) ?_;iterate 6 (refine Zo Zl ?_)
     refine z8 (Zpr (hK _ _ ?_));clear hK K;refine Zrs [0,1,2,3,8,10,48] ?_;refine z7 _ rfl ?_ ?_
     ·intro h48
      exfalso
      have:=hin (nth dn i) (by rw[z2v (by omega)];exact qM _);simp at h48;omega
     ·intro h48
      refine za (ze (hN2 _ _ ?_));refine Zrg [0,1,2,3,8,10] ?_;refine ze (hL1 _ _ ?_);rw[show(i:Int)+1=((i+1:Nat):Int) from by omega];exact⟨i+1,⟨by omega,by omega⟩,id,(Zg id)⟩
    ·intro h35
     refine zw (hEL1 _ _ _ (hX1 _ _ (z6 ?_)));refine Zrs [0,1,2,3,8,13] ?_;refine zc fun Q3 hN3 hX3 hR3 hE3=> ?_;refine zx (σ:=Nat) (fun i=>i<=dn.length) (fun i=>dn.length-i) (fun i=>[(0,.slc false 0 0 0 ns.length),(1,.slc false 1 0 0 dn.length),(2,.int .i64 m),(3,.int .i64 ht),(8,.ptr 2 0 0 0),(13,.int .i64 i)]) (fun i=>⟨3,[(2,uQ (.row ⟨true,true,34,4,1,fun _=>[.nils,.int .i64 0,.nils,.nils]⟩)),(0,uQ (.row ⟨false,false,62,3,ns.length,nds ns⟩)),(1,uQ (.row ⟨false,false,3,1,dn.length,ints dn⟩))]⟩) 0 (qp _) (ρ:=id) (Zg id) ?_;rintro i hi QL2 hL2 hRL2 hEL2;refine z6 ?_;refine Zrs [0,1,2,3,8,13,53] ?_;refine z7 _ rfl ?_ ?_
     ·intro h53;replace h53:=Znb h53;refine za (z6 (zc fun Q4 hN4 hX4 hR4 hE4=> ?_));refine z6 ?_;refine Zrd [0,1,2,3,8,13,63] [0,1,2,3,4,5,6,7] [[],[],[],[],[],[],[],[]] [[],[],[],[],[],[],[],[]] ?_;intro K hK;iterate 7 (refine Zo (Zi [] []) ?_)
      refine Zo (Zi [] []) ?_;refine Zc1 (refHasP_spec dn (nth dn i) i dn.length rfl (by omega) (by omega)) (fun _=>1) ?_;rw[hasI_con,any_takeI hnd (show i<dn.length by omega)];refine z11 (Zpr (hK _ _ ?_));clear hK K;refine z7 _ rfl ?_ ?_
      ·intro h63
       exfalso;cases h63
      ·intro h63
       refine za (ze (hN4 _ _ ?_));refine Zrg [0,1,2,3,8,13] ?_;refine ze (hL2 _ _ ?_);rw[show(i:Int)+1=((i+1:Nat):Int) from by omega];exact⟨i+1,⟨by omega,by omega⟩,id,(Zg id)⟩
     ·intro h53
      refine zw (hEL2 _ _ _ (hX3 _ _ (z6 ?_)));refine Zrt [8,9] (.op 0 (.op 2 (.op 3 (.op 4 (.op 5 (.op 6 (.op 8 (.two 1 9 (.two 7 9 (.op 9 (.op 10 (.op 11 (.op 12 .done)))) (.op 7 (.op 10 (.op 11 (.op 12 .done))))) (.op 1 (.op 7 (.op 10 (.op 11 (.op 12 .done))))))))))))) [[],[],[],[],[],[],[],[],[],[],[],[2],[]] [[],[],[],[],[],[],[],[],[],[],[],[2],[2]] ?_;intro K hK hG
      have hk16:K [(8,.ptr 2 0 0 0),(9,.int .i64 0)] ⟨7,[(2,uQ (.row ⟨true,true,34,4,1,fun _=>[.slc true 3 0 0 ns.length,.int .i64 ht,.slc true 4 0 0 (z3j ns dn m ht).ly.length,.slc true 6 0 0 m]⟩)),(3,uQ (.row ⟨true,false,62,3,ns.length,nds ns⟩)),(4,uQ (.row ⟨true,false,89,5,(z3j ns dn m ht).ly.length,lyR 5 (z3j ns dn m ht).ly⟩)),(5,(3*(z3j ns dn m ht).ly.length+1,fam true 3 1 (lyF true (z3j ns dn m ht).ly))),(6,uQ (.row ⟨true,false,58,3,m,cbs (List.replicate m noCb)⟩))]⟩:=by
       refine hK _ _ ?_;clear hG hK K;refine zd (hQ _ _ ?_);refine zm (fun q=>if q=2 then 3 else if q=3 then 4 else if q=4 then 5 else if q=5 then 6 else q) (.tup [.agg [.slc true 2 0 0 ns.length,.int .i64 ht,.slc true 3 0 0 (z3j ns dn m ht).ly.length,.slc true 5 0 0 m],.int .i64 0]) (⟨6,[(2,uQ (.row ⟨true,false,62,3,ns.length,nds ns⟩)),(3,uQ (.row ⟨true,false,89,5,(z3j ns dn m ht).ly.length,lyR 4 (z3j ns dn m ht).ly⟩)),(4,(3*(z3j ns dn m ht).ly.length+1,fam true 3 1 (lyF true (z3j ns dn m ht).ly))),(5,uQ (.row ⟨true,false,58,3,m,cbs (List.replicate m noCb)⟩))]⟩) (.inl rfl) ?_;refine Zou ?_;refine⟨Zs,Zs,(Zg (fun q=>if q=2 then 3 else if q=3 then 4 else if q=4 then 5 else if q=5 then 6 else q)),Zs,?_⟩
       all_goals first|trivial|exact⟨rfl,trivial⟩
      refine Zo (ZT [] [] []) ?_;refine Zo (ZT [] [] []) ?_;refine Zo (ZT [] [] []) ?_;refine Zo (ZT [] [] []) ?_;refine Zo (ZT [] [] []) ?_;refine Zo (ZT [] [] []) ?_;refine Zo (ZT [] [] []) ?_;refine z2r ?_ ?_
      ·skip
       refine Zo (ZT [] [] []) ?_;refine z2r ?_ ?_
       ·skip
        refine Zo (ZT [] [] []) ?_;refine Zc1 (buildR_spec ns dn m ns.length dn.length ht rfl rfl hc m1 m8 h0 h16 hdx) (id) ?_;refine Zo (ZT [] [] []) ?_;refine Zo (ZT [] [] []) ?_;refine Zo (ZT [2] [2] []) ?_;refine Zo (ZT [] [2] []) ?_;refine z1f ?_;refine Zpr ?_;rw[cbs_zero m];exact hG _ _ _ _ id (Zg id) hk16
       ·skip
        refine Zo (ZT [] [] []) ?_;refine Zo (ZT [] [] []) ?_;refine Zc1 (buildR_spec ns dn m ns.length dn.length ht rfl rfl hc m1 m8 h0 h16 hdx) (id) ?_;refine Zo (ZT [] [] []) ?_;refine Zo (ZT [2] [2] []) ?_;refine Zo (ZT [] [2] []) ?_;refine z1f ?_;refine Zpr ?_;rw[cbs_zero m];exact hG _ _ _ _ (fun q=>if q=4 then 5 else if q=5 then 6 else if q=6 then 4 else q) (Zg (fun q=>if q=4 then 5 else if q=5 then 6 else if q=6 then 4 else q)) hk16
      ·skip
       refine Zo (ZT [] [] []) ?_;refine Zo (ZT [] [] []) ?_;refine Zo (ZT [] [] []) ?_;refine Zc1 (buildR_spec ns dn m ns.length dn.length ht rfl rfl hc m1 m8 h0 h16 hdx) (id) ?_;refine Zo (ZT [] [] []) ?_;refine Zo (ZT [2] [2] []) ?_;refine Zo (ZT [] [2] []) ?_;refine z1f ?_;refine Zpr ?_;rw[cbs_zero m];exact hG _ _ _ _ (fun q=>if q=3 then 4 else if q=4 then 5 else if q=5 then 6 else if q=6 then 3 else q) (Zg (fun q=>if q=3 then 4 else if q=4 then 5 else if q=5 then 6 else if q=6 then 3 else q)) hk16
  iterate 8 (refine Zo Zl ?_)
  refine z16 ?_;refine z2e rfl rfl ?_;refine Zgr ?_
  first|refine z1r ?_ ?_|refine(fun(h1:false=true->_) (h2:false=false->_)=>qe h1 fun _=>h2 rfl) ?_ ?_|refine qe ?_ ?_
  ·intro hg8
   first
    |(simp at hg8;done)
    |skip
     try replace hg8:=Znb hg8
     refine Zo id ?_;refine Zc1 (level_spec ht) (id) ?_;iterate 3 (refine Zo Zl ?_)
     refine z8 ?_;refine Zpr ?_;refine hk3 _ ?_;simp;omega
  ·intro hg8;refine⟨.bool false,?_⟩
   first
    |(simp at hg8;done)
    |skip
     try replace hg8:=Znb hg8
     exfalso;first|omega|(simp at hg8;omega)
end
section
theorem list_ext5 {xs ys:List Int}(hl:xs.length=ys.length)(h:∀j,j<xs.length->nth xs j=nth ys j):xs=ys:=by
 apply Qz hl;intro i h1 h2;have:=h i h1;rwa [z2v h1,z2v h2] at this
open JnNm (gxE axE oxE exE)
open D0 (sdE)
theorem sameI5_spec (xs ys:List Int)(n m:Nat)(hn:xs.length=n)(hm:ys.length=m)(hx:n<=9223372036854775807)(hy:m<=9223372036854775807):zf prog 70 [.slc false 0 0 0 n,.slc false 1 0 0 m] ⟨2,[(0,uQ (.row ⟨false,false,3,1,xs.length,ints xs⟩)),(1,uQ (.row ⟨false,false,3,1,ys.length,ints ys⟩))]⟩ (fun s H'=>s= .bool (decide (xs=ys))/\H'=⟨2,[]⟩):=by
 subst hn hm;refine zf.ofC false 26 [.tmp 4] func70 rfl rfl ntmps70 results70 rfl ?_;intro w0 own0 β0 Q hQ hQn;simp only[z18];refine Zrs [0,1] ?_;refine z6 ?_;refine Zrs [0,1,10] ?_;refine z7 _ rfl ?_ ?_
 ·intro h10
  try replace h10:=Znb h10
  refine Zrs [4] ?_;refine zd (hQ _ _ ?_);refine zb (H':=⟨2,[]⟩) (.inl rfl) ?_;refine Zou ?_;refine⟨Zs,(Zg id),Zs,?_⟩;have:¬xs=ys:=fun h=>by subst h;omega
  exact⟨by simp[this],by trivial⟩
 ·intro h10
  try replace h10:=Znb h10
  refine za (z6 ?_);refine Zrs [0,1,5] ?_;refine zc fun Q0 hN0 hX0 hR0 hE0=> ?_;refine zx (σ:=Nat) (fun i=>i<=xs.length/\∀j,j<i->nth xs j=nth ys j) (fun i=>xs.length-i) (fun i=>[(0,.slc false 0 0 0 xs.length),(1,.slc false 1 0 0 ys.length),(5,.int .i64 i)]) (fun i=>⟨2,[(0,uQ (.row ⟨false,false,3,1,xs.length,ints xs⟩)),(1,uQ (.row ⟨false,false,3,1,ys.length,ints ys⟩))]⟩) 0 ⟨by omega,by omega⟩ (ρ:=id) (Zg id) ?_;rintro i hi QL1 hL1 hRL1 hEL1;refine z6 ?_;refine Zrs [0,1,5,14] ?_;refine z7 _ rfl ?_ ?_
  ·intro h14
   try replace h14:=Znb h14
   refine za (z6 (zc fun Q1 hN1 hX1 hR1 hE1=> ?_));refine z6 ?_;refine Zrd [0,1,5,25] [0,1,2,3,4,5,6,7,8] [[],[],[],[],[],[],[],[],[]] [[],[],[],[],[],[],[],[],[]] ?_;intro K hK;iterate 9 (refine Zo (Zi [] []) ?_)
   refine z11 (Zpr (hK _ _ ?_));clear hK K;refine z7 _ rfl ?_ ?_
   ·intro h25
    try replace h25:=Znb h25
    refine Zrs [4] ?_;refine zd (hR1 _ _ (hRL1 _ _ (hR0 _ _ (hQ _ _ ?_))));refine zb (H':=⟨2,[]⟩) (.inl rfl) ?_;refine Zou ?_;refine⟨Zs,(Zg id),Zs,?_⟩;have:¬xs=ys:=fun h=>by subst h;omega
    exact⟨by simp[this],by trivial⟩
   ·intro h25
    try replace h25:=Znb h25
    refine za (ze (hN1 _ _ ?_));refine Zrg [0,1,5] ?_;refine ze (hL1 _ _ ?_);refine⟨i+1,⟨⟨by omega,fun j hj=> ?_⟩,by omega⟩,id,(Zg id)⟩
    by_cases h:j=i
    ·subst h;omega
    ·exact hi.2 j (by omega)
  ·intro h14
   try replace h14:=Znb h14
   refine zw (hEL1 _ _ _ (hX0 _ _ ?_));refine Zrs [4] ?_;refine zd (hQ _ _ ?_);refine zb (H':=⟨2,[]⟩) (.inl rfl) ?_;refine Zou ?_;refine⟨Zs,(Zg id),Zs,?_⟩;have:xs=ys:=list_ext5 (by omega) fun j hj=>hi.2 j (by omega);exact⟨by simp[this],by trivial⟩
def keyQ (a b:Ly)(i:Nat):Bool:= !sEq (cl a.cs i).key (cl b.cs i).key
def headS (a b:Ly):Bool:=a.lvl==b.lvl && a.wd==b.wd && decide (a.ids=b.ids) && decide (a.cs.length=b.cs.length)
def shpS (a b:Ly):Bool:=headS a b && !anyB a.cs.length (keyQ a b)
theorem sameShape_spec (a b:Ly)(p q:Nat)(h1:a.ids.length<=1000000)(h2:b.ids.length<=1000000)(h3:a.cs.length<=1000000)(h4:b.cs.length<=1000000):
  zf prog 53 [.agg [.int .i64 a.lvl,.int .u32 a.wd,.slc false 0 0 0 a.ids.length,.slc false 1 0 0 a.cs.length,.slc false 4 0 0 p],.agg [.int .i64 b.lvl,.int .u32 b.wd,.slc false 2 0 0 b.ids.length,.slc false 3 0 0 b.cs.length,.slc false 5 0 0 q]] ⟨6,[(0,uQ (.row ⟨false,false,3,1,a.ids.length,ints a.ids⟩)),(1,uQ (.row ⟨false,false,117,5,a.cs.length,z2m a.cs⟩)),(2,uQ (.row ⟨false,false,3,1,b.ids.length,ints b.ids⟩)),(3,uQ (.row ⟨false,false,117,5,b.cs.length,z2m b.cs⟩))]⟩ (fun s H1=>s= .bool (shpS a b)/\H1=⟨6,[]⟩):=by
 refine zf.ofC false 60 [.tmp 4] func53 rfl rfl ntmps53 results53 rfl ?_;intro w0 own0 β0 Q hQ hQn;simp only[z18];refine Zrs [2,3] ?_;refine z6 ?_;refine sg [2,3,36] rfl ?_;intro K hK
 have hk1:∀B:Bool,B= !(headS a b)->K [(2,.ptr 6 0 0 0),(3,.ptr 7 0 0 0),(36,.bool B)] ⟨8,[(7,uQ (.row ⟨true,true,89,5,1,fun _=>[.int .i64 b.lvl,.int .u32 b.wd,.slc false 2 0 0 b.ids.length,.slc false 3 0 0 b.cs.length,.slc false 5 0 0 q]⟩)),(6,uQ (.row ⟨true,true,89,5,1,fun _=>[.int .i64 a.lvl,.int .u32 a.wd,.slc false 0 0 0 a.ids.length,.slc false 1 0 0 a.cs.length,.slc false 4 0 0 p]⟩)),(0,uQ (.row ⟨false,false,3,1,a.ids.length,ints a.ids⟩)),(1,uQ (.row ⟨false,false,117,5,a.cs.length,z2m a.cs⟩)),(2,uQ (.row ⟨false,false,3,1,b.ids.length,ints b.ids⟩)),(3,uQ (.row ⟨false,false,117,5,b.cs.length,z2m b.cs⟩))]⟩:=by
  intro B hB;subst hB;refine hK _ _ ?_;clear hK K;refine z7 _ rfl ?_ ?_
  ·intro h36;have h36':headS a b=false:=by rw[<-qk];exact h36
   refine Zrs [4] ?_;refine zd (hQ _ _ ?_);refine zb (H':=⟨6,[]⟩) (.inl rfl) ?_;refine Zou ?_;refine⟨Zs,(Zg id),Zs,?_⟩;rw[shpS,h36',QH];exact⟨rfl,by trivial⟩
  ·intro h36;have h36':headS a b=true:=by rw[<-qq];exact h36
   have hcl:a.cs.length=b.cs.length:=by
    rw[headS,qh] at h36';exact jt h36'.2
   refine za (z6 ?_);refine Zrs [2,3,5] ?_;refine zc fun Q0 hN0 hX0 hR0 hE0=> ?_;refine zx (σ:=Nat) (fun i=>i<=a.cs.length/\∀z,z<i->keyQ a b z=false) (fun i=>a.cs.length-i) (fun i=>[(2,.ptr 6 0 0 0),(3,.ptr 7 0 0 0),(5,.int .i64 i)]) (fun _=>⟨8,[(7,uQ (.row ⟨true,true,89,5,1,fun _=>[.int .i64 b.lvl,.int .u32 b.wd,.slc false 2 0 0 b.ids.length,.slc false 3 0 0 b.cs.length,.slc false 5 0 0 q]⟩)),(6,uQ (.row ⟨true,true,89,5,1,fun _=>[.int .i64 a.lvl,.int .u32 a.wd,.slc false 0 0 0 a.ids.length,.slc false 1 0 0 a.cs.length,.slc false 4 0 0 p]⟩)),(0,uQ (.row ⟨false,false,3,1,a.ids.length,ints a.ids⟩)),(1,uQ (.row ⟨false,false,117,5,a.cs.length,z2m a.cs⟩)),(2,uQ (.row ⟨false,false,3,1,b.ids.length,ints b.ids⟩)),(3,uQ (.row ⟨false,false,117,5,b.cs.length,z2m b.cs⟩))]⟩) 0 ⟨qp _,fun z h=>absurd h (qI _)⟩ (ρ:=id) (Zg id) ?_;rintro i hi QL1 hL1 hRL1 hEL1;refine z6 ?_;refine Zrs [2,3,5,42] ?_;refine z7 _ rfl ?_ ?_
   ·intro h42;replace h42:=Znb h42;obtain⟨hi1,hi2⟩:=hi;refine za (z6 (zc fun Q1 hN1 hX1 hR1 hE1=> ?_));refine z6 ?_;refine Zrd [2,3,5,59] [0,1,2,3,4,5,6,7,8,9,10,11,12,13,14] [[],[],[],[],[],[],[],[],[],[],[],[],[],[],[]] [[],[],[],[],[],[],[],[],[],[],[],[],[],[],[]] ?_;intro K hK;iterate 15 (refine Zo (Zi [] []) ?_)
    refine z11 (Zpr (hK _ _ ?_));clear hK K;refine z7 _ rfl ?_ ?_
    ·intro h59;have h59':keyQ a b i=true:=h59;refine Zrs [4] ?_;refine zd (hR1 _ _ (hRL1 _ _ (hR0 _ _ (hQ _ _ ?_))));refine zb (H':=⟨6,[]⟩) (.inl rfl) ?_;refine Zou ?_;refine⟨Zs,(Zg id),Zs,?_⟩;rw[shpS,z3r (i:=i) (by omega) h59',Qn,Q8];exact⟨rfl,by trivial⟩
    ·intro h59;have h59':keyQ a b i=false:=h59;refine za (ze (hN1 _ _ ?_));refine Zrg [2,3,5] ?_;refine ze (hL1 _ _ ?_);rw[show(i:Int)+1=((i+1:Nat):Int) from by omega];refine⟨i+1,⟨⟨by omega,fun z hz=> ?_⟩,by omega⟩,id,(Zg id)⟩
     by_cases e:z=i
     ·subst e;exact h59'
     ·exact hi2 z (by omega)
   ·intro h42;replace h42:=Znb h42;obtain⟨hi1,hi2⟩:=hi;refine zw (hEL1 _ _ _ (hX0 _ _ ?_));refine Zrs [4] ?_;refine zd (hQ _ _ ?_);refine zb (H':=⟨6,[]⟩) (.inl rfl) ?_;refine Zou ?_;refine⟨Zs,(Zg id),Zs,?_⟩;rw[shpS,h36',z1s fun z hz=>hi2 z (by omega)];exact⟨rfl,by trivial⟩
 iterate 17 (refine Zo Zl ?_)
 refine z16 ?_;refine z2e rfl rfl ?_;refine Zgr ?_
 first|refine z1r ?_ ?_|refine(fun(h1:false=true->_) (h2:false=false->_)=>qe h1 fun _=>h2 rfl) ?_ ?_|refine qe ?_ ?_
 ·intro hg17
  first
   |(simp at hg17;done)
   |skip
    try replace hg17:=Znb hg17
    refine Zo id ?_;refine Zc1 (sameI5_spec a.ids b.ids a.ids.length b.ids.length rfl rfl (by omega) (by omega)) (fun z=>if z=1 then 2 else z) ?_;iterate 13 (refine Zo Zl ?_)
    refine z8 ?_;refine Zpr ?_;refine hk1 _ ?_;simp_all[headS,neB]
 ·intro hg17;refine⟨.bool false,?_⟩
  first
   |(simp at hg17;done)
   |skip
    try replace hg17:=Znb hg17
    iterate 13 (refine Zo Zl ?_)
    refine z8 ?_;refine Zpr ?_;refine hk1 _ ?_;simp_all[headS,neB]
end
end Go.Proofs
namespace Go.Sk
open Go.RowKit
def schedT0 (ops:Array Oper):Plan->Array Bool->Bool
 |.done,listed=>(Region.ready .any ops listed).isEmpty
 |.op i p,listed=>(if opQ ops i then(Region.ready .any ops listed).contains i && Region.free .any ops listed i else Region.ready .any ops listed==[i]) && schedT0 ops p (listed.setIfInBounds i true)
 |_,_=>false
def nilW (ops:Array Oper)(W:List (List Nat)):Bool:=(List.range ops.size).all fun j=> !isNew ops j && (W.getD j []).isEmpty
section
variable {X:Cx} {ops:Array Oper} {K:Fr->AH->Prop} {Q:Exit->Act->World->Prop} {Wf Uq:List (List Nat)}
def SW0 (_:Nat)(w w':World):Prop:=Kp w (fun _=>False) w'
theorem runT0_ok (hQ:∀a w,At X K a w->Q .normal a w)(hQp:∀c a w,¬Q (.panic c) a w)
  (hns:Region.noSelect ops=true) (hW:nilW ops Wf=true) (hd:dstOk X.n ops.toList=true):
  ∀(p:Plan) (listed:Array Bool) {β:Env} {H:AH} {w:World} {fr:Fr} {a:Act},schedT0 ops p listed=true->Closed ops listed->
   St X β H w->FrOk X β H.nxt fr a->
   runT X.P X.wrap X.m0 Wf Uq ops p [] fr H K->wpAnyG X.P ops Q SW0 (z5d ops) p.len listed a w
 |.done,listed,β,H,w,fr,a,hs,_,hS,hF,h=>⟨by simpa [schedT0] using hs,hQ _ _ ⟨β,fr,H,h,hF,hS⟩⟩
 |.two ..,_,_,_,_,_,_,hs,_,_,_,_=>by simp[schedT0] at hs
 |.three ..,_,_,_,_,_,_,hs,_,_,_,_=>by simp[schedT0] at hs
 |.four ..,_,_,_,_,_,_,hs,_,_,_,_=>by simp[schedT0] at hs
 |.op i p,listed,β,H,w,fr,a,hs,hcl,hS,hF,h=>by
  simp only[schedT0,qh] at hs;obtain⟨hs1,hs2⟩:=hs;simp only[runT] at h;unfold stpI at h
  cases ho:ops[i]? with
  |none=>rw[ho] at h;exact h.elim
  |some o=>
   rw[ho] at h;simp only at h;have his:i<ops.size:=(q6.1 ho).1;have hWi:=qt.1 hW i (Qt.2 his);rw[qh,qk,List.isEmpty_iff] at hWi;have hnn:newN ops i H []=[]:=by unfold newN;rw[hWi.1];rfl
   have hwo:wOf Wf i H []=[]:=by unfold wOf anyW;rw[hWi.2];rfl
   rw[hnn,hwo] at h;have hom:o∈ops.toList:=by have:=jA ho;simpa using this
   have hdo:∀t,o.dst=some t->t<X.n:=dstOk_spec hd hom
   split at hs1
   ·rename_i hq0;rw[qh] at hs1;obtain⟨hr,hfree⟩:=hs1;have hr':i∈Region.ready .any ops listed:=by simpa using hr
    have hcx:=hcl.set hr';have hisq:z5d ops i=true:=by unfold opQ at hq0;unfold z5d;exact hq0
    have hq:isQ o.op=true:=by unfold opQ at hq0;rw[ho] at hq0;exact hq0
    obtain⟨v,fr',hy,hk,hF'⟩:=stp_quiet (C:=Kp w (fun _=>False)) hS hF hdo hq (fun _ w' hw'=>hw'.mono fun b hb=>hb.elim) h;refine wpAnyG_first (T:=Kp w (fun _=>False)) ho hisq (jH hns) (fun c a w hh=>absurd hh (hQp c _ w)) ?_ (fun _=>Kp.refl _ _) p.len listed a w hcl (j5 ho hfree) hr' hy (Kp.refl _ _) (runT0_ok hQ hQp hns hW hd p _ hs2 hcx hS hF' hk);intro listed' hcl' hun j hj hji w2 w3 hT hjq hSw;exact⟨qW hT.1 hSw.1,fun b hb hnb=>by rw[<-hT.2 b hb hnb];exact hSw.2 b (q8 hb hT.1) hnb⟩
   ·rename_i hq0;have hq:isQ o.op=false:=by unfold opQ at hq0;rw[ho] at hq0;simpa using hq0
    have hisq:z5d ops i=false:=by unfold z5d;rw[ho];exact hq
    have hrd:Region.ready .any ops listed=[i]:=by simpa using hs1
    refine⟨fun h0=>(by rw[hrd] at h0;cases h0),fun x hx=> ?_⟩;have hcx:=hcl.set hx;rw[hrd] at hx;simp only[qw,QA,j7] at hx;subst hx;have he:=stp_eff (Q:=Q) hS hF hdo hq h;unfold wpOp;rw[ho];simp only
    split at he
    ·rename_i hw;rw[qf hw];refine .inl (j2 (fun a' w' hp=> ?_) he);obtain⟨β',fr',H',hk,hF',hS',hag',hle',hsub',hkp'⟩:=hp;refine⟨⟨fun hh=>(by rw[hisq] at hh;cases hh),(hkp' rfl).mono fun b hin=> ?_⟩,runT0_ok hQ hQp hns hW hd p _ hs2 hcx hS' hF' hk⟩;obtain⟨id,k,o',L,hm,_⟩:=hin
     cases hm
    ·rename_i hw;rw[qb hw];obtain⟨fr',hk,hF'⟩:=he;exact⟨⟨fun hh=>(by rw[hisq] at hh;cases hh),Kp.refl _ _⟩,runT0_ok hQ hQp hns hW hd p _ hs2 hcx hS hF' hk⟩
end
variable {X:Cx} {Q:Exit->Fr->AH->Prop} {fr:Fr} {H:AH} {l:List Code}
theorem Cs.regNil {c : Code} {id : Nat} {ops : List Oper} (keep : List Nat) (p : Plan) (W U : List (List Nat)) (hm : X.P.follows .mixedOrders = true)
    (hd:dstOk X.n ops=true) (hlen:p.len=ops.length) (hns:Region.noSelect ops.toArray=true) (hW:nilW ops.toArray W=true)
    (hs:schedT0 ops.toArray p (Array.replicate ops.length false)=true)
    (h:∀K:Fr->AH->Prop,(∀fr H,Cs X (c::l) Q fr H->K fr H)->(∀fr H F G ρ,z4x X ρ fr H F G->K F G->K fr H)->runT X.P X.wrap X.m0 W U ops.toArray p [] fr H (fun fr H=>K (prune keep fr) H)):Cs X (.region id ops.toArray true::c::l) Q fr H:=by
  have h1:=h (fun fr H=>Cs X (c::l) Q fr H) (fun _ _ h=>h) (fun fr H F G ρ hg hk=>Cs.give ρ hg hk)
  have h2:Cw X (.region id ops.toArray true) (fun e fr H=>match e with| .normal=>Cs X (c::l) Q (prune keep fr) H|e=>Q e fr H) fr H:=fun β a w hF hS=>by
    refine JQ hm (wpAny_of_G (S:=SW0) (isq:=z5d ops.toArray) _ _ _ _ ?_)
    have := runT0_ok (X := X) (ops := ops.toArray) (Q := lift X (fun e fr H => match e with | .normal => Cs X (c :: l) Q (prune keep fr) H | e => Q e fr H)) (fun _ _ h => h) (fun _ _ _ h => h) hns hW (by simpa using hd) p (Array.replicate ops.length false) (a := a) hs (fun j oj _ hl => by
        exfalso
        rcases Ql j ops.length with h'|h'
        · simp[h'] at hl
        · simp[h'] at hl) hS.drew hF h1
    rw[hlen] at this;simpa using this
  refine Cw.conv h2 ?_;intro e a w hh
  cases e with
  |normal=>exact At.prune (K:=fun fr H=>Cs X (c::l) Q fr H) hh
  |_=>exact hh
end Go.Sk
namespace Go.Proofs
open Tryz
open Go.Sk
section
theorem eqNdS (a b:Nd):EqT prog 62 [.int .i64 a.id,.str a.key,.int .u32 a.word] [.int .i64 b.id,.str b.key,.int .u32 b.word]:=
 EqIn.top (K:=2) (by omega) (by kernel_rfl) (EqIn.of 1 (by omega) [(false,3,0),(false,9,1),(false,60,2)] (by kernel_rfl) (by kernel_rfl) (by kernel_rfl)
  (.sc (by kernel_rfl) ⟨rfl,.i64,by kernel_rfl⟩ (.sc (by kernel_rfl) (show Tryz.prog.underlying 9=some .string by kernel_rfl) (.sc (by kernel_rfl) ⟨rfl,.u32,by kernel_rfl⟩ (.nil _)))))
theorem eqL_ndS (a b:Nd):eqL [.int .i64 a.id,.str a.key,.int .u32 a.word] [.int .i64 b.id,.str b.key,.int .u32 b.word]=decide (a=b):=by
 cases a;cases b
 rw[Qj];simp[eqL,eqS,ba_beqK]
theorem eqL_cbS (a b:Cb):eqL [.int .i64 a.kind,.int .i64 a.node,.int .i64 a.lvl] [.int .i64 b.kind,.int .i64 b.node,.int .i64 b.lvl]=decide (a=b):=by
 cases a;cases b
 rw[Qj];simp[eqL,eqS]
def shPj (i j:Nat):Pn:=fun id k=>if id=0 then(0,3*i+1) else if id=1 then(0,3*i+2) else if id=2 then(1,3*j+1) else if id=3 then(1,3*j+2) else if id=4 then(0,3*i+3) else if id=5 then(1,3*j+3) else(id,k)
theorem sameShapeM_spec (A B:List Ly)(ha:lyB A)(hb:lyB B)(i j p q:Nat)(hi:i<p)(hj:j<q):
  zf prog 53 [.agg [.int .i64 (lyA A i).lvl,.int .u32 (lyA A i).wd,.slc false 0 (3*i+1) 0 (lyA A i).ids.length,.slc false 0 (3*i+2) 0 (lyA A i).cs.length,.slc false 0 (3*i+3) 0 (lyA A i).ps.length],.agg [.int .i64 (lyA B j).lvl,.int .u32 (lyA B j).wd,.slc false 1 (3*j+1) 0 (lyA B j).ids.length,.slc false 1 (3*j+2) 0 (lyA B j).cs.length,.slc false 1 (3*j+3) 0 (lyA B j).ps.length]]
   ⟨6,[(0,(3*p+1,fam false 3 1 (lyF false A))),(1,(3*q+1,fam false 3 1 (lyF false B)))]⟩ (fun s H1=>s= .bool (shpS (lyA A i) (lyA B j))/\H1=⟨6,[]⟩):=by
 have h:=sameShape_spec (lyA A i) (lyA B j) (lyA A i).ps.length (lyA B j).ps.length (ha.2 i).1 (hb.2 j).1 (ha.2 i).2.1 (hb.2 j).2.1
 have g:=h.mem (shPj i j) (os1:=[(0,(3*p+1,fam false 3 1 (lyF false A))),(1,(3*q+1,fam false 3 1 (lyF false B)))])
  (by
   refine⟨⟨by show 0<6;decide,fun k=>rfl,fun k' hk=>⟨Obj.lt_row.2 fun q _=>z1t _ _ q,?_⟩⟩,⟨by show 1<6;decide,fun k=>rfl,fun k' hk=>⟨Obj.lt_row.2 fun q _=>cls_lt _ _ q,?_⟩⟩,⟨by show 2<6;decide,fun k=>rfl,fun k' hk=>⟨Obj.lt_row.2 fun q _=>z1t _ _ q,?_⟩⟩,⟨by show 3<6;decide,fun k=>rfl,fun k' hk=>⟨Obj.lt_row.2 fun q _=>cls_lt _ _ q,?_⟩⟩,trivial⟩
   ·show 3*i+1<3*p+1/\zr _ (fam false 3 1 (lyF false A) (3*i+1)) _
    refine⟨by omega,?_⟩;rw[z2h,lyF_0];exact⟨fun h=>(by cases h),rfl,qd _,fun q _=>(z2k _ _ q).symm⟩
   ·show 3*i+2<3*p+1/\zr _ (fam false 3 1 (lyF false A) ((3*i+1)+1)) _
    refine⟨by omega,?_⟩;rw[z2h,lyF_1];exact⟨fun h=>(by cases h),rfl,qd _,fun q _=>(z4a _ _ q).symm⟩
   ·show 3*j+1<3*q+1/\zr _ (fam false 3 1 (lyF false B) (3*j+1)) _
    refine⟨by omega,?_⟩;rw[z2h,lyF_0];exact⟨fun h=>(by cases h),rfl,qd _,fun q _=>(z2k _ _ q).symm⟩
   ·show 3*j+2<3*q+1/\zr _ (fam false 3 1 (lyF false B) ((3*j+1)+1)) _
    refine⟨by omega,?_⟩;rw[z2h,lyF_1]
    exact⟨fun h=>(by cases h),rfl,qd _,fun q _=>(z4a _ _ q).symm⟩)
  ⟨by simp[SV.lt,SV.ltL],by simp[SV.lt,SV.ltL],trivial⟩ (by
   intro id k hid;have hid:id<6:=hid
   show(shPj i j id k).1<6
   simp only[shPj];repeat' split
   all_goals first|exact hid|(show 0<6;decide)|(show 1<6;decide)) (by
   intro x hx k;simp only[qw,QA,j7] at hx;rcases hx with e|e<;>subst e
   ·exact z4d false _ _ A k
   ·exact z4d false _ _ B k)
 have e:SV.renPL (shPj i j) [.agg [.int .i64 (lyA A i).lvl,.int .u32 (lyA A i).wd,.slc false 0 0 0 (lyA A i).ids.length,.slc false 1 0 0 (lyA A i).cs.length,.slc false 4 0 0 (lyA A i).ps.length],.agg [.int .i64 (lyA B j).lvl,.int .u32 (lyA B j).wd,.slc false 2 0 0 (lyA B j).ids.length,.slc false 3 0 0 (lyA B j).cs.length,.slc false 5 0 0 (lyA B j).ps.length]]=[.agg [.int .i64 (lyA A i).lvl,.int .u32 (lyA A i).wd,.slc false 0 (3*i+1) 0 (lyA A i).ids.length,.slc false 0 (3*i+2) 0 (lyA A i).cs.length,.slc false 0 (3*i+3) 0 (lyA A i).ps.length],.agg [.int .i64 (lyA B j).lvl,.int .u32 (lyA B j).wd,.slc false 1 (3*j+1) 0 (lyA B j).ids.length,.slc false 1 (3*j+2) 0 (lyA B j).cs.length,.slc false 1 (3*j+3) 0 (lyA B j).ps.length]]:=rfl;rw[e] at g;refine g.imp ?_;rintro s H' ⟨s0,H0',⟨rfl,rfl⟩,rfl,rfl⟩;exact⟨rfl,rfl⟩
def lsPj (i j:Nat):Pn:=fun id k=>if id=0 then(0,3*i+2) else if id=1 then(0,3*i+3) else if id=2 then(1,3*j+2) else if id=3 then(1,3*j+3) else(id,k)
theorem sameLM_spec (A B:List Ly)(ha:lyB A)(i j p q:Nat)(hi:i<p)(hj:j<q):
  zf prog 54 [.agg [.slc false 0 (3*i+2) 0 (lyA A i).cs.length,.slc false 0 (3*i+3) 0 (lyA A i).ps.length],.agg [.slc false 1 (3*j+2) 0 (lyA B j).cs.length,.slc false 1 (3*j+3) 0 (lyA B j).ps.length]]
   ⟨4,[(0,(3*p+1,fam false 3 1 (lyF false A))),(1,(3*q+1,fam false 3 1 (lyF false B)))]⟩ (fun s H1=>s= .bool (decide (((lyA A i).cs,(lyA A i).ps)=((lyA B j).cs,(lyA B j).ps)))/\H1=⟨4,[]⟩):=by
 have h:=same_spec (lyA A i).cs (lyA A i).ps (lyA B j).cs (lyA B j).ps _ _ _ _ rfl rfl rfl rfl (by have:=(ha.2 i).2.1;omega) (by have:=(ha.2 i).2.2;omega)
 have g:=h.mem (lsPj i j) (os1:=[(0,(3*p+1,fam false 3 1 (lyF false A))),(1,(3*q+1,fam false 3 1 (lyF false B)))])
  (by
   refine⟨⟨by show 0<4;decide,fun k=>rfl,fun k' hk=>⟨Obj.lt_row.2 fun q _=>cls_lt _ _ q,?_⟩⟩,⟨by show 1<4;decide,fun k=>rfl,fun k' hk=>⟨Obj.lt_row.2 fun q _=>prs_lt _ _ q,?_⟩⟩,⟨by show 2<4;decide,fun k=>rfl,fun k' hk=>⟨Obj.lt_row.2 fun q _=>cls_lt _ _ q,?_⟩⟩,⟨by show 3<4;decide,fun k=>rfl,fun k' hk=>⟨Obj.lt_row.2 fun q _=>prs_lt _ _ q,?_⟩⟩,trivial⟩
   ·show 3*i+2<3*p+1/\zr _ (fam false 3 1 (lyF false A) ((3*i+1)+1)) _
    refine⟨by omega,?_⟩;rw[z2h,lyF_1];exact⟨fun h=>(by cases h),rfl,qd _,fun q _=>(z4a _ _ q).symm⟩
   ·show 3*i+3<3*p+1/\zr _ (fam false 3 1 (lyF false A) ((3*i+2)+1)) _
    refine⟨by omega,?_⟩;rw[z2h,lyF_2];exact⟨fun h=>(by cases h),rfl,qd _,fun q _=>(prs_renP _ _ q).symm⟩
   ·show 3*j+2<3*q+1/\zr _ (fam false 3 1 (lyF false B) ((3*j+1)+1)) _
    refine⟨by omega,?_⟩;rw[z2h,lyF_1];exact⟨fun h=>(by cases h),rfl,qd _,fun q _=>(z4a _ _ q).symm⟩
   ·show 3*j+3<3*q+1/\zr _ (fam false 3 1 (lyF false B) ((3*j+2)+1)) _
    refine⟨by omega,?_⟩;rw[z2h,lyF_2]
    exact⟨fun h=>(by cases h),rfl,qd _,fun q _=>(prs_renP _ _ q).symm⟩)
  ⟨by simp[SV.lt,SV.ltL],by simp[SV.lt,SV.ltL],trivial⟩ (by
   intro id k hid;have hid:id<4:=hid
   show(lsPj i j id k).1<4
   simp only[lsPj];repeat' split
   all_goals first|exact hid|(show 0<4;decide)|(show 1<4;decide)) (by
   intro x hx k;simp only[qw,QA,j7] at hx;rcases hx with e|e<;>subst e
   ·exact z4d false _ _ A k
   ·exact z4d false _ _ B k)
 have e:SV.renPL (lsPj i j) [.agg [.slc false 0 0 0 (lyA A i).cs.length,.slc false 1 0 0 (lyA A i).ps.length],.agg [.slc false 2 0 0 (lyA B j).cs.length,.slc false 3 0 0 (lyA B j).ps.length]]=[.agg [.slc false 0 (3*i+2) 0 (lyA A i).cs.length,.slc false 0 (3*i+3) 0 (lyA A i).ps.length],.agg [.slc false 1 (3*j+2) 0 (lyA B j).cs.length,.slc false 1 (3*j+3) 0 (lyA B j).ps.length]]:=rfl;rw[e] at g;refine g.imp ?_;rintro s H' ⟨s0,H0',⟨rfl,rfl⟩,rfl,rfl⟩;exact⟨rfl,rfl⟩
theorem shpS_same {a b:Ly}:(shpS a b && decide ((a.cs,a.ps)=(b.cs,b.ps)))=decide (a=b):=by
 rw[Qj,qh,qj,qj]
 constructor
 ·rintro⟨h,e⟩;rw[shpS,qh,headS] at h;simp only[qh,qy,qj] at h;obtain⟨e1,e2⟩:=Prod.mk.inj e
  cases a;cases b
  simp only at*;simp[h.1.1.1.1,h.1.1.1.2,h.1.1.2,e1,e2]
 ·rintro rfl;refine⟨?_,rfl⟩;rw[shpS,qh,headS];refine⟨by simp,?_⟩;rw[z1s fun i _=> ?_];· rfl
  rw[keyQ,qq,sEq_iff];exact qG rfl
theorem ly_ext {A B:List Ly}(hl:A.length=B.length)(h:∀q,q<A.length->lyA A q=lyA B q):A=B:=
 Qz hl fun q h1 h2=>by rw[<-lyA_lt h1,<-lyA_lt h2];exact h q h1
theorem cb_ext {A B:List Cb}(hl:A.length=B.length)(h:∀q,q<A.length->cbA A q=cbA B q):A=B:=
 Qz hl fun q h1 h2=>by rw[<-cbA_lt h1,<-cbA_lt h2];exact h q h1
theorem nd_extS {A B:List Nd}(hl:A.length=B.length)(h:∀q,q<A.length->nd A q=nd B q):A=B:=
 Qz hl fun q h1 h2=>by rw[<-z51 h1,<-z51 h2];exact h q h1
def JoPm.exE:=aj9 @z17 @zg @zi @zn @zk @z12 @z1a ec2 (aj9 @zj @zt @zo @zl ec13 @zp z43 z4y (aj9 @zu ec3 ec5 @z1d.eq_1 @zz.eq_1 @ints.eq_1 ec33 ec34 (aj ec35 @eqNdS)))
def JoPm.axE:=aj9 @z17 @zg @zi @zn @zk @z12 @z1a ec2 (aj9 @zj @zt @zo @zl ec13 @zp z43 z4y (aj9 @zu ec3 ec5 @z1d.eq_1 @zz.eq_1 ec33 ec34 @eqNdS (aj6 @z1q @z26 @z2n @z31 ec37 @z40)))
theorem JoPm.sdE {a:Prop}(h:a:=by first|exact D0.sdE|exact eqNdS _ _|(intro _;exact eqNdS _ _)|exact eqCb _ _ _ _ _ _|(intro _;exact eqCb _ _ _ _ _ _)):a:=h
open JnNm (gxE oxE)
open JoPm (axE sdE exE)
theorem sameF_spec (a b:Fo)(ha:lyB a.ly)(hb:lyB b.ly)(n k m n' k' m':Nat)(hn:a.ns.length=n)(hk:a.ly.length=k)(hm:a.cb.length=m)(hn':b.ns.length=n')(hk':b.ly.length=k')(hm':b.cb.length=m')(hx:n<=1000000)(hy:m<=1000000)(hz:k<=1000000000000000):
  zf prog 18 [.agg [.slc false 0 0 0 n,.int .i64 a.ht,.slc false 1 0 0 k,.slc false 3 0 0 m],.agg [.slc false 4 0 0 n',.int .i64 b.ht,.slc false 5 0 0 k',.slc false 7 0 0 m']]
   ⟨8,[(0,uQ (.row ⟨false,false,62,3,n,nds a.ns⟩)),(1,uQ (.row ⟨false,false,89,5,k,lyR 2 a.ly⟩)),(2,(3*k+1,fam false 3 1 (lyF false a.ly))),(3,uQ (.row ⟨false,false,58,3,m,cbs a.cb⟩)),(4,uQ (.row ⟨false,false,62,3,n',nds b.ns⟩)),(5,uQ (.row ⟨false,false,89,5,k',lyR 6 b.ly⟩)),(6,(3*k'+1,fam false 3 1 (lyF false b.ly))),(7,uQ (.row ⟨false,false,58,3,m',cbs b.cb⟩))]⟩
   (fun s H1=>s= .bool (decide (a=b))/\H1=⟨8,[]⟩):=by
 obtain⟨ns,ht,L,C⟩:=a;obtain⟨ns',ht',L',C'⟩:=b;dsimp only at ha hb hn hk hm hn' hk' hm' ⊢;subst hn hk hm hn' hk' hm';refine zf.ofC false 111 [.tmp 4] func18 rfl rfl ntmps18 results18 rfl ?_;intro w0 own0 β0 Q hQ hQn;simp only[z18];refine Zrs [2,3] ?_;refine z6 ?_;refine Zrs [2,3,39] ?_;refine z7 _ rfl ?_ ?_
 ·intro h39
  have hne:¬((⟨ns,ht,L,C⟩:Fo)=⟨ns',ht',L',C'⟩):=fun e=>by
   injection e with e1 e2 e3 e4
   subst e1 e2 e3 e4;simp at h39
  refine Zrs [4] ?_;refine zd (hQ _ _ ?_);rw[qJ hne];refine zb (H':=⟨8,[]⟩) (.inl rfl) ?_;refine Zou ?_;refine⟨Zs,(Zg id),Zs,?_⟩
  all_goals(first|trivial|exact⟨rfl,trivial⟩)
 ·intro h39
  obtain⟨hh,hnl,hll,hcl⟩:ht=ht'/\ns.length=ns'.length/\L.length=L'.length/\C.length=C'.length:=by
   simp at h39;omega
  refine za (z6 ?_);refine Zrs [2,3,5] ?_;refine zc fun Q0 hN0 hX0 hR0 hE0=> ?_;refine zx (σ:=Nat) (fun i=>i<=ns.length/\∀q,q<i->nd ns q=nd ns' q) (fun i=>ns.length-i) (fun i=>[(2,.ptr 8 0 0 0),(3,.ptr 9 0 0 0),(5,.int .i64 i)]) (fun _=>⟨10,[(9,uQ (.row ⟨true,true,34,4,1,fun _=>[.slc false 4 0 0 ns'.length,.int .i64 ht',.slc false 5 0 0 L'.length,.slc false 7 0 0 C'.length]⟩)),(8,uQ (.row ⟨true,true,34,4,1,fun _=>[.slc false 0 0 0 ns.length,.int .i64 ht,.slc false 1 0 0 L.length,.slc false 3 0 0 C.length]⟩)),(0,uQ (.row ⟨false,false,62,3,ns.length,nds ns⟩)),(1,uQ (.row ⟨false,false,89,5,L.length,lyR 2 L⟩)),(2,(3*L.length+1,fam false 3 1 (lyF false L))),(3,uQ (.row ⟨false,false,58,3,C.length,cbs C⟩)),(4,uQ (.row ⟨false,false,62,3,ns'.length,nds ns'⟩)),(5,uQ (.row ⟨false,false,89,5,L'.length,lyR 6 L'⟩)),(6,(3*L'.length+1,fam false 3 1 (lyF false L'))),(7,uQ (.row ⟨false,false,58,3,C'.length,cbs C'⟩))]⟩) 0 ⟨qp _,fun q h=>absurd h (qI _)⟩ (ρ:=id) (Zg id) ?_;rintro i hi QL1 hL1 hRL1 hEL1;refine z6 ?_;refine Zrs [2,3,5,44] ?_;refine z7 _ rfl ?_ ?_
  ·intro h44;replace h44:=Znb h44;obtain⟨hi1,hi2⟩:=hi;have hiL:i<ns'.length:=by omega
   refine za (z6 (zc fun Q1 hN1 hX1 hR1 hE1=> ?_));refine z6 ?_;refine Zrd [2,3,5,57] [0,1,2,3,4,5,6,7,8,9,10] [[],[],[],[],[],[],[],[],[],[],[]] [[],[],[],[],[],[],[],[],[],[],[]] ?_;intro K hK;iterate 11 (refine Zo (Zi [] []) ?_)
   rw[eqL_ndS];repeat(with_reducible apply qe;exact sdE)
   refine z11 (Zpr (hK _ _ ?_));clear hK K;refine z7 _ rfl ?_ ?_
   ·intro h57;have h57':nd ns i≠nd ns' i:=by simpa using h57
    refine Zrs [4] ?_;refine zd (hR1 _ _ (hRL1 _ _ (hR0 _ _ (hQ _ _ ?_))))
    have hne:¬((⟨ns,ht,L,C⟩:Fo)=⟨ns',ht',L',C'⟩):=fun e=>by
     injection e with e1 e2 e3 e4
     exact h57' (by rw[e1])
    rw[qJ hne];refine zb (H':=⟨8,[]⟩) (.inl rfl) ?_;refine Zou ?_;refine⟨Zs,(Zg id),Zs,?_⟩
    all_goals(first|trivial|exact⟨rfl,trivial⟩)
   ·intro h57;have h57':nd ns i=nd ns' i:=by simpa using h57
    refine za (ze (hN1 _ _ ?_));refine Zrg [2,3,5] ?_;refine ze (hL1 _ _ ?_);rw[show(i:Int)+1=((i+1:Nat):Int) from by omega];refine⟨i+1,⟨⟨by omega,fun q hq=> ?_⟩,by omega⟩,id,(Zg id)⟩
    by_cases e:q=i
    ·subst e;exact h57'
    ·exact hi2 q (by omega)
  ·intro h44;replace h44:=Znb h44;obtain⟨hi1,hi2⟩:=hi;have hns:ns=ns':=nd_extS hnl fun q hq=>hi2 q (by omega);refine zw (hEL1 _ _ _ (hX0 _ _ (z6 ?_)));refine Zrs [2,3,6] ?_;refine zc fun Q2 hN2 hX2 hR2 hE2=> ?_;refine zx (σ:=Nat) (fun i=>i<=C.length/\∀q,q<i->cbA C q=cbA C' q) (fun i=>C.length-i) (fun i=>[(2,.ptr 8 0 0 0),(3,.ptr 9 0 0 0),(6,.int .i64 i)]) (fun _=>⟨10,[(9,uQ (.row ⟨true,true,34,4,1,fun _=>[.slc false 4 0 0 ns'.length,.int .i64 ht',.slc false 5 0 0 L'.length,.slc false 7 0 0 C'.length]⟩)),(8,uQ (.row ⟨true,true,34,4,1,fun _=>[.slc false 0 0 0 ns.length,.int .i64 ht,.slc false 1 0 0 L.length,.slc false 3 0 0 C.length]⟩)),(0,uQ (.row ⟨false,false,62,3,ns.length,nds ns⟩)),(1,uQ (.row ⟨false,false,89,5,L.length,lyR 2 L⟩)),(2,(3*L.length+1,fam false 3 1 (lyF false L))),(3,uQ (.row ⟨false,false,58,3,C.length,cbs C⟩)),(4,uQ (.row ⟨false,false,62,3,ns'.length,nds ns'⟩)),(5,uQ (.row ⟨false,false,89,5,L'.length,lyR 6 L'⟩)),(6,(3*L'.length+1,fam false 3 1 (lyF false L'))),(7,uQ (.row ⟨false,false,58,3,C'.length,cbs C'⟩))]⟩) 0 ⟨qp _,fun q h=>absurd h (qI _)⟩ (ρ:=id) (Zg id) ?_;rintro j hj QL2 hL2 hRL2 hEL2;refine z6 ?_;refine Zrs [2,3,6,62] ?_;refine z7 _ rfl ?_ ?_
   ·intro h62;replace h62:=Znb h62;obtain⟨hj1,hj2⟩:=hj;have hjL:j<C'.length:=by omega
    refine za (z6 (zc fun Q3 hN3 hX3 hR3 hE3=> ?_));refine z6 ?_;refine Zrd [2,3,6,75] [0,1,2,3,4,5,6,7,8,9,10] [[],[],[],[],[],[],[],[],[],[],[]] [[],[],[],[],[],[],[],[],[],[],[]] ?_;intro K hK;iterate 11 (refine Zo (Zi [] []) ?_)
    rw[eqL_cbS];repeat(with_reducible apply qe;exact sdE)
    refine z11 (Zpr (hK _ _ ?_));clear hK K;refine z7 _ rfl ?_ ?_
    ·intro h75;have h75':cbA C j≠cbA C' j:=by simpa using h75
     refine Zrs [4] ?_;refine zd (hR3 _ _ (hRL2 _ _ (hR2 _ _ (hQ _ _ ?_))))
     have hne:¬((⟨ns,ht,L,C⟩:Fo)=⟨ns',ht',L',C'⟩):=fun e=>by
      injection e with e1 e2 e3 e4
      exact h75' (by rw[e4])
     rw[qJ hne];refine zb (H':=⟨8,[]⟩) (.inl rfl) ?_;refine Zou ?_;refine⟨Zs,(Zg id),Zs,?_⟩
     all_goals(first|trivial|exact⟨rfl,trivial⟩)
    ·intro h75;have h75':cbA C j=cbA C' j:=by simpa using h75
     refine za (ze (hN3 _ _ ?_));refine Zrg [2,3,6] ?_;refine ze (hL2 _ _ ?_);rw[show(j:Int)+1=((j+1:Nat):Int) from by omega];refine⟨j+1,⟨⟨by omega,fun q hq=> ?_⟩,by omega⟩,id,(Zg id)⟩
     by_cases e:q=j
     ·subst e;exact h75'
     ·exact hj2 q (by omega)
   ·intro h62;replace h62:=Znb h62;obtain⟨hj1,hj2⟩:=hj;have hCe:C=C':=cb_ext hcl fun q hq=>hj2 q (by omega);refine zw (hEL2 _ _ _ (hX2 _ _ (z6 ?_)));refine Zrs [2,3,7] ?_;refine zc fun Q4 hN4 hX4 hR4 hE4=> ?_;refine zx (σ:=Nat) (fun i=>i<=L.length/\∀q,q<i->lyA L q=lyA L' q) (fun i=>L.length-i) (fun i=>[(2,.ptr 8 0 0 0),(3,.ptr 9 0 0 0),(7,.int .i64 i)]) (fun _=>⟨10,[(9,uQ (.row ⟨true,true,34,4,1,fun _=>[.slc false 4 0 0 ns'.length,.int .i64 ht',.slc false 5 0 0 L'.length,.slc false 7 0 0 C'.length]⟩)),(8,uQ (.row ⟨true,true,34,4,1,fun _=>[.slc false 0 0 0 ns.length,.int .i64 ht,.slc false 1 0 0 L.length,.slc false 3 0 0 C.length]⟩)),(0,uQ (.row ⟨false,false,62,3,ns.length,nds ns⟩)),(1,uQ (.row ⟨false,false,89,5,L.length,lyR 2 L⟩)),(2,(3*L.length+1,fam false 3 1 (lyF false L))),(3,uQ (.row ⟨false,false,58,3,C.length,cbs C⟩)),(4,uQ (.row ⟨false,false,62,3,ns'.length,nds ns'⟩)),(5,uQ (.row ⟨false,false,89,5,L'.length,lyR 6 L'⟩)),(6,(3*L'.length+1,fam false 3 1 (lyF false L'))),(7,uQ (.row ⟨false,false,58,3,C'.length,cbs C'⟩))]⟩) 0 ⟨qp _,fun q h=>absurd h (qI _)⟩ (ρ:=id) (Zg id) ?_;rintro z hz3 QL3 hL3 hRL3 hEL3;refine z6 ?_;refine Zrs [2,3,7,80] ?_;refine z7 _ rfl ?_ ?_
    ·intro h80;replace h80:=Znb h80;obtain⟨hz1,hz2⟩:=hz3;have hzL:z<L'.length:=by omega
     refine za (z6 (zc fun Q5 hN5 hX5 hR5 hE5=> ?_));refine z6 ?_;refine Cs.regNil [2,3,7,110] (.op 0 (.op 1 (.op 2 (.op 3 (.op 4 (.op 5 (.op 6 (.op 7 (.op 8 (.op 9 (.op 10 (.op 11 (.op 12 (.op 13 (.op 14 (.op 15 (.op 16 (.op 17 (.op 18 (.op 19 (.op 20 (.op 21 (.op 22 (.op 23 (.op 24 (.op 25 (.op 26 (.op 27 .done)))))))))))))))))))))))))))) [[],[],[],[],[],[],[],[],[],[],[],[],[],[],[],[],[],[],[],[],[],[],[],[],[],[],[],[]] [[],[],[],[],[],[],[],[],[],[],[],[],[],[],[],[],[],[],[],[],[],[],[],[],[],[],[],[]] Tryz.mo rfl rfl (by kernel_rfl) (by kernel_rfl) (by kernel_rfl) ?_;intro K hK hG
     have hk16:∀B:Bool,B= !decide (lyA L z=lyA L' z)->K [(2,.ptr 8 0 0 0),(3,.ptr 9 0 0 0),(7,.int .i64 z),(110,.bool B)] ⟨10,[(9,uQ (.row ⟨true,true,34,4,1,fun _=>[.slc false 4 0 0 ns'.length,.int .i64 ht',.slc false 5 0 0 L'.length,.slc false 7 0 0 C'.length]⟩)),(8,uQ (.row ⟨true,true,34,4,1,fun _=>[.slc false 0 0 0 ns.length,.int .i64 ht,.slc false 1 0 0 L.length,.slc false 3 0 0 C.length]⟩)),(0,uQ (.row ⟨false,false,62,3,ns.length,nds ns⟩)),(1,uQ (.row ⟨false,false,89,5,L.length,lyR 2 L⟩)),(2,(3*L.length+1,fam false 3 1 (lyF false L))),(3,uQ (.row ⟨false,false,58,3,C.length,cbs C⟩)),(4,uQ (.row ⟨false,false,62,3,ns'.length,nds ns'⟩)),(5,uQ (.row ⟨false,false,89,5,L'.length,lyR 6 L'⟩)),(6,(3*L'.length+1,fam false 3 1 (lyF false L'))),(7,uQ (.row ⟨false,false,58,3,C'.length,cbs C'⟩))]⟩:=by
      intro B hB;subst hB;refine hK _ _ ?_;clear hG hK K;refine z7 _ rfl ?_ ?_
      ·intro h110;have h110':¬lyA L z=lyA L' z:=by simpa using h110
       refine Zrs [4] ?_;refine zd (hR5 _ _ (hRL3 _ _ (hR4 _ _ (hQ _ _ ?_))))
       have hne:¬((⟨ns,ht,L,C⟩:Fo)=⟨ns',ht',L',C'⟩):=fun e=>by
        injection e with e1 e2 e3 e4
        exact h110' (by rw[e3])
       rw[qJ hne];refine zb (H':=⟨8,[]⟩) (.inl rfl) ?_;refine Zou ?_;refine⟨Zs,(Zg id),Zs,?_⟩
       all_goals(first|trivial|exact⟨rfl,trivial⟩)
      ·intro h110;have h110':lyA L z=lyA L' z:=by simpa using h110
       refine za (ze (hN5 _ _ ?_));refine Zrg [2,3,7] ?_;refine ze (hL3 _ _ ?_);rw[show(z:Int)+1=((z+1:Nat):Int) from by omega];refine⟨z+1,⟨⟨by omega,fun q hq=> ?_⟩,by omega⟩,id,(Zg id)⟩
       by_cases e:q=z
       ·subst e;exact h110'
       ·exact hz2 q (by omega)
     refine Zo (ZT [] [] []) ?_;refine Zo (ZT [] [] []) ?_;refine Zo (ZT [] [] []) ?_;refine Zo (ZT [] [] []) ?_;refine Zo (ZT [] [] []) ?_;refine Zo (ZT [] [] []) ?_;refine Zo (ZT [] [] []) ?_;refine Zo (ZT [] [] []) ?_;refine Zo (ZT [] [] []) ?_;refine Zo (ZT [] [] []) ?_;refine Zo (ZT [] [] []) ?_;refine Zc1 (sameShapeM_spec L L' ha hb z z L.length L'.length (by omega) (by omega)) (fun q=>if q=0 then 2 else if q=1 then 6 else q) ?_;refine Zo (ZT [] [] []) ?_;refine Zo (ZT [] [] []) ?_;refine Zo (ZT [] [] []) ?_;refine Zo (ZT [] [] []) ?_;refine Zo (ZT [] [] []) ?_;refine Zo (ZT [] [] []) ?_;refine Zo (ZT [] [] []) ?_;refine Zo (ZT [] [] []) ?_;refine Zo (ZT [] [] []) ?_;refine Zo (ZT [] [] []) ?_;refine Zo (ZT [] [] []) ?_;refine Zo (ZT [] [] []) ?_;refine Zo (ZT [] [] []) ?_;refine Zo (ZT [] [] []) ?_;refine z14 _ [] [] [] rfl rfl rfl rfl ?_;refine z2e rfl rfl ?_;refine Zgr ?_
     first|refine z1r ?_ ?_|refine(fun(h1:false=true->_) (h2:false=false->_)=>qe h1 fun _=>h2 rfl) ?_ ?_|refine qe ?_ ?_
     ·intro hg25
      first
       |(simp at hg25;done)
       |skip
        try replace hg25:=Znb hg25
        refine Zo id ?_;refine Zc1 (sameLM_spec L L' ha z z L.length L'.length (by omega) (by omega)) (fun q=>if q=0 then 2 else if q=1 then 6 else q) ?_;refine Zo (ZT [] [] []) ?_
        try with_reducible refine qe (by clear hk16;simp_all;done) ?_
        repeat(with_reducible apply qe;exact sdE)
        refine Zo (ZT [] [] []) ?_
        try with_reducible refine qe (by clear hk16;simp_all;done) ?_
        repeat(with_reducible apply qe;exact sdE)
        refine z1f ?_;refine Zpr ?_;refine hk16 _ ?_;rw[<-shpS_same];clear hk16 hG hK K;simp_all
     ·intro hg25;refine⟨.bool false,?_⟩
      first
       |(simp at hg25;done)
       |skip
        try replace hg25:=Znb hg25
        refine Zo (ZT [] [] []) ?_
        try with_reducible refine qe (by clear hk16;simp_all;done) ?_
        repeat(with_reducible apply qe;exact sdE)
        refine Zo (ZT [] [] []) ?_
        try with_reducible refine qe (by clear hk16;simp_all;done) ?_
        repeat(with_reducible apply qe;exact sdE)
        refine z1f ?_;refine Zpr ?_;refine hk16 _ ?_;rw[<-shpS_same];clear hk16 hG hK K;simp_all
    ·intro h80;replace h80:=Znb h80;obtain⟨hz1,hz2⟩:=hz3;have hLe:L=L':=ly_ext hll fun q hq=>hz2 q (by omega);refine zw (hEL3 _ _ _ (hX4 _ _ ?_));refine Zrs [4] ?_;refine zd (hQ _ _ ?_);subst hh hns hCe hLe;rw[qG rfl];refine zb (H':=⟨8,[]⟩) (.inl rfl) ?_;refine Zou ?_;refine⟨Zs,(Zg id),Zs,?_⟩
     all_goals(first|trivial|exact⟨rfl,trivial⟩)
end
section
theorem rowsOf_two (a b:Int):z4f 1 2 [SV.int .i64 a,SV.int .i64 b]=ints [a,b]:=rfl
theorem rowsOf_five (a b c d e:Int):z4f 1 5 [SV.int .i64 a,SV.int .i64 b,SV.int .i64 c,SV.int .i64 d,SV.int .i64 e]=ints [a,b,c,d,e]:=rfl
theorem nds_0 (xs:List Nd)(i:Nat):(nds xs i)[0]? =some (.int .i64 (nd xs i).id):=rfl
theorem nds_1 (xs:List Nd)(i:Nat):(nds xs i)[1]? =some (.str (nd xs i).key):=rfl
theorem nds_2 (xs:List Nd)(i:Nat):(nds xs i)[2]? =some (.int .u32 (nd xs i).word):=rfl
theorem nds_take (xs:List Nd)(i:Nat):(nds xs i).take 3=[.int .i64 (nd xs i).id,.str (nd xs i).key,.int .u32 (nd xs i).word]:=rfl
def ec47:=aj6 @rowsOf_two @rowsOf_five @nds_0 @nds_1 @nds_2 @nds_take
def RotEm.exE:=aj9 @zg @zi @zn @zk @z12 @z1a @zj @zt (aj9 @zo @zl ec13 @zp ec0 @z13.eq_1 z43 @z1d.eq_1 (aj7 @zz.eq_1 @app_nds ec24 @z17 @z21 ec47 @z5g))
def RotEm.gxE:=aj7 z43 ec16 @z1d.eq_1 @zz.eq_1 @z1v @z1t @z13.eq_1
def RotEm.axE:=aj9 @zg @zi @zn @zk @z12 @z1a @zj @zt (aj9 @zo @zl ec13 @zp ec0 @z13.eq_1 z43 @z1d.eq_1 (aj9 @zz.eq_1 @app_nds ec24 @z17 @z21 ec47 @z5g @z26 @z1q))
open RotEm (gxE axE exE)
open D0 (sdE oxE)
theorem roster_spec (ls:List Int)(m at_:Nat)(n:Int)(hx:ls.length<=9223372036854775807)(hm:m<=ls.length)(ha:at_<=m)(hn:1<=n/\n<=64):
  zf prog 11 [.ptr 0 0 0 0,.int .i64 n] ⟨2,[(0,z13 1 m at_),(1,z1d ls)]⟩
   (fun s H'=> ∃(xs:List Nd) (at':Nat),at'<=m/\xs.length<=n/\z1o xs=0/\s= .slc true 2 0 0 xs.length/\H'=⟨3,[(2,z3t xs),(0,z13 1 m at')]⟩):=by
 refine zf.ofC false 37 [.tmp 4] func11 rfl rfl ntmps11 results11 rfl ?_;intro w0 own0 β0 Q hQ hQn;simp only[z18];refine Zrs [0,1] ?_;refine Zrs [0,1,5] ?_;refine z6 ?_;refine sg [0,1,5,6] rfl ?_;intro K hK;iterate 3 (refine Zo Zl ?_)
 refine Zo Zl ?_;refine Zca (z1y ls m at_ (n+1) hx hm ha (by omega)) (id) ?_;rintro s0 H0 ⟨v,at1,h1,h2,h3,h4,rfl,rfl⟩ s1 H1 hs1 hH1;obtain⟨hs2,hH2⟩:=Zaf hs1 hH1;clear hs1 hH1;subst hs2 hH2;repeat(with_reducible apply qe;exact sdE)
 have hv:=h3 (by omega);refine Zo Zl ?_;refine z8 (Zpr (hK _ _ ?_));clear hK K;refine z2d 5 62 3 (nds []) rfl ?_;dsimp only;refine zc fun Q0 hN0 hX0 hR0 hE0=> ?_;refine zx (σ:=List Nd×Nat×Nat) (fun σ=>σ.2.1<=m/\(σ.1.length:Int)+σ.2.2<=n/\z1o σ.1=0) (fun σ=>σ.2.2) (fun σ=>[(0,.ptr 0 0 0 0),(1,.int .i64 n),(5,.slc true 2 0 0 σ.1.length),(6,.int .i64 σ.2.2)]) (fun σ=>⟨3,[(2,z3t σ.1),(0,z13 1 m σ.2.1),(1,z1d ls)]⟩) ([],at1,v.toNat) ⟨h1,by simp;omega,rfl⟩ (ρ:=id) (by rw[show v=(v.toNat:Int) by omega];exact(Zg id)) ?_;rintro⟨ys,at2,k⟩ hi QL1 hL1 hRL1 hEL1;refine z6 ?_;refine Zrs [0,1,5,6,13] ?_;refine z7 _ rfl ?_ ?_
 ·intro h13;replace h13:=Znb h13;obtain⟨hi1,hi2,hi3⟩:=hi;dsimp only at hi1 hi2 hi3;refine za (z6 (zc fun Q1 hN1 hX1 hR1 hE1=> ?_));refine sg [0,1,5,6,7] rfl ?_;intro K hK;iterate 3 (refine Zo Zl ?_)
  refine Zo Zl ?_;refine Zca (z1y ls m at2 (3*n) hx hm hi1 (by omega)) (id) ?_;rintro s0 H0 ⟨u,at3,g1,g2,g3,g4,rfl,rfl⟩ s1 H1 hs1 hH1;obtain⟨hs2,hH2⟩:=Zaf hs1 hH1;clear hs1 hH1;subst hs2 hH2;repeat(with_reducible apply qe;exact sdE)
  have hu:=g3 (by omega);iterate 2 (refine Zo Zl ?_)
  refine Zo Zl ?_;refine Zca (key_spec ls m at3 hx hm g1) (id) ?_;rintro s0 H0 ⟨key,at4,g5,g6,rfl,rfl⟩ s1 H1 hs1 hH1;obtain⟨hs2,hH2⟩:=Zaf hs1 hH1;clear hs1 hH1;subst hs2 hH2;repeat(with_reducible apply qe;exact sdE)
  refine Zo Zl ?_;refine Zo Zl ?_;refine Zca (word_spec ls m at4 hx hm g5) (id) ?_;rintro s0 H0 ⟨w,at5,g7,g8,g9,rfl,rfl⟩ s1 H1 hs1 hH1;obtain⟨hs2,hH2⟩:=Zaf hs1 hH1;clear hs1 hH1;subst hs2 hH2;repeat(with_reducible apply qe;exact sdE)
  iterate 3 (refine Zo Zl ?_)
  refine z8 (Zpr (hK _ _ ?_));clear hK K;refine z6 ?_;refine Zrt [0,1,5,6,7,31] (.op 0 (.op 2 (.two 1 3 (.op 3 (.op 4 (.op 5 .done))) (.op 1 (.op 4 (.op 5 .done)))))) [[],[],[],[],[999999],[]] [[],[],[],[],[],[]] ?_;intro K hK hG
  have hk6:K [(0,.ptr 0 0 0 0),(1,.int .i64 n),(5,.slc true 2 0 0 ys.length),(6,.int .i64 k),(7,.ptr 3 0 0 0),(31,.bool (z1o (ys++[⟨1+u,key,w⟩])==0))] ⟨4,[(3,uQ (.row ⟨true,true,62,3,1,fun _=>[.int .i64 (1+u),.str key,.int .u32 w]⟩)),(2,z3t ys),(0,z13 1 m at5),(1,z1d ls)]⟩:=by
   refine hK _ _ ?_;clear hG hK K;refine z7 _ rfl ?_ ?_
   ·intro h31;replace h31:=Znb h31;refine Zrg [0,1,5,6] ?_;refine ze (hN1 _ _ ?_);refine Zrg [0,1,5,6] ?_;refine ze (hL1 _ _ ?_);refine⟨(ys++[⟨1+u,key,w⟩],at5,k-1),⟨⟨g7,by simp only[qU,Qf];omega,h31⟩,by dsimp only;omega⟩,fun i=>if i=2 then 5 else i,(have xE:((k-1:Nat):Int)=(k:Int)-1:=(by omega);Zgx (fun i=>if i=2 then 5 else i))⟩
   ·intro h31;replace h31:=Znb h31;refine za (ze (hN1 _ _ ?_));refine Zrg [0,1,5,6] ?_;refine ze (hL1 _ _ ?_);refine⟨(ys,at5,k-1),⟨⟨g7,by dsimp only;omega,hi3⟩,by dsimp only;omega⟩,id,(have xE:((k-1:Nat):Int)=(k:Int)-1:=(by omega);Zgx id)⟩
  refine Zo (ZT [] [] []) ?_;refine Zo (ZT [] [] []) ?_;refine z2r ?_ ?_
  ·skip
   refine Zo (ZT [] [] []) ?_;refine Zo (ZT [] [] []) ?_;refine Zo (ZT [0,1,2,3,4,5] [] []) ?_;refine Zo (ZT [] [] []) ?_;refine Zc1 (refIs_spec (ys++[⟨1+u,key,w⟩]) (ys.length+1) (by simp) (by omega)) (fun _=>6) ?_;refine z1f ?_;refine Zpr ?_;exact hG _ _ _ _ id (Zg id) hk6
  ·skip
   refine Zo (ZT [] [] []) ?_;refine Zo (ZT [] [] []) ?_;refine Zo (ZT [0,1,2,3,4,5] [] []) ?_;refine Zo (ZT [] [] []) ?_;refine Zc1 (refIs_spec (ys++[⟨1+u,key,w⟩]) (ys.length+1) (by simp) (by omega)) (fun _=>6) ?_;refine z1f ?_;refine Zpr ?_;exact hG _ _ _ _ id (Zg id) hk6
 ·intro h13;replace h13:=Znb h13;obtain⟨hi1,hi2,hi3⟩:=hi;dsimp only at hi1 hi2 hi3;refine zw (hEL1 _ _ _ (hX0 _ _ ?_));refine Zrs [4] ?_;refine zd (hQ _ _ ?_);refine zb (H':=⟨3,[(2,z3t ys),(0,z13 1 m at2)]⟩) (.inl rfl) ?_;refine Zou ?_;refine⟨Zs,(Zg id),Zs,?_⟩;exact⟨ys,at2,hi1,by omega,hi3,by trivial,by trivial⟩
theorem some_spec (ls:List Int)(m at_:Nat)(n:Int)(hx:ls.length<=9223372036854775807)(hm:m<=ls.length)(ha:at_<=m)(hn:1<=n/\n<=64):
  zf prog 56 [.ptr 0 0 0 0,.int .i64 n] ⟨2,[(0,z13 1 m at_),(1,z1d ls)]⟩
   (fun s H'=> ∃(xs:List Nd) (at':Nat),at'<=m/\0<xs.length/\xs.length<=n/\z1o xs=0/\s= .slc true 2 0 0 xs.length/\H'=⟨3,[(2,z3t xs),(0,z13 1 m at')]⟩):=by
 refine zf.ofC false 24 [.tmp 4] func56 rfl rfl ntmps56 results56 rfl ?_;intro w0 own0 β0 Q hQ hQn;simp only[z18];refine Zrs [0,1] ?_;refine sg [0,1,5] rfl ?_;intro K hK;iterate 2 (refine Zo Zl ?_)
 refine Zo Zl ?_;refine Zca (roster_spec ls m at_ n hx hm ha hn) (id) ?_;rintro s0 H0 ⟨xs,at1,h1,h2,h3,rfl,rfl⟩ s1 H1 hs1 hH1;obtain⟨hs2,hH2⟩:=Zaf hs1 hH1;clear hs1 hH1;subst hs2 hH2;repeat(with_reducible apply qe;exact sdE)
 refine Zo Zl ?_;refine z8 (Zpr (hK _ _ ?_));clear hK K;refine z6 ?_;refine Zrs [0,1,5,11] ?_;refine z7 _ rfl ?_ ?_
 ·intro h11;replace h11:=Znb h11;refine z3c [5] rfl ?_;intro K hK;iterate 3 (refine Zo Zl ?_)
  refine Zo Zl ?_;refine Zca (z1y ls m at1 (3*n) hx hm h1 (by omega)) (id) ?_;rintro s0 H0 ⟨u,at3,g1,g2,g3,g4,rfl,rfl⟩ s1 H1 hs1 hH1;obtain⟨hs2,hH2⟩:=Zaf hs1 hH1;clear hs1 hH1;subst hs2 hH2;repeat(with_reducible apply qe;exact sdE)
  have hu:=g3 (by omega);iterate 2 (refine Zo Zl ?_)
  refine Zo Zl ?_;refine Zca (key_spec ls m at3 hx hm g1) (id) ?_;rintro s0 H0 ⟨key,at4,g5,g6,rfl,rfl⟩ s1 H1 hs1 hH1;obtain⟨hs2,hH2⟩:=Zaf hs1 hH1;clear hs1 hH1;subst hs2 hH2;repeat(with_reducible apply qe;exact sdE)
  refine Zo Zl ?_;refine Zo Zl ?_;refine Zca (word_spec ls m at4 hx hm g5) (id) ?_;rintro s0 H0 ⟨w,at5,g7,g8,g9,rfl,rfl⟩ s1 H1 hs1 hH1;obtain⟨hs2,hH2⟩:=Zaf hs1 hH1;clear hs1 hH1;subst hs2 hH2;repeat(with_reducible apply qe;exact sdE)
  iterate 3 (refine Zo Zl ?_)
  refine z8 (Zpr (hK _ _ ?_));clear hK K;refine Zrs [4] ?_;refine zd (hQ _ _ ?_);refine zm (fun i=>if i=2 then 3 else i) (.slc true 2 0 0 1) (⟨3,[(2,z3t [⟨1+u,key,w⟩]),(0,z13 1 m at5)]⟩) (.inl rfl) ?_;refine Zou ?_;refine⟨Zs,Zs,(Zg (fun i=>if i=2 then 3 else i)),Zs,?_⟩;refine⟨[⟨1+u,key,w⟩],at5,g7,by simp,by simp;omega,?_,by trivial,by trivial⟩
  have h1:badN ⟨1+u,key,w⟩=false:=by
   simp only[badN,okKey,okWord,qi,qg,qq,qj];omega
  rw[z1o,qb (by simp),z1s (fun i hi=> ?_),qb qn,z1s (fun i hi=> ?_),qb qn]
  ·simp only[Qf] at hi;have:i=0:=by omega
   subst this;exact z1s fun k hk=>by omega
  ·simp only[Qf] at hi;have:i=0:=by omega
   subst this;exact h1
 ·intro h11;replace h11:=Znb h11;refine za ?_;refine Zrs [4] ?_;refine zd (hQ _ _ ?_);refine zb (H':=⟨3,[(2,z3t xs),(0,z13 1 m at1)]⟩) (.inl rfl) ?_;refine Zou ?_;refine⟨Zs,(Zg id),Zs,?_⟩;exact⟨xs,at1,h1,by omega,h2,h3,by trivial,by trivial⟩
theorem id_spec (ls:List Int)(m at_:Nat)(hx:ls.length<=9223372036854775807)(hm:m<=ls.length)(ha:at_<=m)(xs:List Nd)(n:Nat)(hn:xs.length=n)(hnx:n<=1000000):
  zf prog 24 [.ptr 0 0 0 0,.slc false 2 0 0 n] ⟨3,[(0,z13 1 m at_),(1,z1d ls),(2,uQ (.row ⟨false,false,62,3,n,nds xs⟩))]⟩
   (fun s H'=> ∃(v:Int) (at':Nat),at'<=m/\s= .int .i64 v/\H'=⟨3,[(0,z13 1 m at')]⟩):=by
 refine zf.ofC false 23 [.tmp 4] func24 rfl rfl ntmps24 results24 rfl ?_;intro w0 own0 β0 Q hQ hQn;simp only[z18];refine Zrs [0,1] ?_;refine z6 ?_;refine sg [0,1,11] rfl ?_;intro K hK
 have hk1:∀(B:Bool) (at1:Nat),at1<=m->(B=false->0<n)->K [(0,.ptr 0 0 0 0),(1,.slc false 2 0 0 n),(11,.bool B)] ⟨3,[(0,z13 1 m at1),(1,z1d ls),(2,uQ (.row ⟨false,false,62,3,n,nds xs⟩))]⟩:=by
  intro B at1 h1 hB;refine hK _ _ ?_;clear hK K;refine z7 _ rfl ?_ ?_
  ·intro h11
   refine sg [4] rfl ?_;intro K hK;iterate 2 (refine Zo Zl ?_)
   refine Zo Zl ?_;refine Zca (pick_spec ls [0,-1,999,4611686018427387904,1] m at1 hx hm h1 (by simp) (by simp)) (fun i=>if i=2 then 3 else i) ?_;rintro s0 H0 ⟨i6,at6,p1,p2,rfl,rfl⟩ s1 H1 hs1 hH1;obtain⟨hs2,hH2⟩:=Zaf hs1 hH1;clear hs1 hH1;subst hs2 hH2;repeat(with_reducible apply qe;exact sdE)
   refine Zo Zl ?_;refine z8 (Zpr (hK _ _ ?_));clear hK K;refine zd (hQ _ _ ?_);refine zb (H':=⟨3,[(0,z13 1 m at6)]⟩) (.inl rfl) ?_;refine Zou ?_;refine⟨Zs,(Zg id),Zs,?_⟩;exact⟨_,at6,p1,rfl,by trivial⟩
  ·intro h11;have hpos:=hB h11;refine za ?_;refine sg [4] rfl ?_;intro K hK;iterate 4 (refine Zo Zl ?_)
   refine Zo Zl ?_;refine Zca (z1y ls m at1 n hx hm h1 (by omega)) (id) ?_;rintro s0 H0 ⟨u,at3,g1,g2,g3,g4,rfl,rfl⟩ s1 H1 hs1 hH1;obtain⟨hs2,hH2⟩:=Zaf hs1 hH1;clear hs1 hH1;subst hs2 hH2;repeat(with_reducible apply qe;exact sdE)
   have hu:=g3 (by omega);iterate 4 (refine Zo Zl ?_)
   refine z8 (Zpr (hK _ _ ?_));clear hK K;refine zd (hQ _ _ ?_);refine zb (H':=⟨3,[(0,z13 1 m at3)]⟩) (.inl rfl) ?_;refine Zou ?_;refine⟨Zs,(Zg id),Zs,?_⟩;exact⟨_,at3,g1,rfl,by trivial⟩
 iterate 5 (refine Zo Zl ?_)
 refine z16 ?_;refine z2e rfl rfl ?_;refine Zgr ?_;refine z1r ?_ ?_
 ·intro hg5
  first
   |(simp at hg5;done)
   |skip
    try replace hg5:=Znb hg5
    refine Zo id ?_;refine Zca (bool_spec ls m at_ 8 hx hm ha (by omega) (by omega)) (id) ?_;rintro s0 H0 ⟨b,at1,h1,rfl,rfl⟩ s1 H1 hs1 hH1;obtain⟨hs2,hH2⟩:=Zaf hs1 hH1;clear hs1 hH1;subst hs2 hH2;repeat(with_reducible apply qe;exact sdE)
    refine Zo Zl ?_;refine z8 ?_;refine Zpr ?_;refine hk1 _ at1 h1 ?_;intro hb;simp at hb;omega
 ·intro hg5;refine⟨.bool false,?_⟩
  first
   |(simp at hg5;done)
   |skip
    try replace hg5:=Znb hg5
    refine Zo Zl ?_;refine z8 ?_;refine Zpr ?_;refine hk1 _ at_ ha ?_;intro hb;simp at hb hg5;omega
end
section
theorem sameNew_spec (ns:List Nd)(dn:List Int)(m n k:Nat)(ht:Int)(h:Fsh (z3j ns dn m ht))(hn:ns.length=n)(hk:(z3j ns dn m ht).ly.length=k)(hx:n<=1000000)(hy:m<=1000000):
  zf prog 18 [.agg [.slc false 0 0 0 n,.int .i64 ht,.slc false 1 0 0 k,.slc false 3 0 0 m],.agg [.slc false 4 0 0 n,.int .i64 ht,.slc false 5 0 0 k,.slc false 7 0 0 m]]
   ⟨8,[(0,uQ (.row ⟨false,false,62,3,n,nds ns⟩)),(1,uQ (.row ⟨false,false,89,5,k,lyR 2 (z3j ns dn m ht).ly⟩)),(2,(3*k+1,fam false 3 1 (lyF false (z3j ns dn m ht).ly))),(3,uQ (.row ⟨false,false,58,3,m,cbs (List.replicate m noCb)⟩)),(4,uQ (.row ⟨false,false,62,3,n,nds ns⟩)),(5,uQ (.row ⟨false,false,89,5,k,lyR 6 (z3j ns dn m ht).ly⟩)),(6,(3*k+1,fam false 3 1 (lyF false (z3j ns dn m ht).ly))),(7,uQ (.row ⟨false,false,58,3,m,cbs (List.replicate m noCb)⟩))]⟩
   (fun s H1=>s= .bool true/\H1=⟨8,[]⟩):=by
 have hm:(z3j ns dn m ht).cb.length=m:=Qk;have g:=sameF_spec (z3j ns dn m ht) (z3j ns dn m ht) h.lyB h.lyB n k m n k m hn hk hm hn hk hm hx hy (by have:=h.lyB.1;omega);rw[qG rfl] at g;exact g
theorem findI_idL {xs:List Nd}{dn:List Int}(h:dn.Sublist (idL5 xs)):∀v∈dn,0<=z44 xs v:=fun v hv=>by
 have:=h.subset hv;rw[idL5,Qq] at this;obtain⟨x,hx,rfl⟩:=this;exact findI_of hx
def JoQm.exE:=aj9 @z17 @zg @zi @zn @zk @z12 @z1a ec2 (aj9 @zj @zt @zo @zl ec13 @zp z43 z4y (aj9 @zu ec3 ec5 @z1d.eq_1 @zz.eq_1 @ints.eq_1 ec33 ec34 (aj4 ec35 ec0 @z13.eq_1 @z1c)))
def JoQm.gxE:=aj9 @z17 z43 ec16 z4y ec3 ec7 ec8 @z1d.eq_1 (aj7 @zz.eq_1 @z1v @z1t ec36 ec26 ec29 @z13.eq_1)
def JoQm.axE:=aj9 @z17 @zg @zi @zn @zk @z12 @z1a ec2 (aj9 @zj @zt @zo @zl ec13 @zp z43 z4y (aj9 @zu ec3 ec5 @z1d.eq_1 @zz.eq_1 ec33 ec34 ec0 (aj8 @z13.eq_1 @z1c @z1q @z26 @z2n @z31 ec37 @z40)))
open JoQm (gxE axE exE)
open JnNm (oxE)
open D0 (sdE)
theorem made_spec (ls:List Int)(mm at_:Nat)(hx:ls.length<=9223372036854775807)(hm:mm<=ls.length)(ha:at_<=mm):
  zf prog 20 [.ptr 0 0 0 0] ⟨2,[(0,z13 1 mm at_),(1,z1d ls)]⟩
   (fun s H'=> ∃(ns:List Nd) (dn:List Int) (m:Nat) (ht:Int) (at':Nat),(MkF ns m ht/\at'<=mm)/\s= .tup [.agg [.slc true 2 0 0 ns.length,.int .i64 ht,.slc true 3 0 0 (z3j ns dn m ht).ly.length,.slc true 5 0 0 m],.bool true]/\
    H'=⟨6,[(0,z13 1 mm at'),(2,uQ (.row ⟨true,false,62,3,ns.length,nds ns⟩)),(3,uQ (.row ⟨true,false,89,5,(z3j ns dn m ht).ly.length,lyR 4 (z3j ns dn m ht).ly⟩)),(4,(3*(z3j ns dn m ht).ly.length+1,fam true 3 1 (lyF true (z3j ns dn m ht).ly))),(5,uQ (.row ⟨true,false,58,3,m,cbs (List.replicate m noCb)⟩))]⟩):=by
 refine zf.ofC false 71 [.cell 2 34,.tmp 3] func20 rfl rfl ntmps20 results20 rfl ?_;intro w0 own0 β0 Q hQ hQn;simp only[z18];refine Zrs [0,2] ?_;refine sg [0,2,4] rfl ?_;intro K hK;refine Zo Zl ?_;refine Zo Zl ?_;refine Zca (some_spec ls mm at_ 6 hx hm ha (by omega)) (id) ?_;rintro s0 H0 ⟨xs,at1,g1,g2,g3,g4,rfl,rfl⟩ s1 H1 hs1 hH1;obtain⟨hs2,hH2⟩:=Zaf hs1 hH1;clear hs1 hH1;subst hs2 hH2;repeat(with_reducible apply qe;exact sdE)
 refine Zo Zl ?_;refine z8 (Zpr (hK _ _ ?_));clear hK K;refine Zrs [0,2,4,5] ?_;refine z6 ?_;refine Zrs [0,2,4,5,6] ?_;refine z2d 5 3 1 (ints []) rfl ?_;dsimp only;refine zc fun Q0 hN0 hX0 hR0 hE0=> ?_;refine zx (σ:=Nat×List Int×Nat) (fun σ=>σ.1<=xs.length/\σ.2.1.Sublist (idL5 (xs.take σ.1))/\σ.2.2<=mm) (fun σ=>xs.length-σ.1) (fun σ=>[(0,.ptr 0 0 0 0),(2,.ptr 2 0 0 0),(4,.slc true 3 0 0 xs.length),(5,.slc true 4 0 0 σ.2.1.length),(6,.int .i64 σ.1)]) (fun σ=>⟨5,[(4,uQ (.row ⟨true,false,3,1,σ.2.1.length,ints σ.2.1⟩)),(3,uQ (.row ⟨true,false,62,3,xs.length,nds xs⟩)),(2,uQ (.row ⟨true,true,34,4,1,fun _=>[.nils,.int .i64 0,.nils,.nils]⟩)),(0,z13 1 mm σ.2.2),(1,z1d ls)]⟩) (0,[],at1) ⟨qp _,by simp[idL5],g1⟩ (ρ:=id) (have xE:=@z3t.eq_1;Zgx id) ?_;rintro⟨i,dn,at2⟩ hi QL1 hL1 hRL1 hEL1;obtain⟨hi1,hi2,hi3⟩:=hi;dsimp only at hi1 hi2 hi3
 have hdl:dn.length<=6:=by
  have:=hi2.length_le;rw[idL5,qB,qO] at this;omega
 refine z6 ?_;refine Zrs [0,2,4,5,6,18] ?_;refine z7 _ rfl ?_ ?_
 ·intro h18;replace h18:=Znb h18;refine za (z6 (zc fun Q1 hN1 hX1 hR1 hE1=> ?_));refine sg [0,2,4,5,6,22] rfl ?_;intro K hK;refine Zo Zl ?_;refine Zo Zl ?_;refine Zca (bool_spec ls mm at2 2 hx hm hi3 (by omega) (by omega)) (id) ?_;rintro s0 H0 ⟨b,at3,k1,rfl,rfl⟩ s1 H1 hs1 hH1;obtain⟨hs2,hH2⟩:=Zaf hs1 hH1;clear hs1 hH1;subst hs2 hH2;repeat(with_reducible apply qe;exact sdE)
  refine z8 (Zpr (hK _ _ ?_));clear hK K;refine z7 _ rfl ?_ ?_
  ·intro h22
   refine Zrg [0,2,4,5,6] ?_;refine ze (hN1 _ _ ?_);refine Zrg [0,2,4,5,6] ?_;refine ze (hL1 _ _ ?_);rw[app_intsN rfl,show(i:Int)+1=((i+1:Nat):Int) from by omega];refine⟨(i+1,dn++[(nd xs i).id],at3),⟨⟨by dsimp only;omega,?_,k1⟩,by dsimp only;omega⟩,fun q=>if q=4 then 6 else q,(Zg (fun q=>if q=4 then 6 else q))⟩;dsimp only;rw[idL5_take (by omega)];exact hi2.append (List.Sublist.refl _)
  ·intro h22
   refine za (ze (hN1 _ _ ?_));refine Zrg [0,2,4,5,6] ?_;refine ze (hL1 _ _ ?_);rw[show(i:Int)+1=((i+1:Nat):Int) from by omega];refine⟨(i+1,dn,at3),⟨⟨by dsimp only;omega,?_,k1⟩,by dsimp only;omega⟩,id,(Zg id)⟩;dsimp only;rw[idL5_take (by omega)];exact hi2.trans (List.sublist_append_left ..)
 ·intro h18;replace h18:=Znb h18;have hie:i=xs.length:=by omega
  subst hie;rw[Qo (qd _)] at hi2;have hnd:dn.Nodup:=hi2.nodup (ids_nodup g4);refine zw (hEL1 _ _ _ (hX0 _ _ ?_));refine sg [2,4,5,7,8] rfl ?_;intro K hK;refine Zo Zl ?_;refine Zo Zl ?_;refine Zca (z1y ls mm at2 2 hx hm hi3 (by omega)) (id) ?_;rintro s0 H0 ⟨v,at4,v1,v2,v3,v4,rfl,rfl⟩ s1 H1 hs1 hH1;obtain⟨hs2,hH2⟩:=Zaf hs1 hH1;clear hs1 hH1;subst hs2 hH2;repeat(with_reducible apply qe;exact sdE)
  have v5:=v3 (by omega);obtain⟨m,hmv⟩:∃m:Nat,2+v=m:=⟨(2+v).toNat,by omega⟩;refine Zo Zl ?_;rw[hmv];repeat(with_reducible apply qe;exact sdE)
  refine Zo Zl ?_;refine Zo Zl ?_;refine Zca (z1y ls mm at4 4 hx hm v1 (by omega)) (id) ?_;rintro s0 H0 ⟨u,at5,u1,u2,u3,u4,rfl,rfl⟩ s1 H1 hs1 hH1;obtain⟨hs2,hH2⟩:=Zaf hs1 hH1;clear hs1 hH1;subst hs2 hH2;repeat(with_reducible apply qe;exact sdE)
  have u5:=u3 (by omega);have hsh:=newF_sh (dn:=dn) g4 (by omega) u2 (show u<=16 by omega) (m:=m) (by omega) (by omega);have hmk:MkF xs m u:=⟨g4,by omega,by omega,by omega,u2,by omega⟩;iterate 2 (refine Zo Zl ?_)
  refine z8 (Zpr (hK _ _ ?_));clear hK K;refine sg [2,4,5,7,8,9,10] rfl ?_;intro K hK;iterate 4 (refine Zo Zl ?_)
  refine Zo Zl ?_;refine Zc1 (New_ok xs dn m xs.length dn.length u rfl rfl g4 (by omega) (by omega) (by omega) u2 (by omega) (by omega) (findI_idL hi2) hnd) (fun q=>if q=0 then 3 else if q=1 then 4 else q) ?_;iterate 6 (refine Zo Zl ?_)
  refine z8 (Zpr (hK _ _ ?_));clear hK K;refine sg [2,7,9,10,11,12] rfl ?_;intro K hK;iterate 4 (refine Zo Zl ?_)
  refine Zo Zl ?_;refine Zc1 (refNewF_spec xs dn m xs.length dn.length u rfl rfl g4 (by omega) (by omega) u2 (by omega) (by omega) (findI_idL hi2) hnd) (fun q=>if q=0 then 3 else if q=1 then 4 else q) ?_;iterate 6 (refine Zo Zl ?_)
  refine z8 (Zpr (hK _ _ ?_));clear hK K;refine z6 ?_;refine Zrt [2,3] (.op 0 (.op 1 (.op 2 (.op 3 (.op 4 (.op 5 (.op 6 (.op 7 (.op 8 (.op 9 (.op 10 (.op 11 (.op 12 (.op 13 (.op 16 (.two 14 19 (.op 15 (.op 17 (.op 18 (.op 19 (.op 20 .done))))) (.op 14 (.op 15 (.op 17 (.op 18 (.op 20 .done))))))))))))))))))))) [[],[],[],[],[],[],[],[],[],[],[],[],[],[],[],[],[],[],[],[2],[]] [[],[],[],[],[],[],[],[],[],[],[],[],[],[2],[2],[2],[2],[2],[2],[2],[2]] ?_;intro K hK hG
  have hk11:K [(2,.ptr 2 0 0 0),(3,.bool true)] ⟨9,[(2,uQ (.row ⟨true,true,34,4,1,fun _=>[.slc true 5 0 0 xs.length,.int .i64 u,.slc true 6 0 0 (z3j xs dn m u).ly.length,.slc true 8 0 0 m]⟩)),(5,uQ (.row ⟨true,false,62,3,xs.length,nds xs⟩)),(6,uQ (.row ⟨true,false,89,5,(z3j xs dn m u).ly.length,lyR 7 (z3j xs dn m u).ly⟩)),(7,(3*(z3j xs dn m u).ly.length+1,fam true 3 1 (lyF true (z3j xs dn m u).ly))),(8,uQ (.row ⟨true,false,58,3,m,cbs (List.replicate m noCb)⟩)),(0,z13 1 mm at5)]⟩:=by
   refine hK _ _ ?_;clear hG hK K;refine zd (hQ _ _ ?_);refine zm (fun q=>if q=2 then 5 else if q=3 then 6 else if q=4 then 7 else if q=5 then 8 else q) (.tup [.agg [.slc true 2 0 0 xs.length,.int .i64 u,.slc true 3 0 0 (z3j xs dn m u).ly.length,.slc true 5 0 0 m],.bool true]) (⟨6,[(0,z13 1 mm at5),(2,uQ (.row ⟨true,false,62,3,xs.length,nds xs⟩)),(3,uQ (.row ⟨true,false,89,5,(z3j xs dn m u).ly.length,lyR 4 (z3j xs dn m u).ly⟩)),(4,(3*(z3j xs dn m u).ly.length+1,fam true 3 1 (lyF true (z3j xs dn m u).ly))),(5,uQ (.row ⟨true,false,58,3,m,cbs (List.replicate m noCb)⟩))]⟩) (.inl rfl) ?_;refine Zou ?_;refine⟨Zs,Zs,(Zg (fun q=>if q=2 then 5 else if q=3 then 6 else if q=4 then 7 else if q=5 then 8 else q)),Zs,?_⟩;exact⟨xs,dn,m,u,at5,⟨hmk,u1⟩,by trivial,by trivial⟩
  refine Zo (ZT [] [] []) ?_;refine Zo (ZT [] [] []) ?_;refine Zo (ZT [] [] []) ?_;refine Zo (ZT [] [] []) ?_;refine Zo (ZT [] [] []) ?_;refine Zo (ZT [] [] []) ?_;refine Zo (ZT [] [] []) ?_;refine Zo (ZT [] [] []) ?_;refine Zo (ZT [] [] []) ?_;refine Zo (ZT [] [] []) ?_;refine z14 _ [] [] [] rfl rfl rfl rfl ?_;refine z2e rfl rfl ?_;refine Zgr ?_;refine⟨fun _=> ?_,fun h=>(by cases h)⟩;refine Zo id ?_;refine Zc1 (sameNew_spec xs dn m xs.length (z3j xs dn m u).ly.length u hsh rfl rfl (by omega) (by omega)) (fun q=>if q=0 then 5 else if q=1 then 6 else if q=2 then 7 else if q=3 then 8 else q+6) ?_;refine Zo (ZT [] [] []) ?_;refine Zo (ZT [] [] []) ?_;refine Zo (ZT [] [2] []) ?_;refine Zo (ZT [] [2] []) ?_;refine z2r ?_ ?_
  ·skip
   refine Zo (ZT [] [2] []) ?_;refine Zo (ZT [] [2] []) ?_;refine Zo (ZT [] [2] []) ?_;refine Zo (ZT [] [2] []) ?_;refine Zo (ZT [2] [2] []) ?_;refine Zo (ZT [] [2] []) ?_;refine z1f ?_;refine Zpr ?_;exact hG _ _ _ _ id (Zg id) hk11
  ·skip
   refine Zo (ZT [2] [2] []) ?_;refine Zo (ZT [] [2] []) ?_;refine Zo (ZT [] [2] []) ?_;refine Zo (ZT [] [2] []) ?_;refine Zo (ZT [] [2] []) ?_;refine Zo (ZT [] [2] []) ?_;refine z1f ?_;refine Zpr ?_;exact hG _ _ _ _ id (Zg id) hk11
end
section
theorem Tryz.szU32:z28 prog 60=1:=by kernel_rfl
theorem nds_t1 (xs:List Nd)(i:Nat):(nds xs i).take 1=[.int .i64 (nd xs i).id]:=rfl
theorem nds_t2 (xs:List Nd)(i:Nat):(nds xs i).take 2=[.int .i64 (nd xs i).id,.str (nd xs i).key]:=rfl
theorem nds_d1 (xs:List Nd)(i:Nat):(nds xs i).drop 1=[.str (nd xs i).key,.int .u32 (nd xs i).word]:=rfl
theorem nds_d2 (xs:List Nd)(i:Nat):(nds xs i).drop 2=[.int .u32 (nd xs i).word]:=rfl
theorem nds_d3 (xs:List Nd)(i:Nat):(nds xs i).drop 3=[]:=rfl
theorem nds_upd (xs:List Nd)(k:Nat)(v:Nd)(h:k<xs.length):(fun i=>if i=k then [SV.int .i64 v.id,.str v.key,.int .u32 v.word] else nds xs i)=nds (xs.set k v):=by
 funext i
 split
 ·rename_i e;subst e;simp only[nds,Nd.sv,nd_set_eq h]
 ·rename_i e;simp only[nds,nd_set_ne (Qv e)]
def ec48:=aj6 @Tryz.szU32 @nds_d1 @nds_d2 @nds_d3 @nds_t1 @nds_t2
def RotFm.exE:=aj9 @zg @zi @zn @zk @z12 @z1a @zj @zt (aj9 @zo ec48 @zl ec13 @zp ec0 @z13.eq_1 z43 (aj9 @z1d.eq_1 @zz.eq_1 @app_nds ec24 @z17 @z21 ec47 @z5g @z1c))
def RotFm.axE:=aj9 @zg @zi @zn @zk @z12 @z1a @zj @zt (aj9 @zo ec48 @zl ec13 @zp ec0 @z13.eq_1 z43 (aj9 @z1d.eq_1 @zz.eq_1 @app_nds ec24 @z17 @z21 ec47 @z5g (aj3 @z1c @z26 @z1q)))
open RotEm (gxE)
open RotFm (axE exE)
open D0 (sdE oxE)
theorem down_spec (ls:List Int)(m at_:Nat)(hx:ls.length<=9223372036854775807)(hm:m<=ls.length)(ha:at_<=m)(xs:List Nd)(n:Nat)(hn:xs.length=n)(hnx:n<=1000000)(c:Int)(hc:0<=c/\c<=1000):
  zf prog 12 [.ptr 0 0 0 0,.slc false 2 0 0 n,.int .i64 c] ⟨3,[(0,z13 1 m at_),(1,z1d ls),(2,uQ (.row ⟨false,false,62,3,n,nds xs⟩))]⟩
   (fun s H'=> ∃(ids:List Int) (at':Nat),at'<=m/\ids.length<=c/\s= .slc true 3 0 0 ids.length/\H'=⟨4,[(3,zz ids),(0,z13 1 m at')]⟩):=by
 refine zf.ofC false 24 [.tmp 6] func12 rfl rfl ntmps12 results12 rfl ?_;intro w0 own0 β0 Q hQ hQn;simp only[z18];refine Zrs [0,1,2] ?_;refine Zrs [0,1,2,7] ?_;refine z6 ?_;refine sg [0,1,7,8] rfl ?_;intro K hK;iterate 3 (refine Zo Zl ?_)
 refine Zo Zl ?_;refine Zca (z1y ls m at_ (c+1) hx hm ha (by omega)) (id) ?_;rintro s0 H0 ⟨v,at1,h1,h2,h3,h4,rfl,rfl⟩ s1 H1 hs1 hH1;obtain⟨hs2,hH2⟩:=Zaf hs1 hH1;clear hs1 hH1;subst hs2 hH2;repeat(with_reducible apply qe;exact sdE)
 have hv:=h3 (by omega);refine Zo Zl ?_;refine z8 (Zpr (hK _ _ ?_));clear hK K;refine z2d 7 3 1 (ints []) rfl ?_;dsimp only;refine zc fun Q0 hN0 hX0 hR0 hE0=> ?_;refine zx (σ:=List Int×Nat×Nat) (fun σ=>σ.2.1<=m/\(σ.1.length:Int)+σ.2.2<=c) (fun σ=>σ.2.2) (fun σ=>[(0,.ptr 0 0 0 0),(1,.slc false 2 0 0 n),(7,.slc true 3 0 0 σ.1.length),(8,.int .i64 σ.2.2)]) (fun σ=>⟨4,[(3,zz σ.1),(0,z13 1 m σ.2.1),(1,z1d ls),(2,uQ (.row ⟨false,false,62,3,n,nds xs⟩))]⟩) ([],at1,v.toNat) ⟨h1,by simp;omega⟩ (ρ:=id) (by rw[show v=(v.toNat:Int) by omega];exact(Zg id)) ?_;rintro⟨ys,at2,k⟩ hi QL1 hL1 hRL1 hEL1;refine z6 ?_;refine Zrs [0,1,7,8,14] ?_;refine z7 _ rfl ?_ ?_
 ·intro h14;replace h14:=Znb h14;obtain⟨hi1,hi2⟩:=hi;dsimp only at hi1 hi2;refine za (z6 (zc fun Q1 hN1 hX1 hR1 hE1=> ?_));refine z3c [0,1,7,8] rfl ?_;intro K hK;iterate 3 (refine Zo Zl ?_)
  refine Zo Zl ?_;refine Zca (id_spec ls m at2 hx hm hi1 xs n hn hnx) (id) ?_;rintro s0 H0 ⟨u,at3,g1,rfl,rfl⟩ s1 H1 hs1 hH1;obtain⟨hs2,hH2⟩:=Zaf hs1 hH1;clear hs1 hH1;subst hs2 hH2;repeat(with_reducible apply qe;exact sdE)
  iterate 3 (refine Zo Zl ?_)
  refine z8 (Zpr (hK _ _ ?_));clear hK K;refine ze (hN1 _ _ ?_);refine Zrg [0,1,7,8] ?_;refine ze (hL1 _ _ ?_);refine⟨(ys++[u],at3,k-1),⟨⟨g1,by simp only[qU,Qf];omega⟩,by dsimp only;omega⟩,fun i=>if i=3 then 5 else i,(have xE:((k-1:Nat):Int)=(k:Int)-1:=(by omega);Zgx (fun i=>if i=3 then 5 else i))⟩
 ·intro h14;replace h14:=Znb h14;obtain⟨hi1,hi2⟩:=hi;dsimp only at hi1 hi2;refine zw (hEL1 _ _ _ (hX0 _ _ ?_));refine Zrs [6] ?_;refine zd (hQ _ _ ?_);refine zb (H':=⟨4,[(3,zz ys),(0,z13 1 m at2)]⟩) (.inl rfl) ?_;refine Zou ?_;refine⟨Zs,(Zg id),Zs,?_⟩;exact⟨ys,at2,hi1,by omega,by trivial,by trivial⟩
theorem oddRoster_spec (ls:List Int)(m at_:Nat)(hx:ls.length<=9223372036854775807)(hm:m<=ls.length)(ha:at_<=m)(xs:List Nd)(n:Nat)(hn:xs.length=n)(hnx:n<=1000000):
  zf prog 15 [.ptr 0 0 0 0,.slc false 2 0 0 n] ⟨3,[(0,z13 1 m at_),(1,z1d ls),(2,uQ (.row ⟨false,false,62,3,n,nds xs⟩))]⟩
   (fun s H'=> ∃(ys:List Nd) (at':Nat),at'<=m/\ys.length<=n+1/\s= .slc true 3 0 0 ys.length/\H'=⟨4,[(3,z3t ys),(0,z13 1 m at')]⟩):=by
 subst hn;refine zf.ofC false 88 [.tmp 4] func15 rfl rfl ntmps15 results15 rfl ?_;intro w0 own0 β0 Q hQ hQn;simp only[z18];refine Zrs [0,1] ?_;refine Zrs [0,1] ?_;refine z6 ?_;refine Zrs [0,1,10] ?_;refine z7 _ rfl ?_ ?_
 ·intro h10;replace h10:=Znb h10;refine sg [4] rfl ?_;intro K hK;iterate 3 (refine Zo Zl ?_)
  refine Zo Zl ?_;refine Zca (pick_spec ls [0,1,-1] m at_ hx hm ha (by simp) (by simp)) (fun i=>if i=2 then 4 else i) ?_;rintro s0 H0 ⟨i6,at1,p1,p2,rfl,rfl⟩ s1 H1 hs1 hH1;obtain⟨hs2,hH2⟩:=Zaf hs1 hH1;clear hs1 hH1;subst hs2 hH2;repeat(with_reducible apply qe;exact sdE)
  refine Zo Zl ?_;refine Zo Zl ?_;refine Zca (oddKey_spec ls m at1 hx hm p1) (id) ?_;rintro s0 H0 ⟨key,at2,p3,p4,rfl,rfl⟩ s1 H1 hs1 hH1;obtain⟨hs2,hH2⟩:=Zaf hs1 hH1;clear hs1 hH1;subst hs2 hH2;repeat(with_reducible apply qe;exact sdE)
  iterate 2 (refine Zo Zl ?_)
  refine Zo Zl ?_;refine Zca (pick_spec ls [0,65536] m at2 hx hm p3 (by simp) (by simp)) (fun i=>if i=2 then 5 else i) ?_;rintro s0 H0 ⟨i7,at3,p5,p6,rfl,rfl⟩ s1 H1 hs1 hH1;obtain⟨hs2,hH2⟩:=Zaf hs1 hH1;clear hs1 hH1;subst hs2 hH2;repeat(with_reducible apply qe;exact sdE)
  iterate 5 (refine Zo Zl ?_)
  refine z8 (Zpr (hK _ _ ?_));clear hK K;refine zd (hQ _ _ ?_);refine zm (fun i=>if i=3 then 7 else i) (.slc true 3 0 0 (xs.length+1)) (⟨4,[(3,uQ (.row ⟨true,false,62,3,xs.length+1,nds (xs++[⟨nth [0,1,-1] i6,key,IntKind.u32.wrap (nth [0,65536] i7)⟩])⟩)),(0,z13 1 m at3)]⟩) (.inl rfl) ?_;refine Zou ?_;refine⟨Zs,Zs,(Zg (fun i=>if i=3 then 7 else i)),Zs,?_⟩;exact⟨xs++[⟨nth [0,1,-1] i6,key,IntKind.u32.wrap (nth [0,65536] i7)⟩],at3,p5,by simp,by simp,by simp[z3t]⟩
 ·intro h10;replace h10:=Znb h10;refine za ?_;refine sg [0,1,5] rfl ?_;intro K hK;iterate 4 (refine Zo Zl ?_)
  refine Zo Zl ?_;refine Zca (z1y ls m at_ xs.length hx hm ha (by omega)) (id) ?_;rintro s0 H0 ⟨v,at1,h1,h2,h3,h4,rfl,rfl⟩ s1 H1 hs1 hH1;obtain⟨hs2,hH2⟩:=Zaf hs1 hH1;clear hs1 hH1;subst hs2 hH2;repeat(with_reducible apply qe;exact sdE)
  have hv:=h3 (by omega);iterate 2 (refine Zo Zl ?_)
  refine z8 (Zpr (hK _ _ ?_));clear hK K;refine z6 ?_;refine sg [0,1,5,31] rfl ?_;intro K hK;refine Zo Zl ?_;refine Zo Zl ?_;refine Zca (z1y ls m at1 6 hx hm h1 (by omega)) (id) ?_;rintro s0 H0 ⟨w,at2,g1,g2,g3,g4,rfl,rfl⟩ s1 H1 hs1 hH1;obtain⟨hs2,hH2⟩:=Zaf hs1 hH1;clear hs1 hH1;subst hs2 hH2;repeat(with_reducible apply qe;exact sdE)
  refine z8 (Zpr (hK _ _ ?_));clear hK K;refine zc fun Q0 hN0 hX0 hR0 hE0=> ?_;refine Zrs [0,1,5,31,42] ?_;refine z7 _ rfl ?_ ?_
  ·intro h42
   try replace h42:=Znb h42
   refine z3c [1] rfl ?_;intro K hK;iterate 3 (refine Zo Zl ?_)
   refine Zo Zl ?_;refine Zca (pick_spec ls [0,-1,2147483648,2147483647,-9223372036854775808] m at2 hx hm g1 (by simp) (by simp)) (fun i=>if i=2 then 4 else i) ?_;rintro s0 H0 ⟨i6,at3,p1,p2,rfl,rfl⟩ s1 H1 hs1 hH1;obtain⟨hs2,hH2⟩:=Zaf hs1 hH1;clear hs1 hH1;subst hs2 hH2;repeat(with_reducible apply qe;exact sdE)
   iterate 3 (refine Zo Zl ?_)
   rw[nds_upd xs v.toNat ⟨nth [0,-1,2147483648,2147483647,-9223372036854775808] i6,(nd xs v.toNat).key,(nd xs v.toNat).word⟩ (by omega)];repeat(with_reducible apply qe;exact sdE)
   refine z8 (Zpr (hK _ _ ?_));clear hK K;refine ze (hN0 _ _ ?_);refine Zrs [4] ?_;refine zd (hQ _ _ ?_);refine zb (H':=⟨4,[(3,uQ (.row ⟨true,false,62,3,xs.length,nds (xs.set v.toNat ⟨nth [0,-1,2147483648,2147483647,-9223372036854775808] i6,(nd xs v.toNat).key,(nd xs v.toNat).word⟩)⟩)),(0,z13 1 m at3)]⟩) (.inl rfl) ?_;refine Zou ?_;refine⟨Zs,(Zg id),Zs,?_⟩;exact⟨(xs.set v.toNat ⟨nth [0,-1,2147483648,2147483647,-9223372036854775808] i6,(nd xs v.toNat).key,(nd xs v.toNat).word⟩),at3,p1,by rw[qC];omega,by rw[qC],by simp[z3t]⟩
  ·intro h42
   try replace h42:=Znb h42
   refine Zrs [0,1,5,31,50] ?_;refine z7 _ rfl ?_ ?_
   ·intro h50
    try replace h50:=Znb h50
    refine z3c [1] rfl ?_;intro K hK;iterate 2 (refine Zo Zl ?_)
    refine Zo Zl ?_;refine Zca (oddKey_spec ls m at2 hx hm g1) (id) ?_;rintro s0 H0 ⟨key,at3,p1,p2,rfl,rfl⟩ s1 H1 hs1 hH1;obtain⟨hs2,hH2⟩:=Zaf hs1 hH1;clear hs1 hH1;subst hs2 hH2;repeat(with_reducible apply qe;exact sdE)
    iterate 3 (refine Zo Zl ?_)
    rw[nds_upd xs v.toNat ⟨(nd xs v.toNat).id,key,(nd xs v.toNat).word⟩ (by omega)];repeat(with_reducible apply qe;exact sdE)
    refine z8 (Zpr (hK _ _ ?_));clear hK K;refine ze (hN0 _ _ ?_);refine Zrs [4] ?_;refine zd (hQ _ _ ?_);refine zb (H':=⟨4,[(3,uQ (.row ⟨true,false,62,3,xs.length,nds (xs.set v.toNat ⟨(nd xs v.toNat).id,key,(nd xs v.toNat).word⟩)⟩)),(0,z13 1 m at3)]⟩) (.inl rfl) ?_;refine Zou ?_;refine⟨Zs,(Zg id),Zs,?_⟩;exact⟨(xs.set v.toNat ⟨(nd xs v.toNat).id,key,(nd xs v.toNat).word⟩),at3,p1,by rw[qC];omega,by rw[qC],by simp[z3t]⟩
   ·intro h50
    try replace h50:=Znb h50
    refine Zrs [0,1,5,31,57] ?_;refine z7 _ rfl ?_ ?_
    ·intro h57
     try replace h57:=Znb h57
     refine z3c [1] rfl ?_;intro K hK;iterate 3 (refine Zo Zl ?_)
     refine Zo Zl ?_;refine Zca (pick_spec ls [65536,4294967295,5] m at2 hx hm g1 (by simp) (by simp)) (fun i=>if i=2 then 4 else i) ?_;rintro s0 H0 ⟨i6,at3,p1,p2,rfl,rfl⟩ s1 H1 hs1 hH1;obtain⟨hs2,hH2⟩:=Zaf hs1 hH1;clear hs1 hH1;subst hs2 hH2;repeat(with_reducible apply qe;exact sdE)
     iterate 4 (refine Zo Zl ?_)
     rw[nds_upd xs v.toNat ⟨(nd xs v.toNat).id,(nd xs v.toNat).key,IntKind.u32.wrap (nth [65536,4294967295,5] i6)⟩ (by omega)];repeat(with_reducible apply qe;exact sdE)
     refine z8 (Zpr (hK _ _ ?_));clear hK K;refine ze (hN0 _ _ ?_);refine Zrs [4] ?_;refine zd (hQ _ _ ?_);refine zb (H':=⟨4,[(3,uQ (.row ⟨true,false,62,3,xs.length,nds (xs.set v.toNat ⟨(nd xs v.toNat).id,(nd xs v.toNat).key,IntKind.u32.wrap (nth [65536,4294967295,5] i6)⟩)⟩)),(0,z13 1 m at3)]⟩) (.inl rfl) ?_;refine Zou ?_;refine⟨Zs,(Zg id),Zs,?_⟩;exact⟨(xs.set v.toNat ⟨(nd xs v.toNat).id,(nd xs v.toNat).key,IntKind.u32.wrap (nth [65536,4294967295,5] i6)⟩),at3,p1,by rw[qC];omega,by rw[qC],by simp[z3t]⟩
    ·intro h57
     try replace h57:=Znb h57
     refine Zrs [0,1,5,31,66] ?_;refine z7 _ rfl ?_ ?_
     ·intro h66
      try replace h66:=Znb h66
      refine Zrs [4] ?_;refine zd (hR0 _ _ (hQ _ _ ?_));refine zm (fun i=>if i=3 then 5 else i) (.slc true 3 0 0 (xs.length+1)) (⟨4,[(3,uQ (.row ⟨true,false,62,3,xs.length+1,nds (xs++[nd xs v.toNat])⟩)),(0,z13 1 m at2)]⟩) (.inl rfl) ?_;refine Zou ?_;refine⟨Zs,Zs,(Zg (fun i=>if i=3 then 5 else i)),Zs,?_⟩;exact⟨xs++[nd xs v.toNat],at2,g1,by simp,by simp,by simp[z3t]⟩
     ·intro h66
      try replace h66:=Znb h66
      refine Zrs [0,1,5,74] ?_;refine z7 _ rfl ?_ ?_
      ·intro h74
       try replace h74:=Znb h74
       refine z6 ?_;refine Zrd [4] [0,1,4,5,6,7,2,3,8,9,10,11] [[],[],[0],[],[],[],[],[],[],[],[3],[]] [[0],[],[0],[0],[0],[0],[0],[0],[0],[0],[0,3],[0,3]] ?_;intro K hK;refine Zo (Zi [] [0]) ?_;refine Zo (Zi [] []) ?_;iterate 4 (refine Zo (Zi [] [0]) ?_)
       refine Zo (Zi [0] [0]) ?_;refine Zca (z1y ls m at2 50 hx hm g1 (by omega)) (id) ?_;rintro s0 H0 ⟨u,at3,p1,p2,p3,p4,rfl,rfl⟩ s1 H1 hs1 hH1;obtain⟨hs2,hH2⟩:=Zaf hs1 hH1;clear hs1 hH1;subst hs2 hH2;repeat(with_reducible apply qe;exact sdE)
       have hu:=p3 (by omega);iterate 3 (refine Zo (Zi [] [0]) ?_)
       refine Zo (Zi [3] [0,3]) ?_;refine Zo (Zi [] [0,3]) ?_;refine z11 (Zpr (hK _ _ ?_));clear hK K;refine zd (hR0 _ _ (hQ _ _ ?_));refine zm (fun i=>if i=3 then 5 else i) (.slc true 3 0 0 (xs.length+1)) (⟨4,[(3,uQ (.row ⟨true,false,62,3,xs.length+1,nds (xs++[⟨1+u,(nd xs v.toNat).key,0⟩])⟩)),(0,z13 1 m at3)]⟩) (.inl rfl) ?_;refine Zou ?_;refine⟨Zs,Zs,(Zg (fun i=>if i=3 then 5 else i)),Zs,?_⟩;exact⟨xs++[⟨1+u,(nd xs v.toNat).key,0⟩],at3,p1,by simp,by simp,by simp[z3t]⟩
      ·intro h74
       try replace h74:=Znb h74
       refine z6 ?_;refine Zrd [4] [0,1,2,3,4,5,6,7,8,9,10] [[],[],[],[],[],[],[0],[],[],[3],[]] [[0],[0],[0],[0],[0],[],[0],[0],[0],[0,3],[0,3]] ?_;intro K hK;iterate 5 (refine Zo (Zi [] [0]) ?_)
       refine Zo (Zi [] []) ?_;refine Zo (Zi [0] [0]) ?_;refine Zca (key_spec ls m at2 hx hm g1) (id) ?_;rintro s0 H0 ⟨key,at3,p1,p2,rfl,rfl⟩ s1 H1 hs1 hH1;obtain⟨hs2,hH2⟩:=Zaf hs1 hH1;clear hs1 hH1;subst hs2 hH2;repeat(with_reducible apply qe;exact sdE)
       iterate 2 (refine Zo (Zi [] [0]) ?_)
       refine Zo (Zi [3] [0,3]) ?_;refine Zo (Zi [] [0,3]) ?_;refine z11 (Zpr (hK _ _ ?_));clear hK K;refine zd (hR0 _ _ (hQ _ _ ?_));refine zm (fun i=>if i=3 then 5 else i) (.slc true 3 0 0 (xs.length+1)) (⟨4,[(3,uQ (.row ⟨true,false,62,3,xs.length+1,nds (xs++[⟨(nd xs v.toNat).id,key,0⟩])⟩)),(0,z13 1 m at3)]⟩) (.inl rfl) ?_;refine Zou ?_;refine⟨Zs,Zs,(Zg (fun i=>if i=3 then 5 else i)),Zs,?_⟩;exact⟨xs++[⟨(nd xs v.toNat).id,key,0⟩],at3,p1,by simp,by simp,by simp[z3t]⟩
end
end Go.Proofs
