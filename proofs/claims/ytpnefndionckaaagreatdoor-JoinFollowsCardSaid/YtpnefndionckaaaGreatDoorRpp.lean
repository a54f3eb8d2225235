/-
  Walks and plain facts, joined: part 16 of 18.
  Conditions: those that each statement names.
-/
import Derived.Test.YtpnefndionckaaaGreatDoorRpj
import Derived.Test.YtpnefndionckaaaGreatDoorRpc
import Derived.Test.YtpnefndionckaaaGreatDoorRpi
import Derived.Test.YtpnefndionckaaaGreatDoorRpo
import Derived.Test.YtpnefndionckaaaGreatDoorRpk
import Derived.Test.YtpnefndionckaaaGreatDoorRpn
set_option linter.unusedSimpArgs false
set_option linter.unusedVariables false
set_option linter.defProp false
set_option maxRecDepth 4000
set_option maxHeartbeats 8000000
namespace Go.Proofs
open Tryz
open Go.Sk
section
open D0 (oxE sdE)
end
section
open D0 (oxE sdE)
end
section
def eqLv (a b a' b':Int):EqT prog 98 [.int .i64 a,.int .i64 b] [.int .i64 a',.int .i64 b']:=
 EqIn.top (K:=2) (by omega) (by kernel_rfl) (EqIn.of 1 (by omega) [(false,3,0),(false,3,1)] (by kernel_rfl) (by kernel_rfl) (by kernel_rfl)
  (.sc (by kernel_rfl) ⟨rfl,.i64,by kernel_rfl⟩ (.sc (by kernel_rfl) ⟨rfl,.i64,by kernel_rfl⟩ (.nil _))))
def eqL_lv (x y x' y':Int):eqL [.int .i64 x,.int .i64 y] [.int .i64 x',.int .i64 y']=decide ((x,y)=(x',y')):=by
 rw[qY];simp[eqL,eqS]
def pI_ext {a b:List (Int×Int)}(hl:a.length=b.length)(h:∀q,q<a.length->pI a q=pI b q):a=b:=
 Qw hl fun q h1 h2=>by rw[<-pI_lt h1,<-pI_lt h2];exact h q h1
def lk_ext {a b:List Lk}(hl:a.length=b.length)(h:∀q,q<a.length->lk a q=lk b q):a=b:=
 Qw hl fun q h1 h2=>by rw[<-lk_lt h1,<-lk_lt h2];exact h q h1
def lk_eq {a b:Lk}:a=b↔a.id=b.id/\a.lv=b.lv:=by
 cases a;cases b;simp
def lvOk (l:List Lk):Prop:=∀i,i<l.length->(lk l i).lv.length<=9223372036854775807
def ec46:=aj @Tryz.szLink @Tryz.zLink
def ec47:=aj8 @Tryz.tyLinks @Tryz.szLinks @Tryz.tyLinked @Tryz.szLinked @Tryz.tyLinkeds @Tryz.szLinkeds @Tryz.zLinked @lvs_ap
def InLm.exE:=aj9 @zd @zf @zg @zm @zi z58 @zn z3g (aj8 z3w @z4n ec46 ec47 @lkR_ap @lkF_ap @z10 @eqL_lv)
def ec48:=aj5 @lkR_ren' @lkR_lt @lkF_gives @lkFm_lt @lkF_fown
def InLm.gxE:=aj6 z3g ec16 z3w ec26 ec29 ec48
def InLm.sdE {a:Prop}(h:a:=by first|exact D0.sdE|exact eqLv _ _ _ _|(intro _;exact eqLv _ _ _ _)):a:=h
open InLm (sdE gxE exE)
open D0 (oxE)
def refSame_lk_spec (a b:List Lk)(na nb:Nat)(hna:a.length=na)(hnb:b.length=nb)(hxa:na<=1000000)(hxb:nb<=1000000)(hla:lvOk a)(hlb:lvOk b):
  zj prog 39 [.slc false 0 0 0 na,.slc false 2 0 0 nb] ⟨4,[(0,rI 96 2 na (lkR true 1 a)),(1,(na+1,fam false 98 2 (lkF false a))),(2,rI 96 2 nb (lkR true 3 b)),(3,(nb+1,fam false 98 2 (lkF false b)))]⟩
   (fun s H1=>s= .bool (decide (a=b))/\H1=⟨4,[]⟩):=by
 subst hna hnb;refine Zf false 71 [.tmp 4] func39 ntmps39 results39 fun w0 own0 β0 Q hQ hQn=> ?_;refine Zrs [0,1] (z6 ?_);refine Zrs [0,1,11] ?_;refine Zcm ?_ ?_
 ·intro h11
  try replace h11:=Znb h11
  refine Zrs [4] (zb (hQ _ _ ?_));refine Zob ⟨4,[]⟩ ?_;exact⟨by rw[qG];intro e;rw[e] at h11;simp at h11,trivial⟩
 intro h11;have hle:a.length=b.length:=Int.ofNat_inj.1 (by simpa using h11);refine z7 (z6 (Zrs [0,1,5] ?_));refine z8 fun Q0 hN0 hX0 hR0 hE0=> ?_;refine zl (σ:=Nat) (fun k=>k<=a.length/\∀q,q<k->lk a q=lk b q) (fun k=>a.length-k) (fun k=>[(0,.slc false 0 0 0 a.length),(1,.slc false 2 0 0 b.length),(5,.int .i64 k)]) (fun _=>⟨4,[(0,rI 96 2 a.length (lkR true 1 a)),(1,(a.length+1,fam false 98 2 (lkF false a))),(2,rI 96 2 b.length (lkR true 3 b)),(3,(b.length+1,fam false 98 2 (lkF false b)))]⟩) 0 ⟨ql _,fun q h=>by omega⟩ (ρ:=id) (Zg id) ?_;rintro k hk QL1 hL1 hRL1 hEL1;refine z6 (Zrs [0,1,5,15] ?_);refine Zcm ?_ ?_
 ·intro h15;replace h15:=Znb h15;obtain⟨hk1,hk2⟩:=hk;have hk3:=hla k (by omega);have hk4:=hlb k (by omega);refine z7 (z6 ?_);refine z8 fun Q1 hN1 hX1 hR1 hE1=> ?_;refine z6 (z6 (Zrq [0,1,5,43] [0,1,2,3,4,5,6,7,8,9,10,11,12,13,14,15,16,17,18,19,20,21,22,23,24,25] ?_));refine Zcm ?_ ?_
  ·intro h43
   try replace h43:=Znb h43
   refine Zrs [4] (zb (hR1 _ _ (hRL1 _ _ (hR0 _ _ (hQ _ _ ?_)))));refine Zob ⟨4,[]⟩ ?_;exact⟨by rw[qG];intro e;rw[e] at h43;simp at h43,trivial⟩
  intro h43;replace h43:=Znb h43;have hke:(lk a k).lv.length=(lk b k).lv.length:=Int.ofNat_inj.1 h43.2;refine z7 (Zrs [0,1,5,6] ?_);refine z8 fun Q2 hN2 hX2 hR2 hE2=> ?_;refine zl (σ:=Nat) (fun m=>m<=(lk a k).lv.length/\∀q,q<m->pI (lk a k).lv q=pI (lk b k).lv q) (fun m=>(lk a k).lv.length-m) (fun m=>[(0,.slc false 0 0 0 a.length),(1,.slc false 2 0 0 b.length),(5,.int .i64 k),(6,.int .i64 m)]) (fun _=>⟨4,[(0,rI 96 2 a.length (lkR true 1 a)),(1,(a.length+1,fam false 98 2 (lkF false a))),(2,rI 96 2 b.length (lkR true 3 b)),(3,(b.length+1,fam false 98 2 (lkF false b)))]⟩) 0 ⟨ql _,fun q h=>by omega⟩ (ρ:=id) (Zg id) ?_;rintro m hm QL2 hL2 hRL2 hEL2;refine z6 (Zrs [0,1,5,6,51] ?_);refine Zcm ?_ ?_
  ·intro h51;replace h51:=Znb h51;obtain⟨hm1,hm2⟩:=hm;refine z7 (z6 ?_);refine z8 fun Q3 hN3 hX3 hR3 hE3=> ?_;refine z6 (Zrq [0,1,5,6,70] [0,1,2,3,4,5,6,7,8,9,10,11,12,13,14,15,16] ?_);refine Zcm ?_ ?_
   ·intro h70
    try replace h70:=Znb h70
    refine Zrs [4] (zb (hR3 _ _ (hRL2 _ _ (hR2 _ _ (hR1 _ _ (hRL1 _ _ (hR0 _ _ (hQ _ _ ?_))))))));refine Zob ⟨4,[]⟩ ?_;exact⟨by rw[qG];intro e;rw[e] at h70;exact h70 rfl,trivial⟩
   intro h70
   try replace h70:=Znb h70
   refine z7 (za (hN3 _ _ (Zrg [0,1,5,6] (za (hL2 _ _ ?_)))));rw[iS m];refine⟨m+1,⟨⟨by omega,fun q hq=> ?_⟩,by omega⟩,id,(Zg id)⟩
   by_cases e:q=m
   ·subst e;exact h70
   exact hm2 q (by omega)
  intro h51;obtain⟨hm1,hm2⟩:=hm;refine zk (hEL2 _ _ _ (hX2 _ _ (za (hN1 _ _ (Zrg [0,1,5] (za (hL1 _ _ ?_)))))));rw[iS k];refine⟨k+1,⟨⟨by omega,fun q hq=> ?_⟩,by omega⟩,id,(Zg id)⟩
  by_cases e:q=k
  ·subst e
   have hm:m=(lk a q).lv.length:=by
    have:¬(m:Int)<(lk a q).lv.length:=by simpa using h51
    omega
   subst hm;exact lk_eq.2 ⟨h43.1,pI_ext hke hm2⟩
  exact hk2 q (by omega)
 intro h15;obtain⟨hk1,hk2⟩:=hk;refine zk (hEL1 _ _ _ (hX0 _ _ (Zrs [4] (zb (hQ _ _ ?_)))));refine Zob ⟨4,[]⟩ ?_;refine⟨?_,trivial⟩
 have hk:k=a.length:=by
  have:¬(k:Int)<a.length:=by simpa using h15
  omega
 subst hk;rw[qB (lk_ext hle hk2)]
end
section
def clsK_ap (l:List Cl)(i:Nat):z1x l i=(cl l i).sv:=rfl
def numF (ids:List Int)(c:Int):Int:=if c<2 then 0 else nth ids (c-2).toNat
def lnkF (x:Ly)(c:Int):Int×Int:=(numF x.ids (cl x.cs c.toNat).left,numF x.ids (cl x.cs c.toNat).right)
def JoEm.exE:=aj9 @z11 @zd @zf @zo @zh @zx @z10 ec2 (aj9 @zg @zp @zm @zi z58 @zn z3g z3w (aj9 @zq ec3 ec5 @z1a.eq_1 @zu.eq_1 @ints.eq_1 ec34 ec35 (aj4 ec36 @z4n ec46 @clsK_ap)))
def JoEm.axE:=aj9 @z11 @zd @zf @zo @zh @zx @z10 ec2 (aj9 @zg @zp @zm @zi z58 @zn z3g z3w (aj9 @zq ec3 ec5 @z1a.eq_1 @zu.eq_1 ec34 ec35 @z4n (aj8 ec46 @clsK_ap @z1p @z21 @z2j @z2r ec38 @z38)))
def JoEm.oxE:=aj3 @zq ec34 @z4n
open JnNm (gxE)
open JoEm (axE oxE exE)
open D0 (sdE)
def number_spec (ids:List Int)(lv wd c:Int)(a n m:Nat)(ha:ids.length=a)(hx:a<=1000000)(h0:0<=c)(h1:c<a+2):
  zj prog 122 [.agg [.int .i64 lv,.int .u32 wd,.slc false 0 0 0 a,.slc false 1 0 0 n,.slc false 2 0 0 m],.int .i64 c] ⟨3,[(0,rI 3 1 a (ints ids))]⟩
   (fun s H1=>s= .int .i64 (numF ids c)/\H1=⟨3,[]⟩):=by
 refine Zf false 13 [.tmp 4] func122 ntmps122 results122 fun w0 own0 β0 Q hQ hQn=> ?_;refine Zrs [1,2] (z6 ?_);refine Zrs [1,2,6] ?_;refine Zcn ?_ ?_
 ·intro h6;refine Zrs [4] (zb (hQ _ _ ?_));refine Zob ⟨3,[]⟩ ?_;rw[numF,qe h6];exact⟨rfl,by trivial⟩
 intro h6;refine z7 (Zrs [4] (zb (hQ _ _ ?_)));refine Zob ⟨3,[]⟩ ?_;rw[numF,qc (by omega)];exact⟨rfl,by trivial⟩
def link_spec (x:Ly)(c:Int)(a n m:Nat)(ha:x.ids.length=a)(hn:x.cs.length=n)(hx:a<=1000000)(hy:n<=1000000)(h0:0<=c)(h1:c<n)(hl:0<=(cl x.cs c.toNat).left/\(cl x.cs c.toNat).left<a+2)(hr:0<=(cl x.cs c.toNat).right/\(cl x.cs c.toNat).right<a+2):
  zj prog 81 [.agg [.int .i64 x.lvl,.int .u32 x.wd,.slc false 0 0 0 a,.slc false 1 0 0 n,.slc false 2 0 0 m],.int .i64 c] ⟨3,[(0,rI 3 1 a (ints x.ids)),(1,rI 117 5 n (z1x x.cs))]⟩
   (fun s H1=>s= .agg [.int .i64 (lnkF x c).1,.int .i64 (lnkF x c).2]/\H1=⟨3,[]⟩):=by
 refine Zf false 21 [.cell 4 98] func81 ntmps81 results81 fun w0 own0 β0 Q hQ hQn=> ?_;refine Zrs [1,2,4] ?_;refine Zrs [2,4,5] (z6 ?_);refine Zrd [4] [0,1,2,4,5,6,3,7,8,9] (ws 0 [(9,[4])]) (ws 0 [(9,[4])]) ?_;intro K hK;iterate 6 (refine Zo (Zi [] []) ?_)
 refine Zd (Zi [] []) (number_spec x.ids x.lvl x.wd (cl x.cs c.toNat).left a n m ha hx hl.1 hl.2) (id) ?_;refine Zd (Zi [] []) (number_spec x.ids x.lvl x.wd (cl x.cs c.toNat).right a n m ha hx hr.1 hr.2) (id) ?_;refine Zo (Zi [] []) ?_;refine Zo (Zi [4] [4]) ?_;refine zz (Zpr (hK _ _ ?_));clear hK K;refine zb (hQ _ _ ?_);exact Zoc ⟨3,[]⟩
def lkPi (i:Nat):Pn:=fun id k=>if id=0 then(0,3*i+1) else if id=1 then(0,3*i+2) else if id=2 then(0,3*i+3) else(id,k)
def linkM_spec (L:List Ly)(hb:lyB L)(i k:Nat)(hi:i<k)(c:Int)(h0:0<=c)(h1:c<(lyA L i).cs.length)(hl:0<=(cl (lyA L i).cs c.toNat).left/\(cl (lyA L i).cs c.toNat).left<(lyA L i).ids.length+2)(hr:0<=(cl (lyA L i).cs c.toNat).right/\(cl (lyA L i).cs c.toNat).right<(lyA L i).ids.length+2):
  zj prog 81 [.agg [.int .i64 (lyA L i).lvl,.int .u32 (lyA L i).wd,.slc false 0 (3*i+1) 0 (lyA L i).ids.length,.slc false 0 (3*i+2) 0 (lyA L i).cs.length,.slc false 0 (3*i+3) 0 (lyA L i).ps.length],.int .i64 c] ⟨3,[(0,(3*k+1,fam false 3 1 (lyF false L)))]⟩
   (fun s H1=>s= .agg [.int .i64 (lnkF (lyA L i) c).1,.int .i64 (lnkF (lyA L i) c).2]/\H1=⟨3,[]⟩):=by
 have h:=link_spec (lyA L i) c _ _ (lyA L i).ps.length rfl rfl (hb.2 i).1 (hb.2 i).2.1 h0 h1 hl hr
 have g:=h.mem (lkPi i) (os1:=[(0,(3*k+1,fam false 3 1 (lyF false L)))])
  (by
   refine⟨⟨by show 0<3;decide,fun k=>rfl,fun k' hk=>⟨Obj.lt_row.2 fun q _=>z1u _ _ q,?_⟩⟩,⟨by show 1<3;decide,fun k=>rfl,fun k' hk=>⟨Obj.lt_row.2 fun q _=>cls_lt _ _ q,?_⟩⟩,trivial⟩
   ·show 3*i+1<3*k+1/\zt _ (fam false 3 1 (lyF false L) (3*i+1)) _
    refine⟨by omega,?_⟩;rw[z2v,lyF_0];exact⟨fun h=>(by cases h),rfl,qd _,fun q _=>(z2q _ _ q).symm⟩
   show 3*i+2<3*k+1/\zt _ (fam false 3 1 (lyF false L) ((3*i+1)+1)) _
   refine⟨by omega,?_⟩;rw[z2v,lyF_1]
   exact⟨fun h=>(by cases h),rfl,qd _,fun q _=>(z3n _ _ q).symm⟩)
  ⟨by simp[SV.lt,SV.ltL],by simp[SV.lt],trivial⟩ (by
   intro id k hid;have hid:id<3:=hid
   show(lkPi i id k).1<3
   simp only[lkPi];repeat' split
   all_goals first|exact hid|(show 0<3;decide)) (by
   intro x hx k;simp only[qv,QJ,jU] at hx;subst hx
   exact lyF_fown false _ _ L k)
 have e:SV.renPL (lkPi i) [.agg [.int .i64 (lyA L i).lvl,.int .u32 (lyA L i).wd,.slc false 0 0 0 (lyA L i).ids.length,.slc false 1 0 0 (lyA L i).cs.length,.slc false 2 0 0 (lyA L i).ps.length],.int .i64 c]=[.agg [.int .i64 (lyA L i).lvl,.int .u32 (lyA L i).wd,.slc false 0 (3*i+1) 0 (lyA L i).ids.length,.slc false 0 (3*i+2) 0 (lyA L i).cs.length,.slc false 0 (3*i+3) 0 (lyA L i).ps.length],.int .i64 c]:=rfl;rw[e] at g;refine g.imp ?_;rintro s H' ⟨s0,H0',⟨rfl,rfl⟩,rfl,rfl⟩;exact⟨rfl,rfl⟩
end
section
def nbF (fo:Fo)(v lv:Int):Int×Int:=if memF fo.ly v lv then lnkF (lyA fo.ly (plI fo.ly v lv).toNat) (plK fo.ly v lv) else(0,0)
def upF (fo:Fo)(v:Int)(n:Nat):List (Int×Int):=(List.range (fo.ht.toNat+1)).map fun(q:Nat)=>if q<n then nbF fo v q else(0,0)
def z33 (fo:Fo):List Lk:=(z1w fo 0).map fun v=>⟨v,upF fo v (fo.ht.toNat+1)⟩
def upF_len (fo:Fo)(v:Int)(n:Nat):(upF fo v n).length=fo.ht.toNat+1:=by simp[upF]
def upF_at (fo:Fo)(v:Int)(n:Nat){q:Nat}(h:q<fo.ht.toNat+1):pI (upF fo v n) q=if q<n then nbF fo v q else(0,0):=by
 rw[pI_lt (by rw[upF_len];exact h)];simp[upF]
def pI_ge {l:List (Int×Int)}{i:Nat}(h:l.length<=i):pI l i=(0,0):=by rw[pI,qw,qP h];rfl
def upF_zero (fo:Fo)(v:Int):(fun _=>[SV.int .i64 0,SV.int .i64 0])=lvs (upF fo v 0):=by
 funext q
 rw[lvs]
 by_cases h:q<fo.ht.toNat+1
 ·rw[upF_at fo v 0 h,qc (qI _)]
 rw[pI_ge (by rw[upF_len];omega)]
def upF_put (fo:Fo)(v:Int){n:Nat}(h:n<fo.ht.toNat+1){a b:Int}(e:nbF fo v n=(a,b)):(fun q=>if q=n then [SV.int .i64 a,SV.int .i64 b] else [SV.int .i64 (pI (upF fo v n) q).1,SV.int .i64 (pI (upF fo v n) q).2])=lvs (upF fo v (n+1)):=by
 refine(show _=(fun q=>if q=n then [SV.int .i64 a,SV.int .i64 b] else lvs (upF fo v n) q) from rfl).trans ?_
 funext q
 by_cases hq:q<fo.ht.toNat+1
 ·rw[lvs,lvs,upF_at fo v n hq,upF_at fo v (n+1) hq]
  by_cases g:q=n
  ·subst g;rw[qe rfl,qe (by omega),e]
  rw[qc g]
  by_cases g2:q<n
  ·rw[qe g2,qe (by omega)]
  rw[qc g2,qc (by omega)]
 rw[qc (by omega),lvs,lvs,pI_ge (by rw[upF_len];omega),pI_ge (by rw[upF_len];omega)]
def upF_same (fo:Fo)(v:Int){n:Nat}(h:n<fo.ht.toNat+1)(e:nbF fo v n=(0,0)):upF fo v (n+1)=upF fo v n:=by
 refine List.map_congr_left fun q hq=> ?_
 by_cases g:q=n
 ·subst g;rw[qe (by omega),qc (by omega),e]
 by_cases g2:q<n
 ·rw[qe g2,qe (by omega)]
 rw[qc g2,qc (by omega)]
def FI.nbr {fo:Fo}{ls:Nat->List Int}(h:FI fo ls){x:Nd}{lv:Int}{i k:Nat}(a:At fo x lv i k):((0<=(cl (lyA fo.ly i).cs (k+2)).left/\(cl (lyA fo.ly i).cs (k+2)).left<(lyA fo.ly i).ids.length+2)/\0<=(cl (lyA fo.ly i).cs (k+2)).right/\(cl (lyA fo.ly i).cs (k+2)).right<(lyA fo.ly i).ids.length+2):=by
 have h1:=(z4g (h.inv i a.hi).vb).cell (k+2) a.cel;have h2:=(h.sh.idsl a.hi).2;omega
def JoFm.exE:=aj9 @z11 @zd @zf @zo @zh @zx @z10 ec2 (aj9 @zg @zp @zm @zi z58 @zn z3g z3w (aj9 @zq ec3 ec5 @z1a.eq_1 @zu.eq_1 @ints.eq_1 ec34 ec35 (aj6 ec36 @z4n ec46 ec47 @lkR_ap @lkF_ap)))
def JoFm.gxE:=aj9 @z11 z3g ec16 z3w ec3 ec7 ec8 @z1a.eq_1 (aj9 @zu.eq_1 @z20 @z1u ec37 ec26 ec29 ec48 @lvs_ren' @lvs_lt)
def ec49:=aj4 @lkF_ren @lkR_fold @lkR_ren @lvs_ren
def JoFm.axE:=aj9 @z11 @zd @zf @zo @zh @zx @z10 ec2 (aj9 @zg @zp @zm @zi z58 @zn z3g z3w (aj9 @zq ec3 ec5 @z1a.eq_1 @zu.eq_1 ec34 ec35 @z4n (aj9 ec46 ec47 @z1p @z21 @z2j @z2r ec38 @z38 ec49)))
open JoFm (gxE axE exE)
open JnNm (oxE)
open D0 (sdE)
def Links_spec (fo:Fo)(ls:Nat->List Int)(h:FI fo ls)(n k m:Nat)(hn:fo.ns.length=n)(hk:fo.ly.length=k)(hm:fo.cb.length=m):
  zj prog 40 [.agg [.slc false 0 0 0 n,.int .i64 fo.ht,.slc false 1 0 0 k,.slc false 3 0 0 m]] ⟨4,[(0,rI 62 3 n (nds fo.ns)),(1,rI 89 5 k (lyR 2 fo.ly)),(2,(3*k+1,fam false 3 1 (lyF false fo.ly))),(3,rI 58 3 m (cbs fo.cb))]⟩
   (fun s H1=>s= .slc true 4 0 0 (z33 fo).length/\H1=⟨6,[(4,rO 96 2 ((z33 fo).length) (lkR true 5 (z33 fo))),(5,((z33 fo).length+1,fam true 98 2 (lkF true (z33 fo))))]⟩):=by
 have hb:=h.sh.lyB;have hlb:=hb.1;have hlc:=h.sh.lyC;have hx64:=h.sh.few;have hx8:=h.sh.m8;have hh0:=h.sh.h0;have hh16:=h.sh.h16;have hpl:=presF_len fo 0;obtain⟨T,hT⟩:∃T,z33 fo=T:=⟨_,rfl⟩;have hTl:T.length=(z1w fo 0).length:=by rw[<-hT,z33,qx]
 have hTa:∀i,i<T.length->lk T i=⟨nth (z1w fo 0) i,upF fo (nth (z1w fo 0) i) (fo.ht.toNat+1)⟩:=fun i hi=>by
  rw[lk_lt hi,z30 (by omega)];subst hT;simp[z33]
 subst hn hk hm;rw[hT];obtain⟨w,hw⟩:∃w,fo.ht.toNat+1=w:=⟨_,rfl⟩;refine Zf false 58 [.tmp 2] func40 ntmps40 results40 fun w0 own0 β0 Q hQ hQn=> ?_;refine Zrs [1] ?_;refine Zrs [1,3] (z6 ?_);refine sg [1,3,11,12,13] rfl ?_;intro K hK;refine Zo Zl ?_;refine Zd Zl (Present_spec fo ls h fo.ns.length fo.ly.length fo.cb.length 0 rfl rfl rfl) (id) ?_;refine Zkl hK ?_;clear hK K;refine z2f 3 96 2 (lkR true 7 (T.take 0)) rfl ?_;dsimp only;refine z29 98 2 (lkF true (T.take 0)) ?_;dsimp only;refine z8 fun Q0 hN0 hX0 hR0 hE0=> ?_;refine zl (σ:=Nat) (fun i=>i<=(z1w fo 0).length) (fun i=>(z1w fo 0).length-i) (fun i=>[(1,.ptr 4 0 0 0),(3,.slc true 6 0 0 (i)),(11,.slc true 5 0 0 (z1w fo 0).length),(12,.int .i64 (z1w fo 0).length),(13,.int .i64 i)]) (fun i=>⟨8,[(6,rO 96 2 i (lkR true 7 (T.take (i)))),(7,((i)+1,fam true 98 2 (lkF true (T.take (i))))),(5,rO 3 1 ((z1w fo 0).length) (ints (z1w fo 0))),(4,rV 34 4 1 (fun _=>[.slc false 0 0 0 fo.ns.length,.int .i64 fo.ht,.slc false 1 0 0 fo.ly.length,.slc false 3 0 0 fo.cb.length])),(0,rI 62 3 fo.ns.length (nds fo.ns)),(1,rI 89 5 fo.ly.length (lyR 2 fo.ly)),(2,(3*fo.ly.length+1,fam false 3 1 (lyF false fo.ly))),(3,rI 58 3 fo.cb.length (cbs fo.cb))]⟩) 0 (ql _) (ρ:=id) (Zg id) ?_;rintro i hi QL1 hL1 hRL1 hEL1;refine Zrs [1,3,11,12,13,14] (z6 ?_);refine Zcn ?_ ?_
 ·intro h14;obtain⟨v,hv⟩:∃v,nth (z1w fo 0) i=v:=⟨_,rfl⟩;obtain⟨_,x,hx,hxi,hxm⟩:=presF_mem.1 (show v∈z1w fo 0 by rw[<-hv,z30 (by omega)];exact qK _);have hTi:=hTa i (by omega);rw[hv] at hTi;refine z7 (z6 ?_);refine z8 fun Q1 hN1 hX1 hR1 hE1=> ?_;refine Zrs [1,3,5,11,12,13] (z6 ?_);rw[hv];refine z3v [1,3,5,6,11,12,13] rfl ?_;intro K hK;iterate 5 (refine Zo Zl ?_)
  rw[show(fo.ht+1).toNat=w from by omega];refine Zad ?_;refine Zkl hK ?_;clear hK K;refine z6 (Zrs [1,3,5,6,11,12,13,25,26] ?_);rw[upF_zero fo v];refine z8 fun Q2 hN2 hX2 hR2 hE2=> ?_;refine zl (σ:=Nat) (fun q=>q<=w) (fun q=>w-q) (fun q=>[(1,.ptr 4 0 0 0),(3,.slc true 6 0 0 (i)),(11,.slc true 5 0 0 (z1w fo 0).length),(12,.int .i64 (z1w fo 0).length),(13,.int .i64 i),(5,.int .i64 v),(6,.ptr 9 0 0 0),(25,.int .i64 w),(26,.int .i64 q)]) (fun q=>⟨10,[(9,rV 96 2 1 (fun _=>[.int .i64 v,.slc true 8 0 0 w])),(8,rO 98 2 w (lvs (upF fo v q))),(6,rO 96 2 i (lkR true 7 (T.take (i)))),(7,((i)+1,fam true 98 2 (lkF true (T.take (i))))),(5,rO 3 1 ((z1w fo 0).length) (ints (z1w fo 0))),(4,rV 34 4 1 (fun _=>[.slc false 0 0 0 fo.ns.length,.int .i64 fo.ht,.slc false 1 0 0 fo.ly.length,.slc false 3 0 0 fo.cb.length])),(0,rI 62 3 fo.ns.length (nds fo.ns)),(1,rI 89 5 fo.ly.length (lyR 2 fo.ly)),(2,(3*fo.ly.length+1,fam false 3 1 (lyF false fo.ly))),(3,rI 58 3 fo.cb.length (cbs fo.cb))]⟩) 0 (ql _) (ρ:=id) (Zg id) ?_;rintro q hq QL2 hL2 hRL2 hEL2;refine Zrs [1,3,5,6,11,12,13,25,26,27] (z6 ?_);refine Zcn ?_ ?_
  ·intro h27;obtain⟨a,b,at_⟩:=h.sh.place hx (lv:=q) (by omega) (by omega);have hpI:=at_.pI;have hpK:=at_.pK;rw[hxi] at hpI hpK;have hnb:=h.nbr at_;have hai:=at_.hi;have hce:=at_.cel;refine z7 (z6 ?_);refine z8 fun Q3 hN3 hX3 hR3 hE3=> ?_;refine Zrs [1,3,5,6,7,11,12,13,25,26] ?_;refine sg [1,3,5,6,7,8,9,11,12,13,25,26] rfl ?_;intro K hK;iterate 3 (refine Zo Zl ?_)
   refine Zd Zl (place_spec fo.ly hb fo.ly.length fo.ns.length fo.cb.length rfl fo.ht v q) (id) ?_;rw[hpI,hpK];refine Zkl hK ?_;clear hK K;refine sg [1,3,5,6,7,8,9,11,12,13,25,26,39] rfl ?_;intro K hK;iterate 3 (refine Zo Zl ?_)
   refine Zd Zl (member_spec fo.ly hb hlc fo.ly.length fo.ns.length fo.cb.length rfl fo.ht v q) (id) ?_;refine Zk hK ?_;clear hK K;refine Zcm ?_ ?_
   ·intro h39;have hnn:nbF fo v q=lnkF (lyA fo.ly a) ((b:Int)+2):=by rw[nbF,qe h39,hpI,hpK,qq]
    refine Zrd [1,3,5,6,11,12,13,25,26] [0,1,2,3,4,5,6,7,8,9,10,11] (ws 0 [(11,[8])]) (ws 0 [(11,[8])]) ?_;intro K hK;iterate 9 (refine Zo (Zi [] []) ?_)
    refine Zd (Zi [] []) (linkM_spec fo.ly hb a fo.ly.length hai ((b:Int)+2) (by omega) (by omega) (by rw[show((b:Int)+2).toNat=b+2 from by omega];exact hnb.1) (by rw[show((b:Int)+2).toNat=b+2 from by omega];exact hnb.2)) (fun z=>if z=0 then 2 else z) ?_;refine Zo (Zi [] []) ?_;refine Zo (Zi [8] [8]) ?_;rw[upF_put (a:=(lnkF (lyA fo.ly a) ((b:Int)+2)).1) (b:=(lnkF (lyA fo.ly a) ((b:Int)+2)).2) fo v (show q<fo.ht.toNat+1 by omega) hnn];refine Zad ?_;refine zz (Zpr (hK _ _ ?_));clear hK K;refine za (hN3 _ _ (Zrg [1,3,5,6,11,12,13,25,26] (za (hL2 _ _ ?_))));rw[iS q];exact⟨q+1,⟨by omega,by omega⟩,id,(Zg id)⟩
   intro h39;have hnn:nbF fo v q=(0,0):=by rw[nbF,qc (by rw[h39];exact qh)]
   refine z7 (za (hN3 _ _ (Zrg [1,3,5,6,11,12,13,25,26] (za (hL2 _ _ ?_)))));rw[iS q,<-upF_same fo v (show q<fo.ht.toNat+1 by omega) hnn];exact⟨q+1,⟨by omega,by omega⟩,id,(Zg id)⟩
  intro h27;have hqe:q=w:=by omega
  subst hqe;refine zk (hEL2 _ _ _ (hX2 _ _ (Zrg [1,3,11,12,13] (za (hN1 _ _ ?_)))));have hlv:(lk T i).lv.length=q:=by rw[hTi];exact(upF_len ..).trans hw
  have hTk:∀z,z<i+1->lk (T.take (i+1)) z=lk T z:=fun z hz=>by rw[lk,lk,qw,qw,Qb,qe hz]
  have hTj:∀z,z<i->lk (T.take i) z=lk T z:=fun z hz=>by rw[lk,lk,qw,qw,Qb,qe hz]
  have hout:∀z,z<i+1->app (lkR true 7 (T.take i)) i (z3y 2 1 [SV.int .i64 v,SV.slc true 8 0 0 q]) z=SV.renPL (mvP (fun z=>if z=6 then 11 else z) 7 i 8) (lkR true 7 (T.take (i+1)) z):=fun z hz=>by
   rw[lkR_renP,hTk z hz]
   split
   ·rename_i e;subst e;rw[app,qc (by omega),QV,hlv,hTi];rfl
   rw[app,qe (by omega),lkR,hTj z (by omega)];rfl
  refine z2y (fr':=[(1,.ptr 4 0 0 0),(3,.slc true 6 0 0 (i+1)),(11,.slc true 5 0 0 (z1w fo 0).length),(12,.int .i64 (z1w fo 0).length),(13,.int .i64 i)]) (H':=⟨8,[(6,rO 96 2 (i+1) (lkR true 7 (T.take (i+1)))),(7,((i+1)+1,fam true 98 2 (lkF true (T.take (i+1))))),(5,rO 3 1 ((z1w fo 0).length) (ints (z1w fo 0))),(4,rV 34 4 1 (fun _=>[.slc false 0 0 0 fo.ns.length,.int .i64 fo.ht,.slc false 1 0 0 fo.ly.length,.slc false 3 0 0 fo.cb.length])),(0,rI 62 3 fo.ns.length (nds fo.ns)),(1,rI 89 5 fo.ly.length (lyR 2 fo.ly)),(2,(3*fo.ly.length+1,fam false 3 1 (lyF false fo.ly))),(3,rI 58 3 fo.cb.length (cbs fo.cb))]⟩) _ (Zgp (fun z=>if z=6 then 11 else z) (7) (i) (8) (z17 rfl qf (by decide) (ze.of (fun _=>⟨rfl,rfl⟩) rfl (qd _) (hout)) (Obj.lt_row.2 fun q _=>(lkR_lt _ _ _ _ q).2 (qb rfl)) (qb rfl) (z47 rfl rfl qf ⟨fun _=>⟨rfl,rfl⟩,rfl⟩ (QW _) (fun z hz hne=>⟨by omega,lkF_givesP _ _ _ _ _ _ id (by rw[hTk z (by omega),hTj z (by omega)]),lkFm_lt _ _ _ _⟩) (lkF_newP _ _ _ _ _ (by rw[hTk i (by omega)];exact hlv) (fun z _=>by rw[hTk i (by omega),hTi,<-hw])) (lkFm_lt _ _ _ _) (qb rfl) (z17 rfl qf (by decide) (ze.of (fun _=>⟨rfl,rfl⟩) rfl (qd _) (fun q _=>(z2q _ _ q).symm)) (Obj.lt_row.2 fun q _=>z1u _ _ q) (qb rfl) (z17 rfl qf (by decide) (ze.of (fun _=>⟨rfl,rfl⟩) rfl (qd _) (fun _ _=>rfl)) (Obj.lt_row.2 fun q _=>by simp[SV.ltL,SV.lt]) (qb rfl) (z17 rfl qf (by decide) (ze.of (fun h=>(by cases h)) rfl (qd _) (fun q _=>(z28 _ _ q).symm)) (Obj.lt_row.2 fun q _=>z4e _ _ q) (qb rfl) (z17 rfl qf (by decide) (ze.of (fun h=>(by cases h)) rfl (qd _) (fun q _=>(show lyR 2 fo.ly q=SV.renPL _ (lyR 2 fo.ly q) by rw[lyR_renO _ _ _ _ _ _ _ (by decide)];rfl))) (Obj.lt_row.2 fun q _=>(z67 _ _ _ q).2 (qb rfl)) (qb rfl) (z1g.consO rfl (by decide) ⟨fun h=>(by cases h),rfl⟩ (qd _) (fun q _=>⟨z5r _ _ _ _ _ _ (fun h=>(by cases h)) rfl,z4i _ _ _ _⟩) (qb rfl) (z17 rfl qf (by decide) (ze.of (fun h=>(by cases h)) rfl (qd _) (fun q _=>(z4j _ _ q).symm)) (Obj.lt_row.2 fun q _=>cbs_lt _ _ q) (qb rfl) trivial))))))))) ?_
  refine Zrg [1,3,11,12,13] (za (hL1 _ _ ?_));rw[iS i];exact⟨i+1,⟨by omega,by omega⟩,id,(Zg id)⟩
 intro h14;have hie:i=T.length:=by omega
 subst hie;rw[jf];refine zk (hEL1 _ _ _ (hX0 _ _ (Zrs [2] (zb (hQ _ _ ?_)))));exact Zos (fun z=>if z=4 then 6 else if z=5 then 7 else z) (.slc true 4 0 0 T.length) (⟨6,[(4,rO 96 2 T.length (lkR true 5 T)),(5,(T.length+1,fam true 98 2 (lkF true T)))]⟩)
end
section
def pairN:List Nd:=[⟨1,⟨#[97]⟩,0⟩,⟨2,⟨#[98]⟩,2⟩]
def sanF:Nat->Fo
 |0=>z12 (z12 (z2n pairN [] 2 1) 0 1 1) 1 1 2
 |n+1=>z27 (sanF n) ((n%2:Nat):Int)
def san_mk:MkF pairN 2 1:=⟨by kernel_rfl,by decide,by decide,by decide,by decide,by decide⟩
def san_e0:z1n (z2n pairN [] 2 1) 0 1 1=0:=by kernel_rfl
def san_e1:z1n (z12 (z2n pairN [] 2 1) 0 1 1) 1 1 2=0:=by kernel_rfl
def san_100:busyN (sanF 100).cb=0/\(z1w (sanF 100) 1).length=2/\(z33 (sanF 100)).length=2/\(lk (z33 (sanF 100)) 0).lv.length=2/\(pI (lk (z33 (sanF 100)) 0).lv 1).2=2:=⟨by kernel_rfl,by kernel_rfl,by kernel_rfl,by kernel_rfl,by kernel_rfl⟩
def FI.next {fo:Fo}{ls:Nat->List Int}(h:FI fo ls)(p:Int):∃ls',FI (z27 fo p) ls':=by
 cases hs:z6a fo p with
 |true=>obtain⟨ls',h',_⟩:=h.step hs (qd _);exact⟨ls',h'⟩
 |false=>exact⟨ls,by rw[z27,h.vf,hs];exact h⟩
def stepFR_shape {fo:Fo}(hv:z5v fo=true)(p:Int):(z27 fo p).ns=fo.ns/\(z27 fo p).ht=fo.ht/\(z27 fo p).ly.length=fo.ly.length/\(z27 fo p).cb.length=fo.cb.length:=by
 rw[z27,hv];simp only[qS,qz,Ql]
 split
 ·split
  ·split
   ·simp
   simp[beginL,upL]
  simp[upL]
 simp
def san_FI:∀n,∃ls,FI (sanF n) ls
 |0=>⟨_,((FI_new san_mk []).start san_e0).start san_e1⟩
 |n+1=>by
  obtain⟨ls,h⟩:=san_FI n;exact h.next _
def san_shape:∀n,(sanF n).ns=pairN/\(sanF n).ht=1/\(sanF n).ly.length=2/\(sanF n).cb.length=2
 |0=>⟨by kernel_rfl,by kernel_rfl,by kernel_rfl,by kernel_rfl⟩
 |n+1=>by
  obtain⟨ls,h⟩:=san_FI n;obtain⟨a,b,c,d⟩:=stepFR_shape h.vf ((n%2:Nat):Int);obtain⟨a',b',c',d'⟩:=san_shape n;exact⟨a.trans a',b.trans b',c.trans c',d.trans d'⟩
def pair_rows:z3y 3 2 [SV.int .i64 1,SV.str ⟨#[97]⟩,SV.int .u32 0,SV.int .i64 2,SV.str ⟨#[98]⟩,SV.int .u32 2]=nds pairN:=by
 funext i
 match i with
 |0=>rfl
 |1=>rfl
 |i+2=>rfl
open JnNm (oxE gxE exE)
open D0 (sdE)
def pair_spec:zj prog 55 [] ⟨0,[]⟩ (fun s H1=>s= .slc true 0 0 0 2/\H1=⟨1,[(0,rO 62 3 2 (nds pairN))]⟩):=by
 refine Zf false 4 [.tmp 0] func55 ntmps55 results55 fun w0 own0 β0 Q hQ hQn=> ?_;refine Zrs [] ?_;refine Zrs [0] (zb (hQ _ _ ?_));rw[pair_rows];exact Zoc (⟨1,[(0,rO 62 3 2 (nds pairN))]⟩)
end
def san0:Fo:=z2n pairN [] 2 1
def san1:Fo:=z12 san0 0 1 1
def san0_sh:san0.ns=pairN/\san0.ht=1/\san0.ly.length=2/\san0.cb.length=2:=⟨by kernel_rfl,by kernel_rfl,by kernel_rfl,by kernel_rfl⟩
def san1_sh:san1.ns=pairN/\san1.ht=1/\san1.ly.length=2/\san1.cb.length=2:=⟨by kernel_rfl,by kernel_rfl,by kernel_rfl,by kernel_rfl⟩
def san0_FI:∃ls,FI san0 ls:=⟨_,FI_new san_mk []⟩
def san1_FI:∃ls,FI san1 ls:=⟨_,(FI_new san_mk []).start san_e0⟩
def New_san : zj prog 16 [.slc false 0 0 0 2, .nils, .int .i64 2, .int .i64 1] ⟨1, [(0, rI 62 3 2 (nds pairN))]⟩
   (fun s H1=>s= .tup [.agg [.slc true 2 0 0 2,.int .i64 1,.slc true 3 0 0 2,.slc true 5 0 0 2],.int .i64 0]/\H1=⟨6,[(2,rO 62 3 2 (nds pairN)),(3,rO 89 5 2 (lyR 4 (san0).ly)),(4,(3*2+1,fam true 3 1 (lyF true (san0).ly))),(5,rO 58 3 2 (cbs (san0).cb))]⟩):=by
 have h:=New_nil pairN 2 2 1 rfl san_mk.ck (by decide) (by decide) (by decide) (by decide) (by decide);rw[show(z2n pairN [] 2 1).ly.length=2 from san0_sh.2.2.1] at h;exact h
def start_san {fo gn:Fo}{p k v:Int}(hf:fo.ns=pairN/\fo.ht=1/\fo.ly.length=2/\fo.cb.length=2)(hI:∃ls,FI fo ls)(hg:z12 fo p k v=gn)(hs:gn.ns=pairN/\gn.ht=1/\gn.ly.length=2/\gn.cb.length=2)(he:z1n fo p k v=0):
  zj prog 25 [.agg [.slc false 0 0 0 2,.int .i64 1,.slc false 1 0 0 2,.slc false 3 0 0 2],.int .i64 p,.int .i64 k,.int .i64 v] ⟨4,[(0,rI 62 3 2 (nds pairN)),(1,rI 89 5 2 (lyR 2 (fo).ly)),(2,(3*2+1,fam false 3 1 (lyF false (fo).ly))),(3,rI 58 3 2 (cbs (fo).cb))]⟩
   (fun s H1=>s= .tup [.agg [.slc true 4 0 0 2,.int .i64 1,.slc true 5 0 0 2,.slc true 7 0 0 2],.int .i64 0]/\H1=⟨8,[(4,rO 62 3 2 (nds pairN)),(5,rO 89 5 2 (lyR 6 (gn).ly)),(6,(3*2+1,fam true 3 1 (lyF true (gn).ly))),(7,rO 58 3 2 (cbs (gn).cb))]⟩):=by
 obtain⟨ls,h⟩:=hI;have g:=Start_spec fo ls h 2 2 2 p k v (by rw[hf.1];rfl) hf.2.2.1 hf.2.2.2;rw[hg,he,hf.1,hf.2.1,hs.1,hs.2.1,hs.2.2.1,hs.2.2.2] at g;exact g
def step_san (i:Nat):
  zj prog 27 [.agg [.slc false 0 0 0 2,.int .i64 1,.slc false 1 0 0 2,.slc false 3 0 0 2],.int .i64 ((i%2:Nat):Int)] ⟨4,[(0,rI 62 3 2 (nds pairN)),(1,rI 89 5 2 (lyR 2 (sanF i).ly)),(2,(3*2+1,fam false 3 1 (lyF false (sanF i).ly))),(3,rI 58 3 2 (cbs (sanF i).cb))]⟩
   (fun s H1=>s= .tup [.agg [.slc true 4 0 0 2,.int .i64 1,.slc true 5 0 0 2,.slc true 7 0 0 2],.bool (z6a (sanF i) ((i%2:Nat):Int))]/\H1=⟨8,[(4,rO 62 3 2 (nds pairN)),(5,rO 89 5 2 (lyR 6 (sanF (i+1)).ly)),(6,(3*2+1,fam true 3 1 (lyF true (sanF (i+1)).ly))),(7,rO 58 3 2 (cbs (sanF (i+1)).cb))]⟩):=by
 obtain⟨ls,h⟩:=san_FI i;have hf:=san_shape i;have g:=Step_spec (sanF i) ls h 2 2 2 ((i%2:Nat):Int) (by rw[hf.1];rfl) hf.2.2.1 hf.2.2.2;rw[hf.1,hf.2.1] at g;exact g
def links_san : zj prog 40 [.agg [.slc false 0 0 0 2, .int .i64 1, .slc false 1 0 0 2, .slc false 3 0 0 2]] ⟨4, [(0, rI 62 3 2 (nds pairN)), (1, rI 89 5 2 (lyR 2 (sanF 100).ly)), (2, (3 * 2 + 1, fam false 3 1 (lyF false (sanF 100).ly))), (3, rI 58 3 2 (cbs (sanF 100).cb))]⟩
   (fun s H1=>s= .slc true 4 0 0 2/\H1=⟨6,[(4,rO 96 2 2 (lkR true 5 (z33 (sanF 100)))),(5,(2+1,fam true 98 2 (lkF true (z33 (sanF 100)))))]⟩):=by
 obtain⟨ls,h⟩:=san_FI 100;have hf:=san_shape 100;have g:=Links_spec (sanF 100) ls h 2 2 2 (by rw[hf.1];rfl) hf.2.2.1 hf.2.2.2;rw[hf.1,hf.2.1,san_100.2.2.1] at g;exact g
def present_san : zj prog 33 [.agg [.slc false 0 0 0 2, .int .i64 1, .slc false 1 0 0 2, .slc false 3 0 0 2], .int .i64 1] ⟨4, [(0, rI 62 3 2 (nds pairN)), (1, rI 89 5 2 (lyR 2 (sanF 100).ly)), (2, (3 * 2 + 1, fam false 3 1 (lyF false (sanF 100).ly))), (3, rI 58 3 2 (cbs (sanF 100).cb))]⟩
   (fun s H1=>s= .slc true 4 0 0 2/\H1=⟨5,[(4,rO 3 1 2 (ints (z1w (sanF 100) 1)))]⟩):=by
 obtain⟨ls,h⟩:=san_FI 100;have hf:=san_shape 100;have g:=Present_spec (sanF 100) ls h 2 2 2 1 (by rw[hf.1];rfl) hf.2.2.1 hf.2.2.2;rw[hf.1,hf.2.1,san_100.2.1] at g;exact g
def check_san:zj prog 32 [.agg [.slc false 0 0 0 2,.int .i64 1,.slc false 1 0 0 2,.slc false 3 0 0 2]] ⟨4,[(0,rI 62 3 2 (nds pairN)),(1,rI 89 5 2 (lyR 2 (sanF 100).ly)),(2,(3*2+1,fam false 3 1 (lyF false (sanF 100).ly))),(3,rI 58 3 2 (cbs (sanF 100).cb))]⟩ (fun s H1=>s= .bool true/\H1=⟨4,[]⟩):=by
 obtain⟨ls,h⟩:=san_FI 100;have hf:=san_shape 100;have g:=Check_spec (sanF 100) ls h 2 2 2 (by rw[hf.1];rfl) hf.2.2.1 hf.2.2.2;rw[hf.1,hf.2.1] at g;exact g
def san_bound:boundF (sanF 100)=0:=by rw[boundF,san_100.1];simp
def bound_san:zj prog 35 [.agg [.slc false 0 0 0 2,.int .i64 1,.slc false 1 0 0 2,.slc false 3 0 0 2]] ⟨4,[(0,rI 62 3 2 (nds pairN)),(1,rI 89 5 2 (lyR 2 (sanF 100).ly)),(2,(3*2+1,fam false 3 1 (lyF false (sanF 100).ly))),(3,rI 58 3 2 (cbs (sanF 100).cb))]⟩ (fun s H1=>s= .int .i64 0/\H1=⟨4,[]⟩):=by
 obtain⟨ls,h⟩:=san_FI 100;have hf:=san_shape 100;have g:=Bound_spec (sanF 100) ls h 2 2 2 (by rw[hf.1];rfl) hf.2.2.1 hf.2.2.2;rw[hf.1,hf.2.1,san_bound] at g;exact g
section
def san_s0:z12 san1 1 1 2=sanF 0:=rfl
attribute [local irreducible] sanF
open JoFm (gxE axE exE)
open JnNm (oxE)
open D0 (sdE)
def sane13_spec:zj prog 19 [] ⟨0,[]⟩ (fun s H1=>s= .bool true/\H1=⟨0,[]⟩):=by
 refine Zf false 83 [.tmp 0] func19 ntmps19 results19 fun w0 own0 β0 Q hQ hQn=> ?_;refine Zrs [] ?_;refine sg [1,2] rfl ?_;intro K hK;refine Zd Zl (pair_spec) (id) ?_;refine Zd Zl (New_san) (id) ?_;refine Zkl hK ?_;clear hK K;refine z6 (Zrs [1,17] ?_);refine Zcm ?_ ?_
 ·intro h17
  exfalso;simp at h17
 intro h17;refine z7 (sg [1,2] rfl ?_);intro K hK;refine Zo Zl ?_;refine Zd Zl (start_san (gn:=san1) san0_sh san0_FI rfl san1_sh san_e0) (fun q=>q+2) ?_;refine Zkl hK ?_;clear hK K;refine z6 (Zrs [1,24] ?_);refine Zcm ?_ ?_
 ·intro h24
  exfalso;simp at h24
 intro h24;refine z7 (sg [1,2] rfl ?_);intro K hK;refine Zo Zl ?_;refine Zd Zl (start_san (gn:=sanF 0) san1_sh san1_FI san_s0 (san_shape 0) san_e1) (fun q=>q+7) ?_;refine Zkl hK ?_;clear hK K;refine z6 (Zrs [1,2,3] ?_);refine z8 fun Q0 hN0 hX0 hR0 hE0=> ?_;refine zl (σ:=Nat) (fun i=>i<=100) (fun i=>100-i) (fun i=>[(1,.ptr 6 0 0 0),(2,.int .i64 0),(3,.int .i64 i)]) (fun i=>⟨11,[(6,rV 34 4 1 (fun _=>[.slc true 7 0 0 2,.int .i64 1,.slc true 8 0 0 2,.slc true 10 0 0 2])),(7,rO 62 3 2 (nds pairN)),(8,rO 89 5 2 (lyR 9 (sanF i).ly)),(9,(3*2+1,fam true 3 1 (lyF true (sanF i).ly))),(10,rO 58 3 2 (cbs (sanF i).cb))]⟩) 0 (ql _) (ρ:=fun q=>if q=6 then 6 else q+4) (Zg (fun q=>if q=6 then 6 else q+4)) ?_;rintro i hi QL1 hL1 hRL1 hEL1;refine z6 (Zrs [1,2,3,35] ?_);refine Zcn ?_ ?_
 ·intro h35;refine z7 (z6 ?_);refine z8 fun Q1 hN1 hX1 hR1 hE1=> ?_;refine z3v [1,2,3] rfl ?_;intro K hK;iterate 4 (refine Zo Zl ?_)
  rw[show Int.tmod (i:Int) 2=((i%2:Nat):Int) from by rw[Int.tmod_eq_emod_of_nonneg (by omega)];omega];refine Zc1 (step_san i) (fun q=>q+7) ?_;refine Zkl hK ?_;clear hK K;refine za (hN1 _ _ (Zrg [1,2,3] (za (hL1 _ _ ?_))));rw[iS i];exact⟨i+1,⟨by omega,by omega⟩,fun q=>if q=6 then 6 else q+4,(Zg (fun q=>if q=6 then 6 else q+4))⟩
 intro h35;have hie:i=100:=by omega
 subst hie;refine zk (hEL1 _ _ _ (hX0 _ _ (sg [1,4] rfl ?_)));intro K hK;refine Zo Zl ?_;refine Zd Zl (links_san) (fun q=>q+7) ?_;have hl0:=san_100.2.2.2.1;have hl1:=san_100.2.2.2.2;refine Zkl hK ?_;clear hK K;refine sg [0] rfl ?_;intro K hK;refine Zo Zl ?_;refine Zd Zl (present_san) (fun q=>q+7) ?_;iterate 25 (refine Zo Zl ?_)
 first
 |rw[show((((2:Nat):Int)==2) && (((2:Nat):Int)==2) && ((((lk (z33 (sanF 100)) 0).lv.length:Nat):Int)==2) && ((pI (lk (z33 (sanF 100)) 0).lv 1).2==2))=true from by rw[hl0,hl1];rfl]
 |rw[show((((2:Nat):Int)==2) && ((((lk (z33 (sanF 100)) 0).lv.length:Nat):Int)==2) && ((pI (lk (z33 (sanF 100)) 0).lv 1).2==2))=true from by rw[hl0,hl1];rfl]
 refine Zad ?_;iterate 2 (refine Zo Zl ?_)
 refine z13 ?_;refine z1b rfl rfl ?_;refine Zgr ?_;refine⟨fun _=> ?_,fun h=>(by cases h)⟩;refine Zo id ?_;refine Zc1 (check_san) (fun q=>q+7) ?_;iterate 3 (refine Zo Zl ?_)
 refine z13 ?_;refine z1b rfl rfl ?_;refine Zgr ?_;refine⟨fun _=> ?_,fun h=>(by cases h)⟩;refine Zo id ?_;refine Zc1 (bound_san) (fun q=>q+7) ?_;refine Zkl hK ?_;clear hK K;refine zb (hQ _ _ ?_);exact Zoc ⟨0,[]⟩
end
end Go.Proofs
