/-
  Walks and plain facts, joined: part 10 of 11.
  Conditions: those that each statement names.
-/
import Derived.Test.YtpnefndionckaaaGreatDoorRmg
import Derived.Test.YtpnefndionckaaaGreatDoorRmc
import Derived.Test.YtpnefndionckaaaGreatDoorRmf
import Derived.Test.YtpnefndionckaaaGreatDoorRmi
import Derived.Test.YtpnefndionckaaaGreatDoorRmh
set_option linter.unusedSimpArgs false
set_option linter.unusedVariables false
set_option linter.defProp false
set_option maxRecDepth 4000
set_option maxHeartbeats 8000000
namespace Go.Proofs
open Tryz
open Go.Sk
section
def bldE (xs:List Nd)(h:Int):Int:=if z1j xs≠0 then 1 else if h<0\/16<h then 2 else 0
def bldR (xs:List Nd)(h:Int):List Lk:=if bldE xs h=0 then bldN (z43 xs) h.toNat else []
theorem zerL_len (s:List Nd)(h:Nat):(zerL s h).length=s.length:=by simp[zerL]
theorem lk_zerL {s:List Nd}{i:Nat}(h:Nat)(hi:i<s.length):lk (zerL s h) i=⟨(nd s i).id,List.replicate (h+1) (0,0)⟩:=by
 rw[lk_lt (by rw[zerL_len];exact hi)];simp[zerL,z3e hi]
theorem zerL_snoc {s:List Nd}{i:Nat}(h:Nat)(hi:i<s.length):zerL (s.take (i+1)) h=zerL (s.take i) h++[⟨(nd s i).id,List.replicate (h+1) (0,0)⟩]:=by
 rw[take_nd hi,zerL,yC];rfl
theorem mapoGivesP {π:Pn}{n n':Nat}{h h':Int->Bool}{g g':Int->SV}{z z':SV}(h1:n'=n)(h2:∀a,h' a=h a)(h3:∀a,g a=(g' a).renP π)(h4:z=z'.renP π):zt π (.mapo true (.ints n h g z)) (.mapo true (.ints n' h' g' z')):=⟨fun h=>h,h1,h2,h3,h4⟩
theorem ids_dist {s:List Nd}(hc:z1j s=0):∀i j,i<s.length->j<s.length->(nd s i).id=(nd s j).id->i=j:=fun i j hi hj he=>by
 have hp:=((z5z s).1 hc).2.2;rw[z3e hi,z3e hj] at he;rcases je i j with h|h|h
 ·exact absurd he (z59 (Qb.1 hp i j hi hj h)).1
 ·exact h
 ·exact absurd he.symm (z59 (Qb.1 hp j i hj hi h)).1
theorem lst_mem {s:List Nd}{lv:Int}{q:Nat}(hq:q<(lstG s lv).length):(ind (lstG s lv) q).length<=s.length/\∀k,k<(ind (lstG s lv) q).length->∃p,p<s.length/\nth (ind (lstG s lv) q) k=(nd s p).id:=by
 have hq':q<(z4l s lv).length:=by rw[<-lstG_len];exact hq
 rw[ind_lstG s lv hq',qA];refine⟨cnd_len s lv q,fun k hk=> ?_⟩
 have h16:lv<=16:=by
  by_cases g:16<lv
  ·rw[z4l,qf g] at hq';simp at hq'
  ·omega
 have he:=(clsN_ok h16 s).1.eq (cnd (z4l s lv) q) (by rw[cnd_lt hq'];exact qN hq')
 have hm:nd (cnd (z4l s lv) q) k∈s:=by
  have h1:nd (cnd (z4l s lv) q) k∈cnd (z4l s lv) q:=nd_mem hk
  generalize nd (cnd (z4l s lv) q) k=x at h1
  rw[he] at h1;exact(ji.1 h1).1
 obtain⟨p,hp,hpe⟩:=Qg hm;refine⟨p,hp,?_⟩;rw[z3e hp,hpe,z2n (by rw[qA];exact hk),js,z3e hk]
theorem pI_set' (l:List (Int×Int))(a i:Nat)(x:Int×Int)(ha:a<l.length):pI (l.set a x) i=if i=a then x else pI l i:=by
 by_cases h:i=a
 ·subst h;rw[qf rfl,pI_lt (by simpa using ha)];simp
 ·rw[qb h,pI,pI,qt,jv (by omega),qt]
theorem lk_set' (l:List Lk)(a i:Nat)(x:Lk)(ha:a<l.length):lk (l.set a x) i=if i=a then x else lk l i:=by
 by_cases h:i=a
 ·subst h;rw[qf rfl,lk_lt (by simpa using ha)];simp
 ·rw[qb h,lk,lk,qt,jv (by omega),qt]
theorem lkF_set {out:List Lk}{a lv:Nat}{x:Int×Int}{F:Nat->List SV}(ha:a<out.length)(hl:lv<(lk out a).lv.length)(hF:∀i,F i=if i=lv then [.int .i64 x.1,.int .i64 x.2] else lvs (lk out a).lv i):
  (fun j=>if j=a then Obj.row ⟨true,false,98,2,(lk out a).lv.length,F⟩ else .row ⟨true,false,98,2,(lk out j).lv.length,lvs (lk out j).lv⟩)=lkF true (out.set a {lk out a with lv:=(lk out a).lv.set lv x}):=by
 funext j
 rw[lkF,lk_set' _ _ _ _ ha]
 by_cases h:j=a
 ·subst h;rw[qf rfl,qf rfl,qD]
  congr 2
  funext i
  rw[hF,lvs,lvs,pI_set' _ _ _ _ hl]
  split<;>rfl
 ·rw[qb h,qb h]
theorem lkF_setLk {out:List Lk}{a lv:Nat}{v:Int}(ha:a<out.length)(hl:lv<(lk out a).lv.length):
  (fun j=>if j=a then Obj.row ⟨true,false,98,2,(lk out a).lv.length,fun i'=>if i'=lv then [SV.int .i64 v,SV.int .i64 (pI (lk out a).lv lv).snd] else [SV.int .i64 (pI (lk out a).lv i').fst,SV.int .i64 (pI (lk out a).lv i').snd]⟩ else .row ⟨true,false,98,2,(lk out j).lv.length,lvs (lk out j).lv⟩)=lkF true (setLk out a lv v):=lkF_set ha hl fun _=>rfl
theorem lkF_setRk {out:List Lk}{a lv:Nat}{v:Int}(ha:a<out.length)(hl:lv<(lk out a).lv.length):
  (fun j=>if j=a then Obj.row ⟨true,false,98,2,(lk out a).lv.length,fun i'=>if i'=lv then [SV.int .i64 (pI (lk out a).lv lv).fst,SV.int .i64 v] else [SV.int .i64 (pI (lk out a).lv i').fst,SV.int .i64 (pI (lk out a).lv i').snd]⟩ else .row ⟨true,false,98,2,(lk out j).lv.length,lvs (lk out j).lv⟩)=lkF true (setRk out a lv v):=lkF_set ha hl fun _=>rfl
def ec46:=aj @Tryz.szLink @Tryz.zLink
def ec47:=aj8 @Tryz.tyLinks @Tryz.szLinks @Tryz.tyLinked @Tryz.szLinked @Tryz.tyLinkeds @Tryz.szLinkeds @Tryz.zLinked @lvs_ap
def ec48:=aj @lkR_ap @lkF_ap
def InJm.exE:=aj9 @zg @zh @zi @zo @zl z5u @zp z47 (aj9 z4n ec30 @zk @z14 @zq ec31 @ints.eq_1 @z2z (aj6 ec46 ec47 @Tryz.tyMapII @Tryz.zsInt ec48 @z1a))
def ec49:=aj5 @lkR_ren' @lkR_lt @lkF_gives @lkFm_lt @lkF_fown
def InJm.gxE:=aj9 z47 ec16 z4n ec26 ec29 ec32 @z1x @z1u (aj3 ec49 @mapGives.eq_1 @mapo_lt)
def ec50:=aj3 @lkF_ren @lkR_fold @lkR_ren
def InJm.axE:=aj9 @zg @zh @zi @zo @zl z5u @zp z47 (aj9 z4n ec30 @zk @z14 @zq @z2z ec46 ec47 (aj9 @Tryz.tyMapII @Tryz.zsInt @z1a @z1v @z2e @z3z ec33 @ilR_fold ec50))
open InJm (gxE axE exE)
open D0 (oxE sdE)
theorem buildP_spec (xs:List Nd)(n:Nat)(hn:xs.length=n)(h:Nat)(hx:n<=19)(hc:z1j xs=0)(hh:h<=16):
  zf prog 38 [.slc false 0 0 0 n,.int .i64 h] ⟨1,[(0,uQ (.row ⟨false,false,62,3,n,nds xs⟩))]⟩
   (fun s H1=>s= .tup [.slc true 1 0 0 n,.int .i64 0]/\H1=⟨3,[(1,uQ (.row ⟨true,false,96,2,n,lkR true 2 (bldL (z43 xs) (h+1) 0 (zerL (z43 xs) h))⟩)),(2,(n+1,fam true 98 2 (lkF true (bldL (z43 xs) (h+1) 0 (zerL (z43 xs) h)))))]⟩):=by
 subst hn;have hsl:(z43 xs).length=xs.length:=(z1o xs).length_eq.symm;refine zf.ofC false 109 [.tmp 4,.tmp 5] func38 rfl rfl ntmps38 results38 rfl ?_;intro w0 own0 β0 Q hQ hQn;simp only[z1c];refine Zrs [0,1] ?_;refine sg [1,6,7] rfl ?_;intro K hK;refine Zo Zl ?_;refine Zo Zl ?_;refine Zc1 (ordered_spec xs xs.length rfl hx) (id) ?_;iterate 5 (refine Zo Zl ?_)
 refine z8 (Zpr (hK _ _ ?_));clear hK K;refine z6 ?_;refine Zrs [1,6,22] ?_;refine z7 _ rfl ?_ ?_
 ·intro h22
  exfalso;simp[hc] at h22
 ·intro h22
  refine za (z6 ?_);refine Zrs [1,6,28] ?_;refine z7 _ rfl ?_ ?_
  ·intro h28
   exfalso;simp only[qr,qh,qi,qx,qk,qq,qj,qg,qv,qC,qU,ne_eq,Qm,Ql,qK,qy] at h28;omega
  ·intro h28
   refine za ?_;refine Zrs [1,6,8] ?_;refine Zrs [1,6,8,9] ?_;refine z6 ?_;refine Zrs [1,6,8,9,30,31,32] ?_;obtain⟨s,hs⟩:∃s,z43 xs=s:=⟨_,rfl⟩;rw[hs] at hsl ⊢;refine z29 9 96 2 (lkR true 4 (zerL (s.take 0) h)) rfl ?_;dsimp only;refine z2x 98 2 (lkF true (zerL (s.take 0) h)) ?_;dsimp only;refine zb fun Q0 hN0 hX0 hR0 hE0=> ?_;refine zn (σ:=Nat) (fun i=>i<=xs.length) (fun i=>xs.length-i) (fun i=>[(1,.int .i64 h),(6,.slc true 1 0 0 xs.length),(8,.mp 2 0),(9,.slc true 3 0 0 i),(30,.slc true 1 0 0 xs.length),(31,.int .i64 xs.length),(32,.int .i64 i)]) (fun i=>⟨5,[(3,uQ (.row ⟨true,false,96,2,i,lkR true 4 (zerL (s.take i) h)⟩)),(4,(i+1,fam true 98 2 (lkF true (zerL (s.take i) h)))),(2,uQ (.mapo true (.ints (atC s i) (atB s i) (fun a=> .int .i64 (atP s i a)) (.int .i64 0)))),(1,uQ (.row ⟨true,false,62,3,xs.length,nds s⟩))]⟩) 0 (qo _) (ρ:=id) (have xE:=aj @atC.eq_1 (aj @atC.eq_2 (aj @atB.eq_1 (aj @atB.eq_2 (aj @atP.eq_1 @atP.eq_2))));Zgx id) ?_;rintro i hi QL1 hL1 hRL1 hEL1;refine Zrs [1,6,8,9,30,31,32,33] ?_;refine z6 ?_;refine z7 _ rfl ?_ ?_
   ·intro h33;replace h33:=Znb h33;refine za (z6 (zb fun Q1 hN1 hX1 hR1 hE1=> ?_));refine Zrs [1,6,8,9,10,11,30,31,32] ?_;refine sg [1,6,8,9,11,30,31,32] rfl ?_;intro K hK;iterate 5 (refine Zo Zl ?_)
    rw[show(if atB s i (nd s i).id then atC s i else atC s i+1)=atC s (i+1) from rfl,show(fun x=>x==(nd s i).id||atB s i x)=atB s (i+1) from rfl,show(fun x=>if x=(nd s i).id then SV.int .i64 i else .int .i64 (atP s i x))=fun x=> .int .i64 (atP s (i+1) x) from by funext x;simp only[atP];split<;>rfl];repeat(with_reducible apply qe;exact sdE)
    refine z8 (Zpr (hK _ _ ?_));clear hK K;refine Zrd [1,6,8,9,30,31,32] [0,1,2,3,4,5,6,7,8,9] [[],[],[],[],[],[],[],[],[3],[]] [[],[],[],[],[],[],[],[],[3],[3]] ?_;intro K hK;iterate 6 (refine Zo (Zi [] []) ?_)
    rw[show((h:Int)+1).toNat=h+1 from by omega];repeat(with_reducible apply qe;exact sdE)
    iterate 2 (refine Zo (Zi [] []) ?_)
    refine Zo (Zi [3] [3]) ?_;refine Zo (Zi [] [3]) ?_;refine zx (Zpr (hK _ _ ?_));clear hK K;refine zd (hN1 _ _ ?_);have hT:=zerL_snoc (s:=s) h (i:=i) (by omega);have hTl:(zerL (s.take i) h).length=i:=by rw[zerL_len,qS];omega
    have hold:∀q,q<i->lk (zerL (s.take (i+1)) h) q=lk (zerL (s.take i) h) q:=fun q hq=>by rw[hT];exact lk_append (by omega)
    have hnew:lk (zerL (s.take (i+1)) h) i=⟨(nd s i).id,List.replicate (h+1) (0,0)⟩:=by rw[hT];have:=lk_last (zerL (s.take i) h) ⟨(nd s i).id,List.replicate (h+1) (0,0)⟩;rw[hTl] at this;exact this
    have hout:∀q,q<i+1->app (lkR true 4 (zerL (s.take i) h)) i (z42 2 1 [SV.int .i64 (nd s i).id,SV.slc true 6 0 0 (h+1)]) q=SV.renPL (mvP (fun q=>if q=3 then 8 else q) 4 i 6) (lkR true 4 (zerL (s.take (i+1)) h) q):=fun q hq=>by
     rw[lkR_renP]
     split
     ·rename_i e;subst e;rw[app,qb (by omega),jm,hnew,Qr]
      rfl
     ·rw[hold q (by omega),app,qf (by omega)];rfl
    refine z4o (fr':=[(1,.int .i64 h),(6,.slc true 1 0 0 xs.length),(8,.mp 2 0),(9,.slc true 3 0 0 (i+1)),(30,.slc true 1 0 0 xs.length),(31,.int .i64 xs.length),(32,.int .i64 i)]) (H':=⟨5,[(3,uQ (.row ⟨true,false,96,2,i+1,lkR true 4 (zerL (s.take (i+1)) h)⟩)),(4,(i+1+1,fam true 98 2 (lkF true (zerL (s.take (i+1)) h)))),(2,uQ (.mapo true (.ints (atC s (i+1)) (atB s (i+1)) (fun a=> .int .i64 (atP s (i+1) a)) (.int .i64 0)))),(1,uQ (.row ⟨true,false,62,3,xs.length,nds s⟩))]⟩) _ (Zgp (fun q=>if q=3 then 8 else q) (4) (i) (6) (z1g rfl qm (by decide) (zr.of (fun _=>⟨rfl,rfl⟩) rfl (qc _) hout) (Obj.lt_row.2 fun q _=>(lkR_lt _ _ _ _ q).2 (qd rfl)) (qd rfl) (z4f rfl rfl qm ⟨fun _=>⟨rfl,rfl⟩,rfl⟩ (jh _) (fun q hq hne=>⟨by omega,lkF_givesP _ _ _ _ _ _ id (hold q (by omega)),lkFm_lt _ _ _ _⟩) (lkF_newP _ _ _ _ _ (by rw[hnew];exact Qr) fun q hq=>by rw[hnew];simp[lvs,pI,List.getD,hq]) (lkFm_lt _ _ _ _) (qd rfl) (z1g rfl qm (by decide) (mapoGivesP rfl (fun _=>rfl) (fun _=>rfl) rfl) ((mapo_lt _ _ _ _ _ _).2 ⟨trivial,fun _=>trivial⟩) (qd rfl) (z1g rfl qm (by decide) (zr.of (fun _=>⟨rfl,rfl⟩) rfl (qc _) fun q _=>(z33 _ _ q).symm) (Obj.lt_row.2 fun q _=>z4u _ _ q) (qd rfl) trivial))))) ?_
    refine Zrg [1,6,8,9,30,31,32] ?_;refine zd (hL1 _ _ ?_);rw[show(i:Int)+1=((i+1:Nat):Int) from by omega];exact⟨i+1,⟨by omega,by omega⟩,id,(Zg id)⟩
   ·intro h33
    refine zm (hEL1 _ _ _ (hX0 _ _ (z6 ?_)));refine Zrs [6,8,9,52,53] ?_
    have hin:i=xs.length:=by
     have:¬(i:Int)<xs.length:=by simpa using h33
     omega
    subst hin;have hcs:z1j s=0:=by rw[<-hs];exact good_perm (z1o xs) hc
    have hids:z43 s=s:=by rw[<-hs];exact srtN_idem xs
    have hd:=ids_dist hcs;rw[Qt (by omega:s.length<=xs.length)];refine zb fun Q2 hN2 hX2 hR2 hE2=> ?_;refine zn (σ:=Nat×List Lk) (fun σ=>σ.1<=h+1/\Shp (zerL s h) σ.2/\bldL s (h+1-σ.1) σ.1 σ.2=bldL s (h+1) 0 (zerL s h)) (fun σ=>h+1-σ.1) (fun σ=>[(6,.slc true 1 0 0 xs.length),(8,.mp 2 0),(9,.slc true 3 0 0 xs.length),(52,.int .i64 (h+1)),(53,.int .i64 σ.1)]) (fun σ=>⟨5,[(3,uQ (.row ⟨true,false,96,2,xs.length,lkR true 4 σ.2⟩)),(4,(xs.length+1,fam true 98 2 (lkF true σ.2))),(2,uQ (.mapo true (.ints (atC s xs.length) (atB s xs.length) (fun a=> .int .i64 (atP s xs.length a)) (.int .i64 0)))),(1,uQ (.row ⟨true,false,62,3,xs.length,nds s⟩))]⟩) (0,zerL s h) ⟨qo _,Shp.refl _,rfl⟩ (ρ:=id) (Zg id) ?_;rintro⟨lv,out⟩ hi QL2 hL2 hRL2 hEL2;refine Zrs [6,8,9,52,53,54] ?_;refine z6 ?_;refine z7 _ rfl ?_ ?_
    ·intro h54;replace h54:=Znb h54;obtain⟨hi1,hi2,hi3⟩:=hi;dsimp only at hi1 hi2 hi3;refine za (z6 (zb fun Q3 hN3 hX3 hR3 hE3=> ?_));refine Zrs [6,8,9,12,52,53] ?_;refine sg [6,8,9,12,52,53,58,59,60] rfl ?_;intro K hK;iterate 2 (refine Zo Zl ?_)
     refine Zo Zl ?_;refine Zc1 (lists_spec s xs.length hsl lv hx) (fun q=>if q=0 then 1 else q) ?_;obtain⟨ls,hls⟩:∃ls,lstG s (lv:Int)=ls:=⟨_,rfl⟩;rw[show lstN s (lv:Int)=ls by rw[lstN,qf ⟨hcs,by omega,by omega⟩,hids,hls]];have hll:ls.length<=xs.length:=by rw[<-hls,lstG_len,<-hsl];exact clsN_len _ _
     have hmem:∀q,q<ls.length->(ind ls q).length<=xs.length/\∀k,k<(ind ls q).length->∃p,p<xs.length/\nth (ind ls q) k=(nd s p).id:=fun q hq=>by rw[<-hsl];subst hls;exact lst_mem hq
     iterate 2 (refine Zo Zl ?_)
     refine z8 (Zpr (hK _ _ ?_));clear hK K;refine zb fun Q4 hN4 hX4 hR4 hE4=> ?_;refine zn (σ:=Nat×List Lk) (fun σ=>σ.1<=ls.length/\Shp (zerL s h) σ.2/\bldC s lv (ls.drop σ.1) σ.2=bldC s lv ls out) (fun σ=>ls.length-σ.1) (fun σ=>[(6,.slc true 1 0 0 xs.length),(8,.mp 2 0),(9,.slc true 3 0 0 xs.length),(12,.int .i64 lv),(52,.int .i64 (h+1)),(53,.int .i64 lv),(58,.slc true 5 0 0 ls.length),(59,.int .i64 ls.length),(60,.int .i64 σ.1)]) (fun σ=>⟨7,[(5,uQ (.row ⟨true,false,22,1,ls.length,ilR true 6 ls⟩)),(6,(ls.length+1,fam true 3 1 (ilF true ls))),(3,uQ (.row ⟨true,false,96,2,xs.length,lkR true 4 σ.2⟩)),(4,(xs.length+1,fam true 98 2 (lkF true σ.2))),(2,uQ (.mapo true (.ints (atC s xs.length) (atB s xs.length) (fun a=> .int .i64 (atP s xs.length a)) (.int .i64 0)))),(1,uQ (.row ⟨true,false,62,3,xs.length,nds s⟩))]⟩) (0,out) ⟨qo _,hi2,rfl⟩ (ρ:=id) (Zg id) ?_;rintro⟨q,out1⟩ hq QL3 hL3 hRL3 hEL3;refine Zrs [6,8,9,12,52,53,58,59,60,61] ?_;refine z6 ?_;refine z7 _ rfl ?_ ?_
     ·intro h61;replace h61:=Znb h61;obtain⟨hq1,hq2,hq3⟩:=hq;dsimp only at hq1 hq2 hq3;obtain⟨hm1,hm2⟩:=hmem q (by omega);obtain⟨ids,hids2⟩:∃ids,ind ls q=ids:=⟨_,rfl⟩;rw[hids2] at hm1 hm2;refine za (z6 (zb fun Q5 hN5 hX5 hR5 hE5=> ?_));refine sg [6,8,9,12,14,52,53,58,59,60] rfl ?_;intro K hK;iterate 2 (refine Zo Zl ?_)
      rw[hids2];repeat(with_reducible apply qe;exact sdE)
      refine Zo Zl ?_;refine z8 (Zpr (hK _ _ ?_));clear hK K;refine Zrs [6,8,9,12,14,15,52,53,58,59,60] ?_;refine zb fun Q6 hN6 hX6 hR6 hE6=> ?_;refine zn (σ:=Nat×List Lk) (fun σ=>1<=σ.1/\(σ.1<=ids.length\/σ.1=1)/\Shp (zerL s h) σ.2/\bldI s lv ids (ids.length-σ.1) σ.1 σ.2=bldI s lv ids (ids.length-1) 1 out1) (fun σ=>ids.length-σ.1) (fun σ=>[(6,.slc true 1 0 0 xs.length),(8,.mp 2 0),(9,.slc true 3 0 0 xs.length),(12,.int .i64 lv),(14,.slc true 6 (q+1) 0 ids.length),(15,.int .i64 σ.1),(52,.int .i64 (h+1)),(53,.int .i64 lv),(58,.slc true 5 0 0 ls.length),(59,.int .i64 ls.length),(60,.int .i64 q)]) (fun σ=>⟨7,[(5,uQ (.row ⟨true,false,22,1,ls.length,ilR true 6 ls⟩)),(6,(ls.length+1,fam true 3 1 (ilF true ls))),(3,uQ (.row ⟨true,false,96,2,xs.length,lkR true 4 σ.2⟩)),(4,(xs.length+1,fam true 98 2 (lkF true σ.2))),(2,uQ (.mapo true (.ints (atC s xs.length) (atB s xs.length) (fun a=> .int .i64 (atP s xs.length a)) (.int .i64 0)))),(1,uQ (.row ⟨true,false,62,3,xs.length,nds s⟩))]⟩) (1,out1) ⟨qc _,.inr rfl,hq2,rfl⟩ (ρ:=id) (Zg id) ?_;rintro⟨i,out2⟩ hr QL4 hL4 hRL4 hEL4;refine z6 ?_;refine Zrs [6,8,9,12,14,15,52,53,58,59,60,67] ?_;refine z7 _ rfl ?_ ?_
      ·intro h67;replace h67:=Znb h67;obtain⟨hr1,hr2,hr3,hr4⟩:=hr;dsimp only at hr1 hr2 hr3 hr4
       have hat:∀k,k<ids.length->atP s xs.length (nth ids k)=((idN s (nth ids k):Nat):Int)/\idN s (nth ids k)<xs.length:=fun k hk=>by
        obtain⟨p,hp1,hp2⟩:=hm2 k hk;rw[hp2,atP_at hd hp1 (by omega),idN_at hd (by omega)];exact⟨rfl,hp1⟩
       have hlen:(ind ls q).length=ids.length:=by rw[hids2]
       have hil:i<ids.length:=by omega
       have hp1:=(hat i hil).2;have hp2:=(hat (i-1) (by omega)).2;have hi1:((i:Int)-1).toNat=i-1:=by omega
       have hlv:∀l,Shp (zerL s h) l->∀p,p<xs.length->(lk l p).lv.length=h+1:=fun l hl p hp=>by rw[hl.lv,lk_zerL h (by omega)];exact Qr
       have hl2:out2.length=xs.length:=by rw[hr3.len,zerL_len];exact hsl
       have hv1:=hlv _ hr3 _ hp1;have hv2:=hlv _ hr3 _ hp2;refine za (z6 (zb fun Q7 hN7 hX7 hR7 hE7=> ?_));refine z6 ?_;refine Zrd [6,8,9,12,14,15,52,53,58,59,60] [0,1,2,3,4,5,10,11,12,13,14,15,6,7,8,9,16,17,18] [[],[],[],[],[],[],[],[],[],[],[],[],[],[],[],[],[],[],[4]] [[],[],[],[],[],[],[],[],[],[],[],[],[],[],[],[],[],[],[4]] ?_;intro K hK;iterate 6 (refine Zo (Zi [] []) ?_)
       rw[hids2];repeat(with_reducible apply qe;exact sdE)
       iterate 6 (refine Zo (Zi [] []) ?_)
       rw[hids2,hi1];repeat(with_reducible apply qe;exact sdE)
       refine Zo (Zi [] []) ?_;rw[(hat i hil).1];repeat(with_reducible apply qe;exact sdE)
       iterate 5 (refine Zo (Zi [] []) ?_)
       refine Zo (Zi [4] [4]) ?_;refine zx (Zpr (hK _ _ ?_));clear hK K;refine Zrd [6,8,9,12,14,15,52,53,58,59,60] [0,1,2,3,4,5,6,11,12,13,14,15,7,8,9,10,16,17,18] [[],[],[],[],[],[],[],[],[],[],[],[],[],[],[],[],[],[],[4]] [[],[],[],[],[],[],[],[],[],[],[],[],[],[],[],[],[],[],[4]] ?_;intro K hK;iterate 2 (refine Zo (Zi [] []) ?_)
       rw[lkF_setLk (by omega) (by omega),<-lkR_shp (shp_setLk out2 (idN s (nth ids i)) lv (nth ids (i-1)))];have hr5:=hr3.trans (shp_setLk out2 (idN s (nth ids i)) lv (nth ids (i-1)));obtain⟨o3,ho3⟩:∃o3,setLk out2 (idN s (nth ids i)) lv (nth ids (i-1))=o3:=⟨_,rfl⟩;rw[ho3] at hr5 ⊢;have hv3:=hlv _ hr5 _ hp2;have hl3:o3.length=xs.length:=by rw[hr5.len,zerL_len];exact hsl
       repeat(with_reducible apply qe;exact sdE)
       iterate 5 (refine Zo (Zi [] []) ?_)
       rw[hids2,hi1];repeat(with_reducible apply qe;exact sdE)
       iterate 5 (refine Zo (Zi [] []) ?_)
       rw[hids2];repeat(with_reducible apply qe;exact sdE)
       refine Zo (Zi [] []) ?_;rw[(hat (i-1) (by omega)).1];repeat(with_reducible apply qe;exact sdE)
       iterate 5 (refine Zo (Zi [] []) ?_)
       refine Zo (Zi [4] [4]) ?_;refine zx (Zpr (hK _ _ ?_));clear hK K;refine zd (hN7 _ _ ?_);refine Zrg [6,8,9,12,14,15,52,53,58,59,60] ?_;refine zd (hL4 _ _ ?_);rw[lkF_setRk (by omega) (by omega),<-lkR_shp (shp_setRk o3 (idN s (nth ids (i-1))) lv (nth ids i)),show(i:Int)+1=((i+1:Nat):Int) from by omega];refine⟨(i+1,setRk o3 (idN s (nth ids (i-1))) lv (nth ids i)),⟨⟨by omega,.inl (by omega),hr5.trans (shp_setRk ..),?_⟩,by omega⟩,id,(Zg id)⟩;rw[<-hr4,<-ho3,show ids.length-i=ids.length-(i+1)+1 by omega]
       rfl
      ·intro h67;obtain⟨hr1,hr2,hr3,hr4⟩:=hr;dsimp only at hr1 hr2 hr3 hr4;refine zm (hEL4 _ _ _ (hX6 _ _ (zd (hN5 _ _ ?_))));refine Zrg [6,8,9,12,52,53,58,59,60] ?_;refine zd (hL3 _ _ ?_)
       have hi1:ids.length-i=0:=by
        have:¬(i:Int)<ids.length:=by simpa using h67
        omega
       rw[hi1] at hr4;rw[show(q:Int)+1=((q+1:Nat):Int) from by omega];refine⟨(q+1,out2),⟨⟨by omega,hr3,?_⟩,by omega⟩,id,(Zg id)⟩;rw[<-hq3]
       have:ls.drop q=ids::ls.drop (q+1):=by
        rw[QB (by omega),<-hids2,ind_lt (by omega)]
       rw[this]
       show _=bldC s lv (ls.drop (q+1)) (bldI s lv ids (ids.length-1) 1 out1)
       rw[<-hr4];rfl
     ·intro h61;obtain⟨hq1,hq2,hq3⟩:=hq;dsimp only at hq1 hq2 hq3;refine zm (hEL3 _ _ _ (hX4 _ _ (zd (hN3 _ _ ?_))));refine Zrg [6,8,9,52,53] ?_;refine zd (hL2 _ _ ?_)
      have hq1:ls.drop q=[]:=by
       have:¬(q:Int)<ls.length:=by simpa using h61
       exact jR (by omega)
      rw[hq1] at hq3;rw[show(lv:Int)+1=((lv+1:Nat):Int) from by omega];refine⟨(lv+1,out1),⟨⟨by omega,hq2,?_⟩,by omega⟩,id,(Zg id)⟩;rw[<-hi3,show h+1-lv=h+1-(lv+1)+1 by omega]
      show _=bldL s (h+1-(lv+1)) (lv+1) (bldC s lv (lstG s lv) out)
      rw[hls,<-hq3];rfl
    ·intro h54;obtain⟨hi1,hi2,hi3⟩:=hi;dsimp only at hi1 hi2 hi3;refine zm (hEL2 _ _ _ (hX2 _ _ ?_));refine Zrs [4,5] ?_;refine ze (hQ _ _ ?_)
     have h0:h+1-lv=0:=by
      have:¬(lv:Int)<h+1:=by simpa using h54
      omega
     rw[h0] at hi3;rw[hs,<-hi3,bldL];refine zu (fun q=>if q=1 then 3 else if q=2 then 4 else q) (.tup [.slc true 1 0 0 xs.length,.int .i64 0]) (⟨3,[(1,uQ (.row ⟨true,false,96,2,xs.length,lkR true 2 out⟩)),(2,(xs.length+1,fam true 98 2 (lkF true out)))]⟩) (.inl rfl) ?_;refine Zou ?_;refine⟨Zs,Zs,(Zg (fun q=>if q=1 then 3 else if q=2 then 4 else q)),Zs,?_⟩
     all_goals first|trivial|exact⟨rfl,rfl,trivial⟩
end
section
theorem col_list {s c:List Nd}{lv:Nat}(hg:z1j s=0)(hc:c=grpW s lv (hdN c).word)(hne:c≠[]){out:List Lk}{p l:Nat}(hp:p<s.length)(hlen:out.length=s.length)(hl:l<(lk out p).lv.length)
  (h0:l=lv->nd s p∈c->col out p l=(0,0)\/col out p l=adjN c (nd s p).id):
  (l=lv/\nd s p∈c->col (bldI s lv (c.map (·.id)) ((c.map (·.id)).length-1) 1 out) p l=adjN c (nd s p).id)/\
  (¬(l=lv/\nd s p∈c)->col (bldI s lv (c.map (·.id)) ((c.map (·.id)).length-1) 1 out) p l=col out p l):=by
 have hgc:z1j c=0:=by rw[hc];exact good_sub jL hg
 have hd:=ids_dist hg;have hdc:=ids_dist hgc
 have hsub:∀q,q<c.length->∃p',p'<s.length/\nd s p'=nd c q:=fun q hq=>by
  have h1:nd c q∈c:=nd_mem hq
  generalize nd c q=x at h1
  rw[hc,grpW] at h1;obtain⟨p',h2,h3⟩:=Qg (ji.1 h1).1;exact⟨p',h2,by rw[z3e h2,h3]⟩
 have hnth:∀q,q<c.length->nth (c.map (·.id)) q=(nd c q).id:=fun q hq=>by
  rw[z2n (by rw[qA];exact hq),js,z3e hq]
 have hpos:0<c.length:=J2.2 hne;have hml:(c.map (·.id)).length=c.length:=qA ..
 have hq0:∀q,q<c.length->(idN s (nth (c.map (·.id)) q)=p↔nd c q=nd s p):=fun q hq=>by
  obtain⟨p',h1,h2⟩:=hsub q hq;rw[hnth q hq,<-h2,idN_at hd h1]
  constructor
  ·rintro rfl;rfl
  ·intro e;exact hd _ _ h1 hp (by rw[e])
 have hinj:∀a b,a<(c.map (·.id)).length->b<(c.map (·.id)).length->idN s (nth (c.map (·.id)) a)=idN s (nth (c.map (·.id)) b)->a=b:=fun a b ha hb he=>by
  rw[hml] at ha hb;obtain⟨a',h1,h2⟩:=hsub a ha;obtain⟨b',h3,h4⟩:=hsub b hb;rw[hnth a ha,hnth b hb,<-h2,<-h4,idN_at hd h1,idN_at hd h3] at he;subst he;exact hdc a b ha hb (by rw[<-h2,<-h4])
 rw[col_bldI _ 1 (qc _) (by omega) hl (by omega) hinj]
 constructor
 ·rintro⟨rfl,hm⟩;obtain⟨P,hP,hPe⟩:=Qg hm;have hPn:nd c P=nd s p:=by rw[z3e hP,hPe]
  have hid:idN c (nd s p).id=P:=by rw[<-hPn];exact idN_at hdc hP
  have hfind:(List.range (c.map (·.id)).length).find? (fun q=>decide (idN s (nth (c.map (·.id)) q)=p))=some P:=by
   cases hf:(List.range (c.map (·.id)).length).find? (fun q=>decide (idN s (nth (c.map (·.id)) q)=p)) with
   |none=>
    have:=List.find?_eq_none.1 hf P (Qd.2 (by omega));simp[(hq0 P hP).2 hPn] at this
   |some q'=>
    have h2:=List.find?_some hf;have h3:=Qd.1 (List.mem_of_find?_eq_some hf);simp only[qj] at h2;rw[hinj q' P h3 (by omega) (h2.trans ((hq0 P hP).2 hPn).symm)]
  have hq1:∀q,q<c.length->idN s (nth (c.map (·.id)) q)=p->q=P:=fun q hq he=>hinj q P (by omega) (by omega) (he.trans ((hq0 P hP).2 hPn).symm);rw[hfind,jQ];have hA1:(adjN c (nd s p).id).1=if 0<P then(nd c (P-1)).id else 0:=by rw[adjN,hid]
  have hA2:(adjN c (nd s p).id).2=if P+1<c.length then(nd c (P+1)).id else 0:=by rw[adjN,hid]
  have h0':=h0 rfl hm;refine Prod.ext ?_ ?_
  ·rw[hA1];dsimp only
   by_cases g:0<P
   ·rw[qf g,qf ⟨rfl,P,by omega,by omega,(hq0 P hP).2 hPn⟩,hnth _ (by omega)]
   ·rw[qb g,qb (by rintro⟨_,q,h1,h2,h3⟩;have:=hq1 q (by omega) h3;omega)];rcases h0' with h|h
    ·rw[h]
    ·rw[h,hA1,qb g]
  ·rw[hA2];dsimp only
   by_cases g:P+1<c.length
   ·rw[qf g,qf ⟨rfl,P,by omega,by omega,(hq0 P hP).2 hPn⟩,hnth _ g]
   ·rw[qb g,qb (by rintro⟨_,q,h1,h2,h3⟩;have:=hq1 q (by omega) h3;omega)];rcases h0' with h|h
    ·rw[h]
    ·rw[h,hA2,qb g]
 ·intro hn;have hno:∀q,q<c.length->l=lv->¬idN s (nth (c.map (·.id)) q)=p:=fun q hq e he=>hn ⟨e,by rw[<-(hq0 q hq).1 he];exact nd_mem hq⟩;rw[qb (by rintro⟨e,q,h1,h2,h3⟩;exact hno q (by omega) e h3),qb (by rintro⟨e,q,h1,h2,h3⟩;exact hno q (by omega) e h3)]
theorem col_lists {s:List Nd}{lv:Nat}(hg:z1j s=0)(h16:lv<=16){p l:Nat}(hp:p<s.length):∀(cs:List (List Nd)) {out:List Lk},(∀c∈cs,c∈z4l s lv)->out.length=s.length->l<(lk out p).lv.length->
  (l=lv->col out p l=(0,0)\/col out p l=nbN s (nd s p) lv)->
  (l=lv/\(∃c∈cs,nd s p∈c)->col (bldC s lv (cs.map fun c=>c.map (·.id)) out) p l=nbN s (nd s p) lv)/\
  (¬(l=lv/\∃c∈cs,nd s p∈c)->col (bldC s lv (cs.map fun c=>c.map (·.id)) out) p l=col out p l)
 |[],out,_,_,_,_=>⟨(fun h=>(QQ h.2.choose_spec.1).elim),fun _=>rfl⟩
 |c::cs,out,hm,hlen,hl,h0=>by
  have hcm:=hm c (qn ..);obtain⟨hok,_⟩:=clsN_ok (lv:=lv) (by omega) s;have hg2:nd s p∈c->adjN c (nd s p).id=nbN s (nd s p) lv:=fun hin=>by rw[nbN,<-cls_grp (by omega) hcm hin]
  obtain⟨h1,h2⟩:=col_list (out:=out) (l:=l) hg (hok.eq c hcm) (hok.ne c hcm) hp hlen hl (fun e hin=>by rw[hg2 hin];exact h0 e);have hsh:=shp_bldI s lv (c.map (·.id)) ((c.map (·.id)).length-1) 1 out;obtain⟨o2,ho2⟩:∃o2,bldI s lv (c.map (·.id)) ((c.map (·.id)).length-1) 1 out=o2:=⟨_,rfl⟩;rw[ho2] at h1 h2 hsh;have hb:bldC s lv ((c::cs).map fun c=>c.map (·.id)) out=bldC s lv (cs.map fun c=>c.map (·.id)) o2:=by rw[<-ho2];rfl
  rw[hb]
  have hcase:col o2 p l=col out p l\/col o2 p l=nbN s (nd s p) lv/\l=lv/\nd s p∈c:=by
   by_cases g:l=lv/\nd s p∈c
   ·exact .inr ⟨by rw[h1 g,hg2 g.2],g⟩
   ·exact .inl (h2 g)
  obtain⟨i1,i2⟩:=col_lists hg h16 (l:=l) hp cs (out:=o2) (fun d hd=>hm d (ql _ hd)) (by rw[hsh.len];exact hlen) (by rw[hsh.lv];exact hl) (fun e=>by
   rcases hcase with h|h
   ·rw[h];exact h0 e
   ·exact .inr h.1)
  constructor
  ·rintro⟨e,d,hd,hdm⟩
   by_cases g:∃c∈cs,nd s p∈c
   ·exact i1 ⟨e,g⟩
   ·rw[i2 (fun h=>g h.2)];rcases qB.1 hd with h|h
    ·subst h;rw[h1 ⟨e,hdm⟩,hg2 hdm]
    ·exact absurd ⟨d,h,hdm⟩ g
  ·intro hn;rw[i2 (fun h=>hn ⟨h.1,h.2.elim fun d hd=>⟨d,ql _ hd.1,hd.2⟩⟩),h2 (fun h=>hn ⟨h.1,c,qn ..,h.2⟩)]
theorem col_level {s:List Nd}{lv:Nat}(hg:z1j s=0)(h16:lv<=16){p l:Nat}(hp:p<s.length){out:List Lk}(hlen:out.length=s.length)(hl:l<(lk out p).lv.length)(h0:l=lv->col out p l=(0,0)):
  col (bldC s lv (lstG s lv) out) p l=if l=lv then nbN s (nd s p) lv else col out p l:=by
 obtain⟨h1,h2⟩:=col_lists hg h16 hp (z4l s lv) (out:=out) (l:=l) (fun _ h=>h) hlen hl (fun e=> .inl (h0 e));obtain⟨_,hin⟩:=clsN_ok (lv:=lv) (by omega) s
 by_cases e:l=lv
 ·rw[qf e];exact h1 ⟨e,hin _ (nd_mem hp)⟩
 ·rw[qb e];exact h2 fun h=>e h.1
theorem col_bldL {s:List Nd}(hg:z1j s=0){p l:Nat}(hp:p<s.length):∀(k lv:Nat) {out:List Lk},lv+k<=17->out.length=s.length->l<(lk out p).lv.length->(lv<=l->col out p l=(0,0))->
  col (bldL s k lv out) p l=if lv<=l/\l<lv+k then nbN s (nd s p) l else col out p l
 |0,lv,out,_,_,_,_=>by rw[bldL,qb (by omega)]
 |k+1,lv,out,h17,hlen,hl,h0=>by
  have hsh:=shp_bldC s lv (lstG s lv) out;have hc:=col_level (out:=out) (l:=l) hg (by omega:lv<=16) hp hlen hl (fun e=>h0 (by omega));rw[bldL,col_bldL hg hp k (lv+1) (by omega) (by rw[hsh.len];exact hlen) (by rw[hsh.lv];exact hl) (fun h=>by rw[hc,qb (by omega)];exact h0 (by omega)),hc]
  by_cases e:l=lv
  ·subst e;rw[qb (by omega),qf rfl,qf (by omega)]
  ·rw[qb e]
   by_cases g:lv+1<=l/\l<lv+1+k
   ·rw[qf g,qf (by omega)]
   ·rw[qb g,qb (by omega)]
theorem lk_bldN {s:List Nd}{i:Nat}(h:Nat)(hi:i<s.length):lk (bldN s h) i=⟨(nd s i).id,(List.range (h+1)).map fun(l:Nat)=>nbN s (nd s i) l⟩:=by
 rw[lk_lt (by simpa [bldN] using hi)];simp[bldN,z3e hi]
theorem bldL_bldN {s:List Nd}(hg:z1j s=0)(h:Nat)(hh:h<=16):bldL s (h+1) 0 (zerL s h)=bldN s h:=by
 have hsh:=shp_bldL s (h+1) 0 (zerL s h);have hl:(bldL s (h+1) 0 (zerL s h)).length=s.length:=by rw[hsh.len,zerL_len]
 refine Qx (by rw[hl];simp[bldN]) fun i h1 h2=> ?_;have hi:i<s.length:=by omega
 rw[<-lk_lt h1,<-lk_lt h2,lk_bldN h hi];have hid:=hsh.id i;have hlv:=hsh.lv i;rw[lk_zerL h hi] at hid hlv;have hlv':(lk (bldL s (h+1) 0 (zerL s h)) i).lv.length=h+1:=by rw[hlv];exact Qr
 have hlist:(lk (bldL s (h+1) 0 (zerL s h)) i).lv=(List.range (h+1)).map fun(l:Nat)=>nbN s (nd s i) l:=by
  refine Qx (by rw[hlv'];simp) fun l g1 g2=> ?_;have hl':l<h+1:=by omega
  have:=col_bldL hg (l:=l) hi (h+1) 0 (out:=zerL s h) (by omega) (zerL_len ..) (by rw[lk_zerL h hi];simpa using hl') (fun _=>by rw[col,lk_zerL h hi];simp[pI,List.getD,hl']);rw[qf (by omega),col,pI_lt g1] at this;rw[this];simp
 cases hx:lk (bldL s (h+1) 0 (zerL s h)) i with
 |mk a b=>
  rw[hx] at hid hlist;dsimp only at hid hlist;rw[hid,hlist]
end
section
open InJm (gxE axE exE)
open D0 (oxE sdE)
theorem buildN_spec (xs:List Nd)(n:Nat)(hn:xs.length=n)(h:Int)(hx:n<=19)(hb:z1j xs≠0\/h<0\/16<h):
  zf prog 38 [.slc false 0 0 0 n,.int .i64 h] ⟨1,[(0,uQ (.row ⟨false,false,62,3,n,nds xs⟩))]⟩
   (fun s H1=>s= .tup [.slc true 1 0 0 0,.int .i64 (bldE xs h)]/\H1=⟨3,[(1,uQ (.row ⟨true,false,96,2,0,lkR true 2 []⟩)),(2,(1,fam true 98 2 (lkF true [])))]⟩):=by
 subst hn;have hsl:(z43 xs).length=xs.length:=(z1o xs).length_eq.symm;refine zf.ofC false 109 [.tmp 4,.tmp 5] func38 rfl rfl ntmps38 results38 rfl ?_;intro w0 own0 β0 Q hQ hQn;simp only[z1c];refine Zrs [0,1] ?_;refine sg [1,6,7] rfl ?_;intro K hK;refine Zo Zl ?_;refine Zo Zl ?_;refine Zc1 (ordered_spec xs xs.length rfl hx) (id) ?_;iterate 5 (refine Zo Zl ?_)
 refine z8 (Zpr (hK _ _ ?_));clear hK K;refine z6 ?_;refine Zrs [1,6,22] ?_;refine z7 _ rfl ?_ ?_
 ·intro h22
  refine Zrs [4,5] ?_;refine z29 4 96 2 (lkR true 3 []) rfl ?_;dsimp only;refine z2x 98 2 (lkF true []) ?_;dsimp only;refine ze (hQ _ _ ?_);refine zu (fun q=>if q=1 then 2 else if q=2 then 3 else q) (.tup [.slc true 1 0 0 0,.int .i64 1]) (⟨3,[(1,uQ (.row ⟨true,false,96,2,0,lkR true 2 []⟩)),(2,(1,fam true 98 2 (lkF true [])))]⟩) (.inl rfl) ?_;refine Zou ?_;refine⟨Zs,Zs,(Zg (fun q=>if q=1 then 2 else if q=2 then 3 else q)),Zs,?_⟩
  all_goals first|trivial|exact⟨by rw[bldE,qf (by simpa using h22)],trivial⟩
 ·intro h22
  refine za (z6 ?_);refine Zrs [1,6,28] ?_;refine z7 _ rfl ?_ ?_
  ·intro h28
   refine Zrs [4,5] ?_;refine z29 4 96 2 (lkR true 3 []) rfl ?_;dsimp only;refine z2x 98 2 (lkF true []) ?_;dsimp only;refine ze (hQ _ _ ?_);refine zu (fun q=>if q=1 then 2 else if q=2 then 3 else q) (.tup [.slc true 1 0 0 0,.int .i64 2]) (⟨3,[(1,uQ (.row ⟨true,false,96,2,0,lkR true 2 []⟩)),(2,(1,fam true 98 2 (lkF true [])))]⟩) (.inl rfl) ?_;refine Zou ?_;refine⟨Zs,Zs,(Zg (fun q=>if q=1 then 2 else if q=2 then 3 else q)),Zs,?_⟩
   all_goals first|trivial|exact⟨by rw[bldE,qb (by simpa using h22),qf (by simpa using h28)],trivial⟩
  ·intro h28
   exfalso;simp only[qr,qh,qi,qx,qk,qq,qj,qg,qv,qC,qU,ne_eq,Qm,Ql,qK,qy] at h28;simp at h22;omega
theorem build_spec (xs:List Nd)(n:Nat)(hn:xs.length=n)(h:Int)(hx:n<=19):
  zf prog 38 [.slc false 0 0 0 n,.int .i64 h] ⟨1,[(0,uQ (.row ⟨false,false,62,3,n,nds xs⟩))]⟩
   (fun s H1=>s= .tup [.slc true 1 0 0 (bldR xs h).length,.int .i64 (bldE xs h)]/\H1=⟨3,[(1,uQ (.row ⟨true,false,96,2,(bldR xs h).length,lkR true 2 (bldR xs h)⟩)),(2,((bldR xs h).length+1,fam true 98 2 (lkF true (bldR xs h))))]⟩):=by
 by_cases hb:z1j xs≠0\/h<0\/16<h
 ·have he:bldE xs h≠0:=by
   rw[bldE]
   split
   ·decide
   ·rename_i hc;rw[qf (hb.resolve_left hc)];decide
  have hr:bldR xs h=[]:=by rw[bldR,qb he]
  rw[hr];exact buildN_spec xs n hn h hx hb
 ·have hc:z1j xs=0:=QH fun g=>hb (.inl g);have hh:¬(h<0\/16<h):=fun g=>hb (.inr g);obtain⟨k,rfl⟩:=Int.eq_ofNat_of_zero_le (by omega:0<=h);have he:bldE xs k=0:=by rw[bldE,qb (by simp[hc]),qb hh]
  have hs:z1j (z43 xs)=0:=good_perm (z1o xs) hc
  have hr:bldR xs k=bldL (z43 xs) (k+1) 0 (zerL (z43 xs) k):=by
   rw[bldR,qf he,bldL_bldN hs k (by omega)];rfl
  have hl:(bldR xs k).length=n:=by
   rw[hr,(shp_bldL ..).len,zerL_len,(z1o xs).length_eq.symm,hn]
  rw[hl,he,hr];exact buildP_spec xs n hn k hx hc (by omega)
end
section
theorem eqLv (a b a' b':Int):EqT prog 98 [.int .i64 a,.int .i64 b] [.int .i64 a',.int .i64 b']:=
 EqIn.top (K:=2) (by omega) (by kernel_rfl) (EqIn.of 1 (by omega) [(false,3,0),(false,3,1)] (by kernel_rfl) (by kernel_rfl) (by kernel_rfl)
  (.sc (by kernel_rfl) ⟨rfl,.i64,by kernel_rfl⟩ (.sc (by kernel_rfl) ⟨rfl,.i64,by kernel_rfl⟩ (.nil _))))
theorem eqL_lv (x y x' y':Int):eqL [.int .i64 x,.int .i64 y] [.int .i64 x',.int .i64 y']=decide ((x,y)=(x',y')):=by
 rw[Qe];simp[eqL,eqS]
theorem pI_ext {a b:List (Int×Int)}(hl:a.length=b.length)(h:∀q,q<a.length->pI a q=pI b q):a=b:=
 Qx hl fun q h1 h2=>by rw[<-pI_lt h1,<-pI_lt h2];exact h q h1
theorem lk_ext {a b:List Lk}(hl:a.length=b.length)(h:∀q,q<a.length->lk a q=lk b q):a=b:=
 Qx hl fun q h1 h2=>by rw[<-lk_lt h1,<-lk_lt h2];exact h q h1
theorem lk_eq {a b:Lk}:a=b↔a.id=b.id/\a.lv=b.lv:=by
 cases a;cases b;simp
def lvOk (l:List Lk):Prop:=∀i,i<l.length->(lk l i).lv.length<=9223372036854775807
def InLm.exE:=aj9 @zg @zh @zi @zo @zl z5u @zp z47 (aj7 z4n @z2z ec46 ec47 ec48 @z1a @eqL_lv)
def InLm.gxE:=aj6 z47 ec16 z4n ec26 ec29 ec49
theorem InLm.sdE {a:Prop}(h:a:=by first|exact D0.sdE|exact eqLv _ _ _ _|(intro _;exact eqLv _ _ _ _)):a:=h
open InLm (sdE gxE exE)
open D0 (oxE)
theorem refSame_lk_spec (a b:List Lk)(na nb:Nat)(hna:a.length=na)(hnb:b.length=nb)(hxa:na<=1000000)(hxb:nb<=1000000)(hla:lvOk a)(hlb:lvOk b):
  zf prog 39 [.slc false 0 0 0 na,.slc false 2 0 0 nb] ⟨4,[(0,uQ (.row ⟨false,false,96,2,na,lkR true 1 a⟩)),(1,(na+1,fam false 98 2 (lkF false a))),(2,uQ (.row ⟨false,false,96,2,nb,lkR true 3 b⟩)),(3,(nb+1,fam false 98 2 (lkF false b)))]⟩
   (fun s H1=>s= .bool (decide (a=b))/\H1=⟨4,[]⟩):=by
 subst hna hnb;refine zf.ofC false 71 [.tmp 4] func39 rfl rfl ntmps39 results39 rfl ?_;intro w0 own0 β0 Q hQ hQn;simp only[z1c];refine Zrs [0,1] ?_;refine z6 ?_;refine Zrs [0,1,11] ?_;refine z7 _ rfl ?_ ?_
 ·intro h11
  try replace h11:=Znb h11
  refine Zrs [4] ?_;refine ze (hQ _ _ ?_);refine zc (H':=⟨4,[]⟩) (.inl rfl) ?_;refine Zou ?_;refine⟨Zs,(Zg id),Zs,?_⟩;exact⟨by rw[qM];intro e;rw[e] at h11;simp at h11,trivial⟩
 ·intro h11;have hle:a.length=b.length:=Int.ofNat_inj.1 (by simpa using h11);refine za (z6 ?_);refine Zrs [0,1,5] ?_;refine zb fun Q0 hN0 hX0 hR0 hE0=> ?_;refine zn (σ:=Nat) (fun k=>k<=a.length/\∀q,q<k->lk a q=lk b q) (fun k=>a.length-k) (fun k=>[(0,.slc false 0 0 0 a.length),(1,.slc false 2 0 0 b.length),(5,.int .i64 k)]) (fun _=>⟨4,[(0,uQ (.row ⟨false,false,96,2,a.length,lkR true 1 a⟩)),(1,(a.length+1,fam false 98 2 (lkF false a))),(2,uQ (.row ⟨false,false,96,2,b.length,lkR true 3 b⟩)),(3,(b.length+1,fam false 98 2 (lkF false b)))]⟩) 0 ⟨qo _,fun q h=>by omega⟩ (ρ:=id) (Zg id) ?_;rintro k hk QL1 hL1 hRL1 hEL1;refine z6 ?_;refine Zrs [0,1,5,15] ?_;refine z7 _ rfl ?_ ?_
  ·intro h15;replace h15:=Znb h15;obtain⟨hk1,hk2⟩:=hk;have hk3:=hla k (by omega);have hk4:=hlb k (by omega);refine za (z6 (zb fun Q1 hN1 hX1 hR1 hE1=> ?_));refine z6 (z6 ?_);refine Zrd [0,1,5,43] [0,1,2,3,4,5,6,7,8,9,10,11,12,13,14,15,16,17,18,19,20,21,22,23,24,25] [[],[],[],[],[],[],[],[],[],[],[],[],[],[],[],[],[],[],[],[],[],[],[],[],[],[]] [[],[],[],[],[],[],[],[],[],[],[],[],[],[],[],[],[],[],[],[],[],[],[],[],[],[]] ?_;intro K hK;iterate 26 (refine Zo (Zi [] []) ?_)
   refine zx (Zpr (hK _ _ ?_));clear hK K;refine z7 _ rfl ?_ ?_
   ·intro h43
    try replace h43:=Znb h43
    refine Zrs [4] ?_;refine ze (hR1 _ _ (hRL1 _ _ (hR0 _ _ (hQ _ _ ?_))));refine zc (H':=⟨4,[]⟩) (.inl rfl) ?_;refine Zou ?_;refine⟨Zs,(Zg id),Zs,?_⟩;exact⟨by rw[qM];intro e;rw[e] at h43;simp at h43,trivial⟩
   ·intro h43;replace h43:=Znb h43;have hke:(lk a k).lv.length=(lk b k).lv.length:=Int.ofNat_inj.1 h43.2;refine za ?_;refine Zrs [0,1,5,6] ?_;refine zb fun Q2 hN2 hX2 hR2 hE2=> ?_;refine zn (σ:=Nat) (fun m=>m<=(lk a k).lv.length/\∀q,q<m->pI (lk a k).lv q=pI (lk b k).lv q) (fun m=>(lk a k).lv.length-m) (fun m=>[(0,.slc false 0 0 0 a.length),(1,.slc false 2 0 0 b.length),(5,.int .i64 k),(6,.int .i64 m)]) (fun _=>⟨4,[(0,uQ (.row ⟨false,false,96,2,a.length,lkR true 1 a⟩)),(1,(a.length+1,fam false 98 2 (lkF false a))),(2,uQ (.row ⟨false,false,96,2,b.length,lkR true 3 b⟩)),(3,(b.length+1,fam false 98 2 (lkF false b)))]⟩) 0 ⟨qo _,fun q h=>by omega⟩ (ρ:=id) (Zg id) ?_;rintro m hm QL2 hL2 hRL2 hEL2;refine z6 ?_;refine Zrs [0,1,5,6,51] ?_;refine z7 _ rfl ?_ ?_
    ·intro h51;replace h51:=Znb h51;obtain⟨hm1,hm2⟩:=hm;refine za (z6 (zb fun Q3 hN3 hX3 hR3 hE3=> ?_));refine z6 ?_;refine Zrd [0,1,5,6,70] [0,1,2,3,4,5,6,7,8,9,10,11,12,13,14,15,16] [[],[],[],[],[],[],[],[],[],[],[],[],[],[],[],[],[]] [[],[],[],[],[],[],[],[],[],[],[],[],[],[],[],[],[]] ?_;intro K hK;iterate 17 (refine Zo (Zi [] []) ?_)
     refine zx (Zpr (hK _ _ ?_));clear hK K;refine z7 _ rfl ?_ ?_
     ·intro h70
      try replace h70:=Znb h70
      refine Zrs [4] ?_;refine ze (hR3 _ _ (hRL2 _ _ (hR2 _ _ (hR1 _ _ (hRL1 _ _ (hR0 _ _ (hQ _ _ ?_)))))));refine zc (H':=⟨4,[]⟩) (.inl rfl) ?_;refine Zou ?_;refine⟨Zs,(Zg id),Zs,?_⟩;exact⟨by rw[qM];intro e;rw[e] at h70;exact h70 rfl,trivial⟩
     ·intro h70
      try replace h70:=Znb h70
      refine za (zd (hN3 _ _ ?_));refine Zrg [0,1,5,6] ?_;refine zd (hL2 _ _ ?_);rw[show(m:Int)+1=((m+1:Nat):Int) from by omega];refine⟨m+1,⟨⟨by omega,fun q hq=> ?_⟩,by omega⟩,id,(Zg id)⟩
      by_cases e:q=m
      ·subst e;exact h70
      ·exact hm2 q (by omega)
    ·intro h51;obtain⟨hm1,hm2⟩:=hm;refine zm (hEL2 _ _ _ (hX2 _ _ (zd (hN1 _ _ ?_))));refine Zrg [0,1,5] ?_;refine zd (hL1 _ _ ?_);rw[show(k:Int)+1=((k+1:Nat):Int) from by omega];refine⟨k+1,⟨⟨by omega,fun q hq=> ?_⟩,by omega⟩,id,(Zg id)⟩
     by_cases e:q=k
     ·subst e
      have hm:m=(lk a q).lv.length:=by
       have:¬(m:Int)<(lk a q).lv.length:=by simpa using h51
       omega
      subst hm;exact lk_eq.2 ⟨h43.1,pI_ext hke hm2⟩
     ·exact hk2 q (by omega)
  ·intro h15;obtain⟨hk1,hk2⟩:=hk;refine zm (hEL1 _ _ _ (hX0 _ _ ?_));refine Zrs [4] ?_;refine ze (hQ _ _ ?_);refine zc (H':=⟨4,[]⟩) (.inl rfl) ?_;refine Zou ?_;refine⟨Zs,(Zg id),Zs,?_⟩;refine⟨?_,trivial⟩
   have hk:k=a.length:=by
    have:¬(k:Int)<a.length:=by simpa using h15
    omega
   subst hk;rw[qL (lk_ext hle hk2)]
end
section
theorem clsK_ap (l:List Cl)(i:Nat):z30 l i=(cl l i).sv:=rfl
def numF (ids:List Int)(c:Int):Int:=if c<2 then 0 else nth ids (c-2).toNat
def lnkF (x:Ly)(c:Int):Int×Int:=(numF x.ids (cl x.cs c.toNat).left,numF x.ids (cl x.cs c.toNat).right)
def JoEm.exE:=aj9 @z1b @zg @zh @zq @zk @z14 @z1a ec2 (aj9 @zi @zy @zo @zl z5u @zp z47 z4n (aj9 @zz ec3 ec5 @z19.eq_1 @z12.eq_1 @ints.eq_1 ec34 ec35 (aj4 ec36 @z2z ec46 @clsK_ap)))
def JoEm.axE:=aj9 @z1b @zg @zh @zq @zk @z14 @z1a ec2 (aj9 @zi @zy @zo @zl z5u @zp z47 z4n (aj9 @zz ec3 ec5 @z19.eq_1 @z12.eq_1 ec34 ec35 @z2z (aj8 ec46 @clsK_ap @z1v @z2e @z2t @z34 ec38 @z3z)))
def JoEm.oxE:=aj3 @zz ec34 @z2z
open JnNm (gxE)
open JoEm (axE oxE exE)
open D0 (sdE)
theorem number_spec (ids:List Int)(lv wd c:Int)(a n m:Nat)(ha:ids.length=a)(hx:a<=1000000)(h0:0<=c)(h1:c<a+2):
  zf prog 122 [.agg [.int .i64 lv,.int .u32 wd,.slc false 0 0 0 a,.slc false 1 0 0 n,.slc false 2 0 0 m],.int .i64 c] ⟨3,[(0,uQ (.row ⟨false,false,3,1,a,ints ids⟩))]⟩
   (fun s H1=>s= .int .i64 (numF ids c)/\H1=⟨3,[]⟩):=by
 refine zf.ofC false 13 [.tmp 4] func122 rfl rfl ntmps122 results122 rfl ?_;intro w0 own0 β0 Q hQ hQn;simp only[z1c];refine Zrs [1,2] ?_;refine z6 ?_;refine Zrs [1,2,6] ?_;refine z7 _ rfl ?_ ?_
 ·intro h6;replace h6:=Znb h6;refine Zrs [4] ?_;refine ze (hQ _ _ ?_);refine zc (H':=⟨3,[]⟩) (.inl rfl) ?_;refine Zou ?_;refine⟨Zs,(Zg id),Zs,?_⟩;rw[numF,qf h6];exact⟨rfl,by trivial⟩
 ·intro h6;replace h6:=Znb h6;refine za ?_;refine Zrs [4] ?_;refine ze (hQ _ _ ?_);refine zc (H':=⟨3,[]⟩) (.inl rfl) ?_;refine Zou ?_;refine⟨Zs,(Zg id),Zs,?_⟩;rw[numF,qb (by omega)];exact⟨rfl,by trivial⟩
theorem link_spec (x:Ly)(c:Int)(a n m:Nat)(ha:x.ids.length=a)(hn:x.cs.length=n)(hx:a<=1000000)(hy:n<=1000000)(h0:0<=c)(h1:c<n)(hl:0<=(cl x.cs c.toNat).left/\(cl x.cs c.toNat).left<a+2)(hr:0<=(cl x.cs c.toNat).right/\(cl x.cs c.toNat).right<a+2):
  zf prog 81 [.agg [.int .i64 x.lvl,.int .u32 x.wd,.slc false 0 0 0 a,.slc false 1 0 0 n,.slc false 2 0 0 m],.int .i64 c] ⟨3,[(0,uQ (.row ⟨false,false,3,1,a,ints x.ids⟩)),(1,uQ (.row ⟨false,false,117,5,n,z30 x.cs⟩))]⟩
   (fun s H1=>s= .agg [.int .i64 (lnkF x c).1,.int .i64 (lnkF x c).2]/\H1=⟨3,[]⟩):=by
 refine zf.ofC false 21 [.cell 4 98] func81 rfl rfl ntmps81 results81 rfl ?_;intro w0 own0 β0 Q hQ hQn;simp only[z1c];refine Zrs [1,2,4] ?_;refine Zrs [2,4,5] ?_;refine z6 ?_;refine Zrd [4] [0,1,2,4,5,6,3,7,8,9] [[],[],[],[],[],[],[],[],[],[4]] [[],[],[],[],[],[],[],[],[],[4]] ?_;intro K hK;iterate 6 (refine Zo (Zi [] []) ?_)
 refine Zo (Zi [] []) ?_;refine Zc1 (number_spec x.ids x.lvl x.wd (cl x.cs c.toNat).left a n m ha hx hl.1 hl.2) (id) ?_;refine Zo (Zi [] []) ?_;refine Zc1 (number_spec x.ids x.lvl x.wd (cl x.cs c.toNat).right a n m ha hx hr.1 hr.2) (id) ?_;refine Zo (Zi [] []) ?_;refine Zo (Zi [4] [4]) ?_;refine zx (Zpr (hK _ _ ?_));clear hK K;refine ze (hQ _ _ ?_);refine zc (H':=⟨3,[]⟩) (.inl rfl) ?_;refine Zou ?_;refine⟨Zs,(Zg id),Zs,?_⟩
 first|trivial|exact⟨rfl,trivial⟩
def lkPi (i:Nat):Pn:=fun id k=>if id=0 then(0,3*i+1) else if id=1 then(0,3*i+2) else if id=2 then(0,3*i+3) else(id,k)
theorem linkM_spec (L:List Ly)(hb:lyB L)(i k:Nat)(hi:i<k)(c:Int)(h0:0<=c)(h1:c<(lyA L i).cs.length)(hl:0<=(cl (lyA L i).cs c.toNat).left/\(cl (lyA L i).cs c.toNat).left<(lyA L i).ids.length+2)(hr:0<=(cl (lyA L i).cs c.toNat).right/\(cl (lyA L i).cs c.toNat).right<(lyA L i).ids.length+2):
  zf prog 81 [.agg [.int .i64 (lyA L i).lvl,.int .u32 (lyA L i).wd,.slc false 0 (3*i+1) 0 (lyA L i).ids.length,.slc false 0 (3*i+2) 0 (lyA L i).cs.length,.slc false 0 (3*i+3) 0 (lyA L i).ps.length],.int .i64 c] ⟨3,[(0,(3*k+1,fam false 3 1 (lyF false L)))]⟩
   (fun s H1=>s= .agg [.int .i64 (lnkF (lyA L i) c).1,.int .i64 (lnkF (lyA L i) c).2]/\H1=⟨3,[]⟩):=by
 have h:=link_spec (lyA L i) c _ _ (lyA L i).ps.length rfl rfl (hb.2 i).1 (hb.2 i).2.1 h0 h1 hl hr
 have g:=h.mem (lkPi i) (os1:=[(0,(3*k+1,fam false 3 1 (lyF false L)))])
  (by
   refine⟨⟨by show 0<3;decide,fun k=>rfl,fun k' hk=>⟨Obj.lt_row.2 fun q _=>z1u _ _ q,?_⟩⟩,⟨by show 1<3;decide,fun k=>rfl,fun k' hk=>⟨Obj.lt_row.2 fun q _=>cls_lt _ _ q,?_⟩⟩,trivial⟩
   ·show 3*i+1<3*k+1/\zt _ (fam false 3 1 (lyF false L) (3*i+1)) _
    refine⟨by omega,?_⟩;rw[z2q,lyF_0];exact⟨fun h=>(by cases h),rfl,qc _,fun q _=>(z2u _ _ q).symm⟩
   ·show 3*i+2<3*k+1/\zt _ (fam false 3 1 (lyF false L) ((3*i+1)+1)) _
    refine⟨by omega,?_⟩;rw[z2q,lyF_1]
    exact⟨fun h=>(by cases h),rfl,qc _,fun q _=>(z4q _ _ q).symm⟩)
  ⟨by simp[SV.lt,SV.ltL],by simp[SV.lt],trivial⟩ (by
   intro id k hid;have hid:id<3:=hid
   show(lkPi i id k).1<3
   simp only[lkPi];repeat' split
   all_goals first|exact hid|(show 0<3;decide)) (by
   intro x hx k;simp only[qB,QQ,Je] at hx;subst hx
   exact z4t false _ _ L k)
 have e:SV.renPL (lkPi i) [.agg [.int .i64 (lyA L i).lvl,.int .u32 (lyA L i).wd,.slc false 0 0 0 (lyA L i).ids.length,.slc false 1 0 0 (lyA L i).cs.length,.slc false 2 0 0 (lyA L i).ps.length],.int .i64 c]=[.agg [.int .i64 (lyA L i).lvl,.int .u32 (lyA L i).wd,.slc false 0 (3*i+1) 0 (lyA L i).ids.length,.slc false 0 (3*i+2) 0 (lyA L i).cs.length,.slc false 0 (3*i+3) 0 (lyA L i).ps.length],.int .i64 c]:=rfl;rw[e] at g;refine g.imp ?_;rintro s H' ⟨s0,H0',⟨rfl,rfl⟩,rfl,rfl⟩;exact⟨rfl,rfl⟩
end
section
def nbF (fo:Fo)(v lv:Int):Int×Int:=if memF fo.ly v lv then lnkF (lyA fo.ly (plI fo.ly v lv).toNat) (plK fo.ly v lv) else(0,0)
def upF (fo:Fo)(v:Int)(n:Nat):List (Int×Int):=(List.range (fo.ht.toNat+1)).map fun(q:Nat)=>if q<n then nbF fo v q else(0,0)
def z3r (fo:Fo):List Lk:=(z1n fo 0).map fun v=>⟨v,upF fo v (fo.ht.toNat+1)⟩
theorem upF_len (fo:Fo)(v:Int)(n:Nat):(upF fo v n).length=fo.ht.toNat+1:=by simp[upF]
theorem upF_at (fo:Fo)(v:Int)(n:Nat){q:Nat}(h:q<fo.ht.toNat+1):pI (upF fo v n) q=if q<n then nbF fo v q else(0,0):=by
 rw[pI_lt (by rw[upF_len];exact h)];simp[upF]
theorem pI_ge {l:List (Int×Int)}{i:Nat}(h:l.length<=i):pI l i=(0,0):=by rw[pI,qt,qI h];rfl
theorem upF_zero (fo:Fo)(v:Int):(fun _=>[SV.int .i64 0,SV.int .i64 0])=lvs (upF fo v 0):=by
 funext q
 rw[lvs]
 by_cases h:q<fo.ht.toNat+1
 ·rw[upF_at fo v 0 h,qb (qR _)]
 ·rw[pI_ge (by rw[upF_len];omega)]
theorem upF_put (fo:Fo)(v:Int){n:Nat}(h:n<fo.ht.toNat+1){a b:Int}(e:nbF fo v n=(a,b)):(fun q=>if q=n then [SV.int .i64 a,SV.int .i64 b] else [SV.int .i64 (pI (upF fo v n) q).1,SV.int .i64 (pI (upF fo v n) q).2])=lvs (upF fo v (n+1)):=by
 refine(show _=(fun q=>if q=n then [SV.int .i64 a,SV.int .i64 b] else lvs (upF fo v n) q) from rfl).trans ?_
 funext q
 by_cases hq:q<fo.ht.toNat+1
 ·rw[lvs,lvs,upF_at fo v n hq,upF_at fo v (n+1) hq]
  by_cases g:q=n
  ·subst g;rw[qf rfl,qf (by omega),e]
  ·rw[qb g]
   by_cases g2:q<n
   ·rw[qf g2,qf (by omega)]
   ·rw[qb g2,qb (by omega)]
 ·rw[qb (by omega),lvs,lvs,pI_ge (by rw[upF_len];omega),pI_ge (by rw[upF_len];omega)]
theorem upF_same (fo:Fo)(v:Int){n:Nat}(h:n<fo.ht.toNat+1)(e:nbF fo v n=(0,0)):upF fo v (n+1)=upF fo v n:=by
 refine J3 fun q hq=> ?_
 by_cases g:q=n
 ·subst g;rw[qf (by omega),qb (by omega),e]
 ·by_cases g2:q<n
  ·rw[qf g2,qf (by omega)]
  ·rw[qb g2,qb (by omega)]
theorem FI.nbr {fo:Fo}{ls:Nat->List Int}(h:FI fo ls){x:Nd}{lv:Int}{i k:Nat}(a:At fo x lv i k):((0<=(cl (lyA fo.ly i).cs (k+2)).left/\(cl (lyA fo.ly i).cs (k+2)).left<(lyA fo.ly i).ids.length+2)/\0<=(cl (lyA fo.ly i).cs (k+2)).right/\(cl (lyA fo.ly i).cs (k+2)).right<(lyA fo.ly i).ids.length+2):=by
 have h1:=(z67 (h.inv i a.hi).vb).cell (k+2) a.cel;have h2:=(h.sh.idsl a.hi).2;omega
def JoFm.exE:=aj9 @z1b @zg @zh @zq @zk @z14 @z1a ec2 (aj9 @zi @zy @zo @zl z5u @zp z47 z4n (aj9 @zz ec3 ec5 @z19.eq_1 @z12.eq_1 @ints.eq_1 ec34 ec35 (aj5 ec36 @z2z ec46 ec47 ec48)))
def JoFm.gxE:=aj9 @z1b z47 ec16 z4n ec3 ec7 ec8 @z19.eq_1 (aj9 @z12.eq_1 @z1x @z1u ec37 ec26 ec29 ec49 @lvs_ren' @lvs_lt)
def JoFm.axE:=aj9 @z1b @zg @zh @zq @zk @z14 @z1a ec2 (aj9 @zi @zy @zo @zl z5u @zp z47 z4n (aj9 @zz ec3 ec5 @z19.eq_1 @z12.eq_1 ec34 ec35 @z2z (aj9 ec46 ec47 @z1v @z2e @z2t @z34 ec38 @z3z (aj ec50 @lvs_ren))))
open JoFm (gxE axE exE)
open JnNm (oxE)
open D0 (sdE)
theorem Links_spec (fo:Fo)(ls:Nat->List Int)(h:FI fo ls)(n k m:Nat)(hn:fo.ns.length=n)(hk:fo.ly.length=k)(hm:fo.cb.length=m):
  zf prog 40 [.agg [.slc false 0 0 0 n,.int .i64 fo.ht,.slc false 1 0 0 k,.slc false 3 0 0 m]] ⟨4,[(0,uQ (.row ⟨false,false,62,3,n,nds fo.ns⟩)),(1,uQ (.row ⟨false,false,89,5,k,lyR 2 fo.ly⟩)),(2,(3*k+1,fam false 3 1 (lyF false fo.ly))),(3,uQ (.row ⟨false,false,58,3,m,cbs fo.cb⟩))]⟩
   (fun s H1=>s= .slc true 4 0 0 (z3r fo).length/\H1=⟨6,[(4,uQ (.row ⟨true,false,96,2,(z3r fo).length,lkR true 5 (z3r fo)⟩)),(5,((z3r fo).length+1,fam true 98 2 (lkF true (z3r fo))))]⟩):=by
 have hb:=h.sh.lyB;have hlb:=hb.1;have hlc:=h.sh.lyC;have hx64:=h.sh.few;have hx8:=h.sh.m8;have hh0:=h.sh.h0;have hh16:=h.sh.h16;have hpl:=presF_len fo 0;obtain⟨T,hT⟩:∃T,z3r fo=T:=⟨_,rfl⟩;have hTl:T.length=(z1n fo 0).length:=by rw[<-hT,z3r,qA]
 have hTa:∀i,i<T.length->lk T i=⟨nth (z1n fo 0) i,upF fo (nth (z1n fo 0) i) (fo.ht.toNat+1)⟩:=fun i hi=>by
  rw[lk_lt hi,z2n (by omega)];subst hT;simp[z3r]
 subst hn hk hm;rw[hT];obtain⟨w,hw⟩:∃w,fo.ht.toNat+1=w:=⟨_,rfl⟩;refine zf.ofC false 58 [.tmp 2] func40 rfl rfl ntmps40 results40 rfl ?_;intro w0 own0 β0 Q hQ hQn;simp only[z1c];refine Zrs [1] ?_;refine Zrs [1,3] ?_;refine z6 ?_;refine sg [1,3,11,12,13] rfl ?_;intro K hK;refine Zo Zl ?_;refine Zo Zl ?_;refine Zc1 (z4x fo ls h fo.ns.length fo.ly.length fo.cb.length 0 rfl rfl rfl) (id) ?_;iterate 2 (refine Zo Zl ?_)
 refine z8 (Zpr (hK _ _ ?_));clear hK K;refine z29 3 96 2 (lkR true 7 (T.take 0)) rfl ?_;dsimp only;refine z2x 98 2 (lkF true (T.take 0)) ?_;dsimp only;refine zb fun Q0 hN0 hX0 hR0 hE0=> ?_;refine zn (σ:=Nat) (fun i=>i<=(z1n fo 0).length) (fun i=>(z1n fo 0).length-i) (fun i=>[(1,.ptr 4 0 0 0),(3,.slc true 6 0 0 (i)),(11,.slc true 5 0 0 (z1n fo 0).length),(12,.int .i64 (z1n fo 0).length),(13,.int .i64 i)]) (fun i=>⟨8,[(6,uQ (.row ⟨true,false,96,2,i,lkR true 7 (T.take (i))⟩)),(7,((i)+1,fam true 98 2 (lkF true (T.take (i))))),(5,uQ (.row ⟨true,false,3,1,(z1n fo 0).length,ints (z1n fo 0)⟩)),(4,uQ (.row ⟨true,true,34,4,1,fun _=>[.slc false 0 0 0 fo.ns.length,.int .i64 fo.ht,.slc false 1 0 0 fo.ly.length,.slc false 3 0 0 fo.cb.length]⟩)),(0,uQ (.row ⟨false,false,62,3,fo.ns.length,nds fo.ns⟩)),(1,uQ (.row ⟨false,false,89,5,fo.ly.length,lyR 2 fo.ly⟩)),(2,(3*fo.ly.length+1,fam false 3 1 (lyF false fo.ly))),(3,uQ (.row ⟨false,false,58,3,fo.cb.length,cbs fo.cb⟩))]⟩) 0 (qo _) (ρ:=id) (Zg id) ?_;rintro i hi QL1 hL1 hRL1 hEL1;refine Zrs [1,3,11,12,13,14] ?_;refine z6 ?_;refine z7 _ rfl ?_ ?_
 ·intro h14;replace h14:=Znb h14;obtain⟨v,hv⟩:∃v,nth (z1n fo 0) i=v:=⟨_,rfl⟩;obtain⟨_,x,hx,hxi,hxm⟩:=presF_mem.1 (show v∈z1n fo 0 by rw[<-hv,z2n (by omega)];exact qN _);have hTi:=hTa i (by omega);rw[hv] at hTi;refine za (z6 (zb fun Q1 hN1 hX1 hR1 hE1=> ?_));refine Zrs [1,3,5,11,12,13] ?_;refine z6 ?_;rw[hv];refine z4p [1,3,5,6,11,12,13] rfl ?_;intro K hK;iterate 5 (refine Zo Zl ?_)
  rw[show(fo.ht+1).toNat=w from by omega];repeat(with_reducible apply qe;exact sdE)
  iterate 3 (refine Zo Zl ?_)
  refine z8 (Zpr (hK _ _ ?_));clear hK K;refine z6 ?_;refine Zrs [1,3,5,6,11,12,13,25,26] ?_;rw[upF_zero fo v];refine zb fun Q2 hN2 hX2 hR2 hE2=> ?_;refine zn (σ:=Nat) (fun q=>q<=w) (fun q=>w-q) (fun q=>[(1,.ptr 4 0 0 0),(3,.slc true 6 0 0 (i)),(11,.slc true 5 0 0 (z1n fo 0).length),(12,.int .i64 (z1n fo 0).length),(13,.int .i64 i),(5,.int .i64 v),(6,.ptr 9 0 0 0),(25,.int .i64 w),(26,.int .i64 q)]) (fun q=>⟨10,[(9,uQ (.row ⟨true,true,96,2,1,fun _=>[.int .i64 v,.slc true 8 0 0 w]⟩)),(8,uQ (.row ⟨true,false,98,2,w,lvs (upF fo v q)⟩)),(6,uQ (.row ⟨true,false,96,2,i,lkR true 7 (T.take (i))⟩)),(7,((i)+1,fam true 98 2 (lkF true (T.take (i))))),(5,uQ (.row ⟨true,false,3,1,(z1n fo 0).length,ints (z1n fo 0)⟩)),(4,uQ (.row ⟨true,true,34,4,1,fun _=>[.slc false 0 0 0 fo.ns.length,.int .i64 fo.ht,.slc false 1 0 0 fo.ly.length,.slc false 3 0 0 fo.cb.length]⟩)),(0,uQ (.row ⟨false,false,62,3,fo.ns.length,nds fo.ns⟩)),(1,uQ (.row ⟨false,false,89,5,fo.ly.length,lyR 2 fo.ly⟩)),(2,(3*fo.ly.length+1,fam false 3 1 (lyF false fo.ly))),(3,uQ (.row ⟨false,false,58,3,fo.cb.length,cbs fo.cb⟩))]⟩) 0 (qo _) (ρ:=id) (Zg id) ?_;rintro q hq QL2 hL2 hRL2 hEL2;refine Zrs [1,3,5,6,11,12,13,25,26,27] ?_;refine z6 ?_;refine z7 _ rfl ?_ ?_
  ·intro h27;replace h27:=Znb h27;obtain⟨a,b,at_⟩:=h.sh.place hx (lv:=q) (by omega) (by omega);have hpI:=at_.pI;have hpK:=at_.pK;rw[hxi] at hpI hpK;have hnb:=h.nbr at_;have hai:=at_.hi;have hce:=at_.cel;refine za (z6 (zb fun Q3 hN3 hX3 hR3 hE3=> ?_));refine Zrs [1,3,5,6,7,11,12,13,25,26] ?_;refine sg [1,3,5,6,7,8,9,11,12,13,25,26] rfl ?_;intro K hK;iterate 3 (refine Zo Zl ?_)
   refine Zo Zl ?_;refine Zc1 (place_spec fo.ly hb fo.ly.length fo.ns.length fo.cb.length rfl fo.ht v q) (id) ?_;rw[hpI,hpK];iterate 5 (refine Zo Zl ?_)
   refine z8 (Zpr (hK _ _ ?_));clear hK K;refine sg [1,3,5,6,7,8,9,11,12,13,25,26,39] rfl ?_;intro K hK;iterate 3 (refine Zo Zl ?_)
   refine Zo Zl ?_;refine Zc1 (member_spec fo.ly hb hlc fo.ly.length fo.ns.length fo.cb.length rfl fo.ht v q) (id) ?_;refine z8 (Zpr (hK _ _ ?_));clear hK K;refine z7 _ rfl ?_ ?_
   ·intro h39;have hnn:nbF fo v q=lnkF (lyA fo.ly a) ((b:Int)+2):=by rw[nbF,qf h39,hpI,hpK,qz]
    refine Zrd [1,3,5,6,11,12,13,25,26] [0,1,2,3,4,5,6,7,8,9,10,11] [[],[],[],[],[],[],[],[],[],[],[],[8]] [[],[],[],[],[],[],[],[],[],[],[],[8]] ?_;intro K hK;iterate 9 (refine Zo (Zi [] []) ?_)
    refine Zo (Zi [] []) ?_;refine Zc1 (linkM_spec fo.ly hb a fo.ly.length hai ((b:Int)+2) (by omega) (by omega) (by rw[show((b:Int)+2).toNat=b+2 from by omega];exact hnb.1) (by rw[show((b:Int)+2).toNat=b+2 from by omega];exact hnb.2)) (fun z=>if z=0 then 2 else z) ?_;refine Zo (Zi [] []) ?_;refine Zo (Zi [8] [8]) ?_;rw[upF_put (a:=(lnkF (lyA fo.ly a) ((b:Int)+2)).1) (b:=(lnkF (lyA fo.ly a) ((b:Int)+2)).2) fo v (show q<fo.ht.toNat+1 by omega) hnn];repeat(with_reducible apply qe;exact sdE)
    refine zx (Zpr (hK _ _ ?_));clear hK K;refine zd (hN3 _ _ ?_);refine Zrg [1,3,5,6,11,12,13,25,26] ?_;refine zd (hL2 _ _ ?_);rw[show(q:Int)+1=((q+1:Nat):Int) from by omega];exact⟨q+1,⟨by omega,by omega⟩,id,(Zg id)⟩
   ·intro h39;have hnn:nbF fo v q=(0,0):=by rw[nbF,qb (by rw[h39];exact qp)]
    refine za (zd (hN3 _ _ ?_));refine Zrg [1,3,5,6,11,12,13,25,26] ?_;refine zd (hL2 _ _ ?_);rw[show(q:Int)+1=((q+1:Nat):Int) from by omega,<-upF_same fo v (show q<fo.ht.toNat+1 by omega) hnn];exact⟨q+1,⟨by omega,by omega⟩,id,(Zg id)⟩
  ·intro h27;replace h27:=Znb h27;have hqe:q=w:=by omega
   subst hqe;refine zm (hEL2 _ _ _ (hX2 _ _ ?_));refine Zrg [1,3,11,12,13] ?_;refine zd (hN1 _ _ ?_);have hlv:(lk T i).lv.length=q:=by rw[hTi];exact(upF_len ..).trans hw
   have hTk:∀z,z<i+1->lk (T.take (i+1)) z=lk T z:=fun z hz=>by rw[lk,lk,qt,qt,Qc,qf hz]
   have hTj:∀z,z<i->lk (T.take i) z=lk T z:=fun z hz=>by rw[lk,lk,qt,qt,Qc,qf hz]
   have hout:∀z,z<i+1->app (lkR true 7 (T.take i)) i (z42 2 1 [SV.int .i64 v,SV.slc true 8 0 0 q]) z=SV.renPL (mvP (fun z=>if z=6 then 11 else z) 7 i 8) (lkR true 7 (T.take (i+1)) z):=fun z hz=>by
    rw[lkR_renP,hTk z hz]
    split
    ·rename_i e;subst e;rw[app,qb (by omega),jm,hlv,hTi];rfl
    ·rw[app,qf (by omega),lkR,hTj z (by omega)];rfl
   refine z4o (fr':=[(1,.ptr 4 0 0 0),(3,.slc true 6 0 0 (i+1)),(11,.slc true 5 0 0 (z1n fo 0).length),(12,.int .i64 (z1n fo 0).length),(13,.int .i64 i)]) (H':=⟨8,[(6,uQ (.row ⟨true,false,96,2,i+1,lkR true 7 (T.take (i+1))⟩)),(7,((i+1)+1,fam true 98 2 (lkF true (T.take (i+1))))),(5,uQ (.row ⟨true,false,3,1,(z1n fo 0).length,ints (z1n fo 0)⟩)),(4,uQ (.row ⟨true,true,34,4,1,fun _=>[.slc false 0 0 0 fo.ns.length,.int .i64 fo.ht,.slc false 1 0 0 fo.ly.length,.slc false 3 0 0 fo.cb.length]⟩)),(0,uQ (.row ⟨false,false,62,3,fo.ns.length,nds fo.ns⟩)),(1,uQ (.row ⟨false,false,89,5,fo.ly.length,lyR 2 fo.ly⟩)),(2,(3*fo.ly.length+1,fam false 3 1 (lyF false fo.ly))),(3,uQ (.row ⟨false,false,58,3,fo.cb.length,cbs fo.cb⟩))]⟩) _ (Zgp (fun z=>if z=6 then 11 else z) (7) (i) (8) (z1g rfl qm (by decide) (zr.of (fun _=>⟨rfl,rfl⟩) rfl (qc _) (hout)) (Obj.lt_row.2 fun q _=>(lkR_lt _ _ _ _ q).2 (qd rfl)) (qd rfl) (z4f rfl rfl qm ⟨fun _=>⟨rfl,rfl⟩,rfl⟩ (jh _) (fun z hz hne=>⟨by omega,lkF_givesP _ _ _ _ _ _ id (by rw[hTk z (by omega),hTj z (by omega)]),lkFm_lt _ _ _ _⟩) (lkF_newP _ _ _ _ _ (by rw[hTk i (by omega)];exact hlv) (fun z _=>by rw[hTk i (by omega),hTi,<-hw])) (lkFm_lt _ _ _ _) (qd rfl) (z1g rfl qm (by decide) (zr.of (fun _=>⟨rfl,rfl⟩) rfl (qc _) (fun q _=>(z2u _ _ q).symm)) (Obj.lt_row.2 fun q _=>z1u _ _ q) (qd rfl) (z1g rfl qm (by decide) (zr.of (fun _=>⟨rfl,rfl⟩) rfl (qc _) (fun _ _=>rfl)) (Obj.lt_row.2 fun q _=>by simp[SV.ltL,SV.lt]) (qd rfl) (z1g rfl qm (by decide) (zr.of (fun h=>(by cases h)) rfl (qc _) (fun q _=>(z33 _ _ q).symm)) (Obj.lt_row.2 fun q _=>z4u _ _ q) (qd rfl) (z1g rfl qm (by decide) (zr.of (fun h=>(by cases h)) rfl (qc _) (fun q _=>(show lyR 2 fo.ly q=SV.renPL _ (lyR 2 fo.ly q) by rw[lyR_renO _ _ _ _ _ _ _ (by decide)];rfl))) (Obj.lt_row.2 fun q _=>(lyR_lt _ _ _ q).2 (qd rfl)) (qd rfl) (z1m.consO rfl (by decide) ⟨fun h=>(by cases h),rfl⟩ (qc _) (fun q _=>⟨lyF_givesP _ _ _ _ _ _ (fun h=>(by cases h)) rfl,z40 _ _ _ _⟩) (qd rfl) (z1g rfl qm (by decide) (zr.of (fun h=>(by cases h)) rfl (qc _) (fun q _=>(cbs_renP _ _ q).symm)) (Obj.lt_row.2 fun q _=>cbs_lt _ _ q) (qd rfl) trivial))))))))) ?_
   refine Zrg [1,3,11,12,13] ?_;refine zd (hL1 _ _ ?_);rw[show(i:Int)+1=((i+1:Nat):Int) from by omega];exact⟨i+1,⟨by omega,by omega⟩,id,(Zg id)⟩
 ·intro h14;replace h14:=Znb h14;have hie:i=T.length:=by omega
  subst hie;rw[QZ];refine zm (hEL1 _ _ _ (hX0 _ _ ?_));refine Zrs [2] ?_;refine ze (hQ _ _ ?_);refine zu (fun z=>if z=4 then 6 else if z=5 then 7 else z) (.slc true 4 0 0 T.length) (⟨6,[(4,uQ (.row ⟨true,false,96,2,T.length,lkR true 5 T⟩)),(5,(T.length+1,fam true 98 2 (lkF true T)))]⟩) (.inl rfl) ?_;refine Zou ?_;refine⟨Zs,Zs,(Zg (fun z=>if z=4 then 6 else if z=5 then 7 else z)),Zs,?_⟩
  all_goals first|trivial|exact⟨rfl,trivial⟩
end
section
def pairN:List Nd:=[⟨1,⟨#[97]⟩,0⟩,⟨2,⟨#[98]⟩,2⟩]
def sanF:Nat->Fo
 |0=>z15 (z15 (z3x pairN [] 2 1) 0 1 1) 1 1 2
 |n+1=>z21 (sanF n) ((n%2:Nat):Int)
theorem san_mk:MkF pairN 2 1:=⟨by kernel_rfl,by decide,by decide,by decide,by decide,by decide⟩
theorem san_e0:z28 (z3x pairN [] 2 1) 0 1 1=0:=by kernel_rfl
theorem san_e1:z28 (z15 (z3x pairN [] 2 1) 0 1 1) 1 1 2=0:=by kernel_rfl
theorem san_100:z2c (sanF 100).cb=0/\(z1n (sanF 100) 1).length=2/\(z3r (sanF 100)).length=2/\(lk (z3r (sanF 100)) 0).lv.length=2/\(pI (lk (z3r (sanF 100)) 0).lv 1).2=2:=⟨by kernel_rfl,by kernel_rfl,by kernel_rfl,by kernel_rfl,by kernel_rfl⟩
theorem FI.next {fo:Fo}{ls:Nat->List Int}(h:FI fo ls)(p:Int):∃ls',FI (z21 fo p) ls':=by
 cases hs:z3w fo p with
 |true=>obtain⟨ls',h',_⟩:=h.step hs (qc _);exact⟨ls',h'⟩
 |false=>exact⟨ls,by rw[z21,h.vf,hs];exact h⟩
theorem stepFR_shape {fo:Fo}(hv:z5t fo=true)(p:Int):(z21 fo p).ns=fo.ns/\(z21 fo p).ht=fo.ht/\(z21 fo p).ly.length=fo.ly.length/\(z21 fo p).cb.length=fo.cb.length:=by
 rw[z21,hv];simp only[Qp,qw,Qo]
 split
 ·split
  ·split
   ·simp
   ·simp[beginL,upL]
  ·simp[upL]
 ·simp
theorem san_FI:∀n,∃ls,FI (sanF n) ls
 |0=>⟨_,((FI_new san_mk []).start san_e0).start san_e1⟩
 |n+1=>by
  obtain⟨ls,h⟩:=san_FI n;exact h.next _
theorem san_shape:∀n,(sanF n).ns=pairN/\(sanF n).ht=1/\(sanF n).ly.length=2/\(sanF n).cb.length=2
 |0=>⟨by kernel_rfl,by kernel_rfl,by kernel_rfl,by kernel_rfl⟩
 |n+1=>by
  obtain⟨ls,h⟩:=san_FI n;obtain⟨a,b,c,d⟩:=stepFR_shape h.vf ((n%2:Nat):Int);obtain⟨a',b',c',d'⟩:=san_shape n;exact⟨a.trans a',b.trans b',c.trans c',d.trans d'⟩
theorem pair_rows:z42 3 2 [SV.int .i64 1,SV.str ⟨#[97]⟩,SV.int .u32 0,SV.int .i64 2,SV.str ⟨#[98]⟩,SV.int .u32 2]=nds pairN:=by
 funext i
 match i with
 |0=>rfl
 |1=>rfl
 |i+2=>rfl
open JnNm (oxE gxE exE)
open D0 (sdE)
theorem pair_spec:zf prog 55 [] ⟨0,[]⟩ (fun s H1=>s= .slc true 0 0 0 2/\H1=⟨1,[(0,uQ (.row ⟨true,false,62,3,2,nds pairN⟩))]⟩):=by
 refine zf.ofC false 4 [.tmp 0] func55 rfl rfl ntmps55 results55 rfl ?_;intro w0 own0 β0 Q hQ hQn;simp only[z1c];refine Zrs [] ?_;refine Zrs [0] ?_;refine ze (hQ _ _ ?_);rw[pair_rows];refine zc (H':=⟨1,[(0,uQ (.row ⟨true,false,62,3,2,nds pairN⟩))]⟩) (.inl rfl) ?_;refine Zou ?_;refine⟨Zs,(Zg id),Zs,?_⟩
 first|trivial|exact⟨rfl,trivial⟩
end
section
def san0:Fo:=z3x pairN [] 2 1
def san1:Fo:=z15 san0 0 1 1
theorem san0_sh:san0.ns=pairN/\san0.ht=1/\san0.ly.length=2/\san0.cb.length=2:=⟨by kernel_rfl,by kernel_rfl,by kernel_rfl,by kernel_rfl⟩
theorem san1_sh:san1.ns=pairN/\san1.ht=1/\san1.ly.length=2/\san1.cb.length=2:=⟨by kernel_rfl,by kernel_rfl,by kernel_rfl,by kernel_rfl⟩
theorem san0_FI:∃ls,FI san0 ls:=⟨_,FI_new san_mk []⟩
theorem san1_FI:∃ls,FI san1 ls:=⟨_,(FI_new san_mk []).start san_e0⟩
theorem New_san : zf prog 16 [.slc false 0 0 0 2, .nils, .int .i64 2, .int .i64 1] ⟨1, [(0, uQ (.row ⟨false, false, 62, 3, 2, nds pairN⟩))]⟩
   (fun s H1=>s= .tup [.agg [.slc true 2 0 0 2,.int .i64 1,.slc true 3 0 0 2,.slc true 5 0 0 2],.int .i64 0]/\H1=⟨6,[(2,uQ (.row ⟨true,false,62,3,2,nds pairN⟩)),(3,uQ (.row ⟨true,false,89,5,2,lyR 4 (san0).ly⟩)),(4,(3*2+1,fam true 3 1 (lyF true (san0).ly))),(5,uQ (.row ⟨true,false,58,3,2,cbs (san0).cb⟩))]⟩):=by
 have h:=New_nil pairN 2 2 1 rfl san_mk.ck (by decide) (by decide) (by decide) (by decide) (by decide);rw[show(z3x pairN [] 2 1).ly.length=2 from san0_sh.2.2.1] at h;exact h
theorem start_san {fo gn:Fo}{p k v:Int}(hf:fo.ns=pairN/\fo.ht=1/\fo.ly.length=2/\fo.cb.length=2)(hI:∃ls,FI fo ls)(hg:z15 fo p k v=gn)(hs:gn.ns=pairN/\gn.ht=1/\gn.ly.length=2/\gn.cb.length=2)(he:z28 fo p k v=0):
  zf prog 25 [.agg [.slc false 0 0 0 2,.int .i64 1,.slc false 1 0 0 2,.slc false 3 0 0 2],.int .i64 p,.int .i64 k,.int .i64 v] ⟨4,[(0,uQ (.row ⟨false,false,62,3,2,nds pairN⟩)),(1,uQ (.row ⟨false,false,89,5,2,lyR 2 (fo).ly⟩)),(2,(3*2+1,fam false 3 1 (lyF false (fo).ly))),(3,uQ (.row ⟨false,false,58,3,2,cbs (fo).cb⟩))]⟩
   (fun s H1=>s= .tup [.agg [.slc true 4 0 0 2,.int .i64 1,.slc true 5 0 0 2,.slc true 7 0 0 2],.int .i64 0]/\H1=⟨8,[(4,uQ (.row ⟨true,false,62,3,2,nds pairN⟩)),(5,uQ (.row ⟨true,false,89,5,2,lyR 6 (gn).ly⟩)),(6,(3*2+1,fam true 3 1 (lyF true (gn).ly))),(7,uQ (.row ⟨true,false,58,3,2,cbs (gn).cb⟩))]⟩):=by
 obtain⟨ls,h⟩:=hI;have g:=z4a fo ls h 2 2 2 p k v (by rw[hf.1];rfl) hf.2.2.1 hf.2.2.2;rw[hg,he,hf.1,hf.2.1,hs.1,hs.2.1,hs.2.2.1,hs.2.2.2] at g;exact g
theorem step_san (i:Nat):
  zf prog 27 [.agg [.slc false 0 0 0 2,.int .i64 1,.slc false 1 0 0 2,.slc false 3 0 0 2],.int .i64 ((i%2:Nat):Int)] ⟨4,[(0,uQ (.row ⟨false,false,62,3,2,nds pairN⟩)),(1,uQ (.row ⟨false,false,89,5,2,lyR 2 (sanF i).ly⟩)),(2,(3*2+1,fam false 3 1 (lyF false (sanF i).ly))),(3,uQ (.row ⟨false,false,58,3,2,cbs (sanF i).cb⟩))]⟩
   (fun s H1=>s= .tup [.agg [.slc true 4 0 0 2,.int .i64 1,.slc true 5 0 0 2,.slc true 7 0 0 2],.bool (z3w (sanF i) ((i%2:Nat):Int))]/\H1=⟨8,[(4,uQ (.row ⟨true,false,62,3,2,nds pairN⟩)),(5,uQ (.row ⟨true,false,89,5,2,lyR 6 (sanF (i+1)).ly⟩)),(6,(3*2+1,fam true 3 1 (lyF true (sanF (i+1)).ly))),(7,uQ (.row ⟨true,false,58,3,2,cbs (sanF (i+1)).cb⟩))]⟩):=by
 obtain⟨ls,h⟩:=san_FI i;have hf:=san_shape i;have g:=Step_spec (sanF i) ls h 2 2 2 ((i%2:Nat):Int) (by rw[hf.1];rfl) hf.2.2.1 hf.2.2.2;rw[hf.1,hf.2.1] at g;exact g
theorem links_san : zf prog 40 [.agg [.slc false 0 0 0 2, .int .i64 1, .slc false 1 0 0 2, .slc false 3 0 0 2]] ⟨4, [(0, uQ (.row ⟨false, false, 62, 3, 2, nds pairN⟩)), (1, uQ (.row ⟨false, false, 89, 5, 2, lyR 2 (sanF 100).ly⟩)), (2, (3 * 2 + 1, fam false 3 1 (lyF false (sanF 100).ly))), (3, uQ (.row ⟨false, false, 58, 3, 2, cbs (sanF 100).cb⟩))]⟩
   (fun s H1=>s= .slc true 4 0 0 2/\H1=⟨6,[(4,uQ (.row ⟨true,false,96,2,2,lkR true 5 (z3r (sanF 100))⟩)),(5,(2+1,fam true 98 2 (lkF true (z3r (sanF 100)))))]⟩):=by
 obtain⟨ls,h⟩:=san_FI 100;have hf:=san_shape 100;have g:=Links_spec (sanF 100) ls h 2 2 2 (by rw[hf.1];rfl) hf.2.2.1 hf.2.2.2;rw[hf.1,hf.2.1,san_100.2.2.1] at g;exact g
theorem present_san : zf prog 33 [.agg [.slc false 0 0 0 2, .int .i64 1, .slc false 1 0 0 2, .slc false 3 0 0 2], .int .i64 1] ⟨4, [(0, uQ (.row ⟨false, false, 62, 3, 2, nds pairN⟩)), (1, uQ (.row ⟨false, false, 89, 5, 2, lyR 2 (sanF 100).ly⟩)), (2, (3 * 2 + 1, fam false 3 1 (lyF false (sanF 100).ly))), (3, uQ (.row ⟨false, false, 58, 3, 2, cbs (sanF 100).cb⟩))]⟩
   (fun s H1=>s= .slc true 4 0 0 2/\H1=⟨5,[(4,uQ (.row ⟨true,false,3,1,2,ints (z1n (sanF 100) 1)⟩))]⟩):=by
 obtain⟨ls,h⟩:=san_FI 100;have hf:=san_shape 100;have g:=z4x (sanF 100) ls h 2 2 2 1 (by rw[hf.1];rfl) hf.2.2.1 hf.2.2.2;rw[hf.1,hf.2.1,san_100.2.1] at g;exact g
theorem check_san:zf prog 32 [.agg [.slc false 0 0 0 2,.int .i64 1,.slc false 1 0 0 2,.slc false 3 0 0 2]] ⟨4,[(0,uQ (.row ⟨false,false,62,3,2,nds pairN⟩)),(1,uQ (.row ⟨false,false,89,5,2,lyR 2 (sanF 100).ly⟩)),(2,(3*2+1,fam false 3 1 (lyF false (sanF 100).ly))),(3,uQ (.row ⟨false,false,58,3,2,cbs (sanF 100).cb⟩))]⟩ (fun s H1=>s= .bool true/\H1=⟨4,[]⟩):=by
 obtain⟨ls,h⟩:=san_FI 100;have hf:=san_shape 100;have g:=Check_spec (sanF 100) ls h 2 2 2 (by rw[hf.1];rfl) hf.2.2.1 hf.2.2.2;rw[hf.1,hf.2.1] at g;exact g
theorem san_bound:boundF (sanF 100)=0:=by rw[boundF,san_100.1];simp
theorem bound_san:zf prog 35 [.agg [.slc false 0 0 0 2,.int .i64 1,.slc false 1 0 0 2,.slc false 3 0 0 2]] ⟨4,[(0,uQ (.row ⟨false,false,62,3,2,nds pairN⟩)),(1,uQ (.row ⟨false,false,89,5,2,lyR 2 (sanF 100).ly⟩)),(2,(3*2+1,fam false 3 1 (lyF false (sanF 100).ly))),(3,uQ (.row ⟨false,false,58,3,2,cbs (sanF 100).cb⟩))]⟩ (fun s H1=>s= .int .i64 0/\H1=⟨4,[]⟩):=by
 obtain⟨ls,h⟩:=san_FI 100;have hf:=san_shape 100;have g:=Bound_spec (sanF 100) ls h 2 2 2 (by rw[hf.1];rfl) hf.2.2.1 hf.2.2.2;rw[hf.1,hf.2.1,san_bound] at g;exact g
end
section
theorem san_s0:z15 san1 1 1 2=sanF 0:=rfl
attribute [local irreducible] sanF
open JoFm (gxE axE exE)
open JnNm (oxE)
open D0 (sdE)
theorem sane13_spec:zf prog 19 [] ⟨0,[]⟩ (fun s H1=>s= .bool true/\H1=⟨0,[]⟩):=by
 refine zf.ofC false 83 [.tmp 0] func19 rfl rfl ntmps19 results19 rfl ?_;intro w0 own0 β0 Q hQ hQn;simp only[z1c];refine Zrs [] ?_;refine sg [1,2] rfl ?_;intro K hK;refine Zo Zl ?_;refine Zc1 (pair_spec) (id) ?_;refine Zo Zl ?_;refine Zc1 (New_san) (id) ?_;iterate 6 (refine Zo Zl ?_)
 refine z8 (Zpr (hK _ _ ?_));clear hK K;refine z6 ?_;refine Zrs [1,17] ?_;refine z7 _ rfl ?_ ?_
 ·intro h17
  exfalso;simp at h17
 ·intro h17
  refine za ?_;refine sg [1,2] rfl ?_;intro K hK;refine Zo Zl ?_;refine Zo Zl ?_;refine Zc1 (start_san (gn:=san1) san0_sh san0_FI rfl san1_sh san_e0) (fun q=>q+2) ?_;iterate 5 (refine Zo Zl ?_)
  refine z8 (Zpr (hK _ _ ?_));clear hK K;refine z6 ?_;refine Zrs [1,24] ?_;refine z7 _ rfl ?_ ?_
  ·intro h24
   exfalso;simp at h24
  ·intro h24
   refine za ?_;refine sg [1,2] rfl ?_;intro K hK;refine Zo Zl ?_;refine Zo Zl ?_;refine Zc1 (start_san (gn:=sanF 0) san1_sh san1_FI san_s0 (san_shape 0) san_e1) (fun q=>q+7) ?_;iterate 5 (refine Zo Zl ?_)
   refine z8 (Zpr (hK _ _ ?_));clear hK K;refine z6 ?_;refine Zrs [1,2,3] ?_;refine zb fun Q0 hN0 hX0 hR0 hE0=> ?_;refine zn (σ:=Nat) (fun i=>i<=100) (fun i=>100-i) (fun i=>[(1,.ptr 6 0 0 0),(2,.int .i64 0),(3,.int .i64 i)]) (fun i=>⟨11,[(6,uQ (.row ⟨true,true,34,4,1,fun _=>[.slc true 7 0 0 2,.int .i64 1,.slc true 8 0 0 2,.slc true 10 0 0 2]⟩)),(7,uQ (.row ⟨true,false,62,3,2,nds pairN⟩)),(8,uQ (.row ⟨true,false,89,5,2,lyR 9 (sanF i).ly⟩)),(9,(3*2+1,fam true 3 1 (lyF true (sanF i).ly))),(10,uQ (.row ⟨true,false,58,3,2,cbs (sanF i).cb⟩))]⟩) 0 (qo _) (ρ:=fun q=>if q=6 then 6 else q+4) (Zg (fun q=>if q=6 then 6 else q+4)) ?_;rintro i hi QL1 hL1 hRL1 hEL1;refine z6 ?_;refine Zrs [1,2,3,35] ?_;refine z7 _ rfl ?_ ?_
   ·intro h35;replace h35:=Znb h35;refine za (z6 (zb fun Q1 hN1 hX1 hR1 hE1=> ?_));refine z4p [1,2,3] rfl ?_;intro K hK;iterate 3 (refine Zo Zl ?_)
    refine Zo Zl ?_;rw[show Int.tmod (i:Int) 2=((i%2:Nat):Int) from by rw[Jr (by omega)];omega];refine Zc1 (step_san i) (fun q=>q+7) ?_;iterate 4 (refine Zo Zl ?_)
    refine z8 (Zpr (hK _ _ ?_));clear hK K;refine zd (hN1 _ _ ?_);refine Zrg [1,2,3] ?_;refine zd (hL1 _ _ ?_);rw[show(i:Int)+1=((i+1:Nat):Int) from by omega];exact⟨i+1,⟨by omega,by omega⟩,fun q=>if q=6 then 6 else q+4,(Zg (fun q=>if q=6 then 6 else q+4))⟩
   ·intro h35;replace h35:=Znb h35;have hie:i=100:=by omega
    subst hie;refine zm (hEL1 _ _ _ (hX0 _ _ ?_));refine sg [1,4] rfl ?_;intro K hK;refine Zo Zl ?_;refine Zo Zl ?_;refine Zc1 (links_san) (fun q=>q+7) ?_;have hl0:=san_100.2.2.2.1;have hl1:=san_100.2.2.2.2;refine Zo Zl ?_;refine z8 (Zpr (hK _ _ ?_));clear hK K;refine sg [0] rfl ?_;intro K hK;refine Zo Zl ?_;refine Zo Zl ?_;refine Zc1 (present_san) (fun q=>q+7) ?_;iterate 25 (refine Zo Zl ?_)
    first
    |rw[show((((2:Nat):Int)==2) && (((2:Nat):Int)==2) && ((((lk (z3r (sanF 100)) 0).lv.length:Nat):Int)==2) && ((pI (lk (z3r (sanF 100)) 0).lv 1).2==2))=true from by rw[hl0,hl1];rfl]
    |rw[show((((2:Nat):Int)==2) && ((((lk (z3r (sanF 100)) 0).lv.length:Nat):Int)==2) && ((pI (lk (z3r (sanF 100)) 0).lv 1).2==2))=true from by rw[hl0,hl1];rfl]
    repeat(with_reducible apply qe;exact sdE)
    iterate 2 (refine Zo Zl ?_)
    refine z11 ?_;refine z1w rfl rfl ?_;refine Zgr ?_;refine⟨fun _=> ?_,fun h=>(by cases h)⟩;refine Zo id ?_;refine Zc1 (check_san) (fun q=>q+7) ?_;iterate 3 (refine Zo Zl ?_)
    refine z11 ?_;refine z1w rfl rfl ?_;refine Zgr ?_;refine⟨fun _=> ?_,fun h=>(by cases h)⟩;refine Zo id ?_;refine Zc1 (bound_san) (fun q=>q+7) ?_;iterate 3 (refine Zo Zl ?_)
    refine z8 (Zpr (hK _ _ ?_));clear hK K;refine ze (hQ _ _ ?_);refine zc (H':=⟨0,[]⟩) (.inl rfl) ?_;refine Zou ?_;refine⟨Zs,(Zg id),Zs,?_⟩
    first|trivial|exact⟨rfl,trivial⟩
end
section
def JoMm.exE:=aj9 @zg @zh @zi @zo @zl z5u @zp z47 (aj6 z4n ec28 ec22 @z2h ec23 ec24)
def JoMm.gxE:=aj6 z47 ec16 z4n ec25 ec26 ec29
def JoMm.axE:=aj9 @zg @zh @zi @zo @zl z5u @zp z47 (aj8 z4n ec28 ec22 @z2h ec24 @z2e @z3z ec27)
open JoMm (gxE axE exE)
open D0 (oxE sdE)
theorem refClasses_spec (xs:List Nd)(n:Nat)(hn:xs.length=n)(lv:Int)(hx:n<=1000000):
  zf prog 130 [.slc false 0 0 0 n,.int .i64 lv] ⟨1,[(0,uQ (.row ⟨false,false,62,3,n,nds xs⟩))]⟩
   (fun s H1=>s= .slc true 1 0 0 (z4l xs lv).length/\H1=⟨3,[(1,uQ (.row ⟨true,false,23,1,(z4l xs lv).length,clR true 2 (z4l xs lv)⟩)),(2,((z4l xs lv).length+1,fam true 62 3 (clF true (z4l xs lv))))]⟩):=by
 subst hn;refine zf.ofC false 62 [.tmp 4] func130 rfl rfl ntmps130 results130 rfl ?_;intro w0 own0 β0 Q hQ hQn;simp only[z1c];refine Zrs [0,1] ?_;refine Zrs [0,1,5] ?_;refine z6 ?_;refine Zrs [0,1,5,6] ?_;refine z29 5 23 1 (clR true 2 []) rfl ?_;dsimp only;refine z2x 62 3 (clF true []) ?_;dsimp only;refine zb fun Q0 hN0 hX0 hR0 hE0=> ?_;refine zn (σ:=Nat) (fun i=>i<=xs.length/\(16<lv->i=0)) (fun i=>xs.length-i) (fun i=>[(0,.slc false 0 0 0 xs.length),(1,.int .i64 lv),(5,.slc true 1 0 0 (clsG lv (xs.take i) []).length),(6,.int .i64 i)]) (fun i=>⟨3,[(1,uQ (.row ⟨true,false,23,1,(clsG lv (xs.take i) []).length,clR true 2 (clsG lv (xs.take i) [])⟩)),(2,((clsG lv (xs.take i) []).length+1,fam true 62 3 (clF true (clsG lv (xs.take i) [])))),(0,uQ (.row ⟨false,false,62,3,xs.length,nds xs⟩))]⟩) 0 ⟨qo _,fun _=>rfl⟩ (ρ:=id) (have xE:=@clsG.eq_1;Zgx id) ?_;rintro i hi QL1 hL1 hRL1 hEL1;refine z6 ?_;refine Zrs [0,1,5,6,15] ?_;refine z7 _ rfl ?_ ?_
 ·intro h15;replace h15:=Znb h15;obtain⟨hi,hi0⟩:=hi;have hi15:i<xs.length/\lv<=16:=by simp at h15;omega
  have hok:=clsG_ok (by omega:lv<=16) (xs.take i) (s:=[]) (cs:=[]) ⟨fun c h=>(by cases h),fun c h=>(by cases h),JH⟩ fun y h=>(by cases h);obtain⟨cs,hcs⟩:∃cs,clsG lv (xs.take i) []=cs:=⟨_,rfl⟩;rw[hcs] at hok ⊢;have hne:∀k,k<cs.length->cnd cs k≠[]:=fun k hk=>by rw[cnd_lt hk];exact hok.1.ne _ (qN hk)
  have hcl:cs.length<=i:=clsG_len lv xs hi hcs;refine za (z6 (zb fun Q1 hN1 hX1 hR1 hE1=> ?_));refine Zrs [0,1,5,6,7] ?_;refine z6 (zb fun Q2 hN2 hX2 hR2 hE2=> ?_);refine zn (σ:=Nat) (fun k=>k<=cs.length/\∀q,q<k->z41 (hdN (cnd cs q)).word (nd xs i).word lv=false) (fun k=>cs.length-k) (fun k=>[(0,.slc false 0 0 0 xs.length),(1,.int .i64 lv),(5,.slc true 1 0 0 cs.length),(6,.int .i64 i),(7,.int .i64 k)]) (fun k=>⟨3,[(1,uQ (.row ⟨true,false,23,1,cs.length,clR true 2 cs⟩)),(2,(cs.length+1,fam true 62 3 (clF true cs))),(0,uQ (.row ⟨false,false,62,3,xs.length,nds xs⟩))]⟩) 0 ⟨qo _,fun q h=>absurd h (qR _)⟩ (ρ:=id) (Zg id) ?_;rintro k hk QL2 hL2 hRL2 hEL2;obtain⟨hk1,hk2⟩:=hk;have hcn:k<cs.length->0<(cnd cs k).length:=fun g=>J2.2 (hne k g);refine z6 (z6 ?_);refine Zrd [0,1,5,6,7,38] [0,1,2,3,4,5,6,7,8,9,10,11,12,13,14,15,16,17,18,19,20] [[],[],[],[],[],[],[],[],[],[],[],[],[],[],[],[],[],[],[],[],[]] [[],[],[],[],[],[],[],[],[],[],[],[],[],[],[],[],[],[],[],[],[]] ?_;intro K hK
  have hk6:∀B:Bool,(B=true->k<cs.length/\z41 (hdN (cnd cs k)).word (nd xs i).word lv=false)->(B=false->k=cs.length\/k<cs.length/\z41 (hdN (cnd cs k)).word (nd xs i).word lv=true)->K [(0,.slc false 0 0 0 xs.length),(1,.int .i64 lv),(5,.slc true 1 0 0 cs.length),(6,.int .i64 i),(7,.int .i64 k),(38,.bool B)] ⟨3,[(1,uQ (.row ⟨true,false,23,1,cs.length,clR true 2 cs⟩)),(2,(cs.length+1,fam true 62 3 (clF true cs))),(0,uQ (.row ⟨false,false,62,3,xs.length,nds xs⟩))]⟩:=by
   intro B hB1 hB2;refine hK _ _ ?_;clear hK K;refine z7 _ rfl ?_ ?_
   ·intro h38;obtain⟨hB3,hB4⟩:=hB1 h38;refine za (zb fun Q3 hN3 hX3 hR3 hE3=> ?_);refine Zrg [0,1,5,6,7] ?_;refine zd (hN3 _ _ (zd (hL2 _ _ ?_)));rw[show(k:Int)+1=((k+1:Nat):Int) from by omega];refine⟨k+1,⟨⟨by omega,fun q hq=> ?_⟩,by omega⟩,id,(Zg id)⟩
    by_cases e:q=k
    ·subst e;exact hB4
    ·exact hk2 q (by omega)
   ·intro h38;have hB3:=hB2 h38;refine zm (hEL2 _ _ _ (hX2 _ _ (z6 ?_)));refine Zrs [0,1,5,6,7,44] ?_;refine z7 _ rfl ?_ ?_
    ·intro h44;replace h44:=Znb h44;have hkl:k=cs.length:=by omega
     subst hkl;refine Zrg [0,1,5,6,7] ?_;refine Zrd [0,1,5,6] [0,1,2,3,4,5,6,7,8,9,10,11,12,13] [[],[],[],[],[],[],[],[],[],[],[],[],[],[4]] [[],[],[],[],[],[],[],[],[],[],[],[],[],[4]] ?_;intro K hK;iterate 13 (refine Zo (Zi [] []) ?_)
     refine Zo (Zi [4] [4]) ?_;refine zx (Zpr (hK _ _ ?_));clear hK K;refine zd (hN1 _ _ ?_)
     have hout:∀q,q<cs.length+1->(if q=cs.length then [SV.slc true 6 0 0 1] else app (clR true 2 cs) cs.length (z42 1 1 [SV.nils]) q)=SV.renPL (mvP (fun q=>if q=1 then 4 else q) 2 cs.length 6) (clR true 2 (cs++[[nd xs i]]) q):=fun q hq=>by
      rw[clR_renP]
      split
      ·rename_i e;subst e;rw[cnd_last];rfl
      ·rw[cnd_append (by omega),app,qf (by omega)];rfl
     refine z4o (fr':=[(0,.slc false 0 0 0 xs.length),(1,.int .i64 lv),(5,.slc true 1 0 0 (cs.length+1)),(6,.int .i64 i)]) (H':=⟨3,[(1,uQ (.row ⟨true,false,23,1,cs.length+1,clR true 2 (cs++[[nd xs i]])⟩)),(2,(cs.length+1+1,fam true 62 3 (clF true (cs++[[nd xs i]])))),(0,uQ (.row ⟨false,false,62,3,xs.length,nds xs⟩))]⟩) _ (Zgp (fun q=>if q=1 then 4 else q) (2) (cs.length) (6) (z1g rfl qm (by decide) (zr.of (fun _=>⟨rfl,rfl⟩) rfl (qc _) hout) (Obj.lt_row.2 fun q _=>(clR_lt _ _ _ _ q).2 (qd rfl)) (qd rfl) (z4f rfl rfl qm ⟨fun _=>⟨rfl,rfl⟩,rfl⟩ (jh _) (fun q hq hne=>⟨by omega,clF_givesP _ _ _ _ _ _ id (cnd_append (by omega)),clFm_lt _ _ _ _⟩) (clF_newP _ _ _ _ _ rfl (cnd_last _ _)) (clFm_lt _ _ _ _) (qd rfl) (z1g rfl qm (by decide) (zr.of (fun h=>by cases h) rfl (qc _) fun q _=>(z33 _ _ q).symm) (Obj.lt_row.2 fun q _=>z4u _ _ q) (qd rfl) trivial)))) ?_;refine Zrg [0,1,5,6] ?_;refine zd (hL1 _ _ ?_);have hstep:clsG lv (xs.take (i+1)) []=cs++[[nd xs i]]:=by rw[take_nd (by omega),clsG_snoc,hcs,insC_new hk2]
     rw[show(i:Int)+1=((i+1:Nat):Int) from by omega];refine⟨i+1,⟨⟨by omega,by omega⟩,by omega⟩,id,?_⟩;simp only[hstep,Qn,QC];exact(Zg id)
    ·intro h44;replace h44:=Znb h44
     obtain⟨hkl,hsm⟩:k<cs.length/\z41 (hdN (cnd cs k)).word (nd xs i).word lv=true:=by
      rcases hB3 with g|g
      ·omega
      ·exact g
     have hml:(cnd cs k).length<=i:=by
      have h1:=hok.1.eq (cnd cs k) (by rw[cnd_lt hkl];exact qN hkl);have h2:(grpW ([]++xs.take i) lv (hdN (cnd cs k)).word).length<=([]++xs.take i).length:=jF ..;rw[<-h1] at h2;simp at h2;omega
     refine za ?_;refine Zrd [0,1,5,6] [0,1,2,3,4,5,6,7,8,9,10,11,12,13] [[],[],[],[],[],[],[],[],[],[],[],[2],[],[1]] [[2],[2],[],[],[],[],[],[],[],[],[],[2],[2],[1,2]] ?_;intro K hK;iterate 2 (refine Zo (Zi [] [2]) ?_)
     iterate 9 (refine Zo (Zi [] []) ?_)
     refine Zo (Zi [2] [2]) ?_;refine Zo (Zi [] [2]) ?_;refine Zo (Zi [1] [1,2]) ?_;refine zx (Zpr (hK _ _ ?_));clear hK K;refine zd (hN1 _ _ ?_)
     have hout:∀q,q<cs.length->(if q=k then [SV.slc true 4 0 0 ((cnd cs k).length+1)] else clR true 2 cs q)=SV.renPL (mvP id 2 k 4) (clR true 2 (cs.set k (cnd cs k++[nd xs i])) q):=fun q hq=>by
      rw[clR_renP,cnd_set _ _ _ _ hkl]
      split
      ·simp
      ·rfl
     refine z4o (fr':=[(0,.slc false 0 0 0 xs.length),(1,.int .i64 lv),(5,.slc true 1 0 0 cs.length),(6,.int .i64 i)]) (H':=⟨3,[(1,uQ (.row ⟨true,false,23,1,cs.length,clR true 2 (cs.set k (cnd cs k++[nd xs i]))⟩)),(2,(cs.length+1,fam true 62 3 (clF true (cs.set k (cnd cs k++[nd xs i]))))),(0,uQ (.row ⟨false,false,62,3,xs.length,nds xs⟩))]⟩) _ (Zgp (id) (2) (k) (4) (z1g rfl qm (by decide) (zr.of (fun _=>⟨rfl,rfl⟩) rfl (qc _) hout) (Obj.lt_row.2 fun q _=>(clR_lt _ _ _ _ q).2 (qd rfl)) (qd rfl) (z4f rfl rfl qm ⟨fun _=>⟨rfl,rfl⟩,rfl⟩ (jh _) (fun q hq hne=>⟨by omega,by rw[qb hne];exact clF_givesP _ _ _ _ _ _ id (by rw[cnd_set _ _ _ _ hkl,qb hne]),clFm_lt _ _ _ _⟩) (clF_newP _ _ _ _ _ (by simp) (by rw[cnd_set _ _ _ _ hkl,qf rfl])) (clFm_lt _ _ _ _) (qd rfl) (z1g rfl qm (by decide) (zr.of (fun h=>by cases h) rfl (qc _) fun q _=>(z33 _ _ q).symm) (Obj.lt_row.2 fun q _=>z4u _ _ q) (qd rfl) trivial)))) ?_;refine Zrg [0,1,5,6] ?_;refine zd (hL1 _ _ ?_);have hstep:clsG lv (xs.take (i+1)) []=cs.set k (cnd cs k++[nd xs i]):=by rw[take_nd (by omega),clsG_snoc,hcs,insC_old hkl hsm hk2]
     rw[show(i:Int)+1=((i+1:Nat):Int) from by omega];refine⟨i+1,⟨⟨by omega,by omega⟩,by omega⟩,id,?_⟩;simp only[hstep,qD];exact(Zg id)
  iterate 18 (refine Zo (Zi [] []) ?_)
  refine runI_cons _ [] [] rfl rfl rfl ?_;refine z1w rfl rfl ?_;refine Zgr ?_;refine z1r ?_ ?_
  ·intro hg18
   first
    |(simp at hg18;done)
    |skip
     try replace hg18:=Znb hg18
     refine Zo id ?_;refine Zc1 (refSame_w_spec (nd (cnd cs k) 0).word (nd xs i).word lv) (id) ?_;iterate 2 (refine Zo (Zi [] []) ?_)
     refine zx ?_;refine Zpr ?_;refine hk6 _ (fun g=> ?_) (fun g=> ?_)
     ·rw[qh,qj,qk] at g;exact⟨by omega,g.2⟩
     ·rw[qL hg18,qV,qq] at g;exact .inr ⟨by omega,g⟩
  ·intro hg18;refine⟨.bool false,?_⟩
   first
    |(simp at hg18;done)
    |skip
     try replace hg18:=Znb hg18
     iterate 2 (refine Zo (Zi [] []) ?_)
     refine zx ?_;refine Zpr ?_;refine hk6 _ (fun g=> ?_) (fun g=> ?_)
     ·rw[qj] at g;omega
     ·exact .inl (by omega)
 ·intro h15;obtain⟨hi,hi0⟩:=hi;have hi15:¬(i<xs.length/\lv<=16):=by simp at h15;omega
  refine zm (hEL1 _ _ _ (hX0 _ _ ?_));refine Zrs [4] ?_;refine ze (hQ _ _ ?_)
  have he:clsG lv (xs.take i) []=z4l xs lv:=by
   by_cases h16:16<lv
   ·rw[hi0 h16,z4l,qf h16];rfl
   ·rw[Qt (by omega),z4l,qb (by omega)]
  rw[he];refine zu (id) (.slc true 1 0 0 (z4l xs lv).length) (⟨3,[(1,uQ (.row ⟨true,false,23,1,(z4l xs lv).length,clR true 2 (z4l xs lv)⟩)),(2,((z4l xs lv).length+1,fam true 62 3 (clF true (z4l xs lv))))]⟩) (.inl rfl) ?_;refine Zou ?_;refine⟨Zs,Zs,(Zg (id)),Zs,?_⟩
  all_goals first|trivial|exact⟨rfl,trivial⟩
theorem refClasses6_spec (xs:List Nd)(n:Nat)(hn:xs.length=n)(lv:Int)(hx:n<=1000000):
  zf prog 92 [.slc false 0 0 0 n,.int .i64 lv] ⟨1,[(0,uQ (.row ⟨false,false,62,3,n,nds xs⟩))]⟩
   (fun s H1=>s= .slc true 1 0 0 (z4l (z43 xs) lv).length/\H1=⟨3,[(1,uQ (.row ⟨true,false,23,1,(z4l (z43 xs) lv).length,clR true 2 (z4l (z43 xs) lv)⟩)),(2,((z4l (z43 xs) lv).length+1,fam true 62 3 (clF true (z4l (z43 xs) lv))))]⟩):=by
 subst hn;have hsl:(z43 xs).length=xs.length:=srtN_length xs;refine zf.ofC false 9 [.tmp 4] func92 rfl rfl ntmps92 results92 rfl ?_;intro w0 own0 β0 Q hQ hQn;simp only[z1c];refine Zrs [0,1] ?_;refine sg [4] rfl ?_;intro K hK;refine Zo Zl ?_;refine Zo Zl ?_;refine Zc1 (refSort_spec xs xs.length rfl hx) (id) ?_;refine Zo Zl ?_;refine Zo Zl ?_;refine Zc1 (refClasses_spec (z43 xs) xs.length hsl lv hx) (fun _=>1) ?_;refine Zo Zl ?_;refine z8 (Zpr (hK _ _ ?_));clear hK K;refine ze (hQ _ _ ?_);refine zu (fun q=>if q=1 then 2 else if q=2 then 3 else q) (.slc true 1 0 0 (z4l (z43 xs) lv).length) (⟨3,[(1,uQ (.row ⟨true,false,23,1,(z4l (z43 xs) lv).length,clR true 2 (z4l (z43 xs) lv)⟩)),(2,((z4l (z43 xs) lv).length+1,fam true 62 3 (clF true (z4l (z43 xs) lv))))]⟩) (.inl rfl) ?_;refine Zou ?_;refine⟨Zs,Zs,(Zg (fun q=>if q=1 then 2 else if q=2 then 3 else q)),Zs,?_⟩
 all_goals first|trivial|exact⟨rfl,trivial⟩
end
section
theorem put_Bn (l:List Cl)(c:Nat)(b:Bool)(h:c<l.length):(fun i=>if i=c then [SV.str (cl l c).key,.int .i64 (cl l c).left,.int .i64 (cl l c).right,.int .i64 (cl l c).lock,.bool b] else [SV.str (cl l i).key,.int .i64 (cl l i).left,.int .i64 (cl l i).right,.int .i64 (cl l i).lock,.bool (cl l i).gone])=z30 (setB l c b):=cls_put' l c {cl l c with gone:=b} h
def LlZm.exE:=aj9 @zg @zh @zq @zk ec1 ec2 @zi @zy (aj9 @zz ec9 ec3 ec4 ec10 @z19.eq_1 @z12.eq_1 ec39 (aj ec40 @ints.eq_1))
def LlZm.axE:=aj9 @zg @zh @zq @zk ec1 ec2 @zi @zy (aj9 @zz ec9 ec3 ec4 ec10 @z19.eq_1 @z12.eq_1 ec39 (aj7 ec40 @z1v @z2t @pAt_ren @renL_ite ec43 @z34))
open LlWm (gxE)
open LlZm (axE exE)
open LlBm (oxE)
open D0 (sdE)
theorem refNew_spec (keys:List ByteArray)(inn:List Bool)(n m:Nat)(hn:keys.length=n)(hi:inn.length=n)(hn12:n<=64)(hm1:1<=m)(hm8:m<=8)(hk:∀i,i<n->okKey (kAt keys i)=true)(hd:keys.Nodup):
  zf prog 93 [.slc false 0 0 0 n,.slc false 1 0 0 n,.int .i64 m] ⟨2,[(0,inStr keys),(1,inBo inn)]⟩
   (fun s H1=>s= .tup [lsS (newK keys inn n,List.replicate m noPr),.int .i64 0]/\H1=lsH (newK keys inn n,List.replicate m noPr)):=by
 subst hn;have hcl:(lnk (celO keys keys.length) 0 (ordN keys inn keys.length)).length=keys.length+2:=by rw[lnk_length,celO_len]
 have hzl:(ordZ keys inn keys.length).length<=keys.length+2:=by
  have:=ordR_pos keys inn keys.length;rw[<-ordZ_of,Qn,QC];omega
 generalize hL:lnk (celO keys keys.length) 0 (ordN keys inn keys.length)=L at*
 refine zf.ofC false 65 [.cell 6 85,.tmp 7] func93 rfl rfl ntmps93 results93 rfl ?_;intro w0 own0 β0 Q hQ hQn;simp only[z1c];refine Zrs [0,1,2,6] ?_;refine z6 ?_;refine sg [0,1,2,6,8] rfl ?_;intro K hK;iterate 3 (refine Zo Zl ?_)
 refine Zo Zl ?_;refine Zc1 (newError_spec keys inn keys.length m rfl hi hn12 hm1 hm8 hk hd) (id) ?_;refine Zo Zl ?_;refine z8 (Zpr (hK _ _ ?_));clear hK K;refine Zrs [0,1,2,6,8,18] ?_;refine z7 _ rfl ?_ ?_
 ·intro h18
  exfalso;simp at h18
 ·intro h18
  refine za ?_;refine sg [0,1,2,6,9,10] rfl ?_;intro K hK;iterate 2 (refine Zo Zl ?_)
  refine Zo Zl ?_;have h:=chained_spec keys inn keys.length rfl hi hn12;rw[hL] at h;refine Zc1 (h) (id) ?_;iterate 5 (refine Zo Zl ?_)
  refine z8 (Zpr (hK _ _ ?_));clear hK K;refine z6 ?_;refine Zrs [0,1,2,6,9,10,11] ?_;refine zb fun Q0 hN0 hX0 hR0 hE0=> ?_;refine zn (σ:=Nat) (fun i=>i<=keys.length) (fun i=>keys.length-i) (fun i=>[(0,.slc false 0 0 0 keys.length),(1,.slc false 1 0 0 keys.length),(2,.int .i64 m),(6,.ptr 2 0 0 0),(9,.slc true 3 0 0 (keys.length+2)),(10,.slc true 4 0 0 (ordZ keys inn keys.length).length),(11,.int .i64 i)]) (fun i=>⟨5,[(4,z12 (ordZ keys inn keys.length)),(3,uQ (.row ⟨true,false,117,5,keys.length+2,z30 (gonN L inn i)⟩)),(2,uQ (.row ⟨true,true,85,2,1,fun _=>[.nils,.nils]⟩)),(0,inStr keys),(1,inBo inn)]⟩) 0 (qo _) (ρ:=id) (have xE:=aj @gonN.eq_1 @gonN.eq_2;Zgx id) ?_;rintro i hle QL1 hL1 hRL1 hEL1;refine z6 ?_;refine Zrs [0,1,2,6,9,10,11,30] ?_;refine z7 _ rfl ?_ ?_
  ·intro h30;replace h30:=Znb h30;have hli:i<keys.length:=by omega
   have hgl:=gonN_len L inn i;refine za (z6 (zb fun Q1 hN1 hX1 hR1 hE1=> ?_));refine z4p [0,1,2,6,9,10,11] rfl ?_;intro K hK;iterate 9 (refine Zo Zl ?_)
   rw[show(i:Int)+2=((i+2:Nat):Int) from by omega];repeat(with_reducible apply qe;exact sdE)
   iterate 2 (refine Zo Zl ?_)
   rw[put_Bn (gonN L inn i) (i+2) (!bAt inn i) (by omega)];repeat(with_reducible apply qe;exact sdE)
   refine z8 (Zpr (hK _ _ ?_));clear hK K;refine zd (hN1 _ _ ?_);refine Zrg [0,1,2,6,9,10,11] ?_;refine zd (hL1 _ _ ?_);rw[show(i:Int)+1=((i+1:Nat):Int) from by omega];refine⟨i+1,⟨by omega,by omega⟩,id,?_⟩;simp only[gonN];exact(Zg id)
  ·intro h30;replace h30:=Znb h30;have hni:i=keys.length:=by omega
   subst hni;have hgl:=gonN_len L inn keys.length;refine zm (hEL1 _ _ _ (hX0 _ _ (z6 ?_)));refine Zrs [2,6,9,10,12] ?_;refine zb fun Q2 hN2 hX2 hR2 hE2=> ?_;refine zn (σ:=Nat×List Cl) (fun σ=>((1<=σ.1/\σ.1<=(ordZ keys inn keys.length).length)/\σ.2.length=keys.length+2)/\lefL σ.2 (nth (ordZ keys inn keys.length) (σ.1-1)) ((ordZ keys inn keys.length).drop σ.1)=newK keys inn keys.length) (fun σ=>(ordZ keys inn keys.length).length-σ.1) (fun σ=>[(2,.int .i64 m),(6,.ptr 2 0 0 0),(9,.slc true 3 0 0 (keys.length+2)),(10,.slc true 4 0 0 (ordZ keys inn keys.length).length),(12,.int .i64 σ.1)]) (fun σ=>⟨5,[(4,z12 (ordZ keys inn keys.length)),(3,uQ (.row ⟨true,false,117,5,keys.length+2,z30 σ.2⟩)),(2,uQ (.row ⟨true,true,85,2,1,fun _=>[.nils,.nils]⟩))]⟩) (1,gonN L inn keys.length) ⟨⟨⟨qc _,by dsimp only;rw[ordZ];simp⟩,by dsimp only;omega⟩,by rw[<-newK_ref,hL];rfl⟩ (ρ:=id) (Zg id) ?_;rintro⟨j,cs⟩ hj QL2 hL2 hRL2 hEL2;refine z6 ?_;refine Zrs [2,6,9,10,12,46] ?_;refine z7 _ rfl ?_ ?_
   ·intro h46;replace h46:=Znb h46;obtain⟨⟨⟨hj1,hj2⟩,hj3⟩,hj4⟩:=hj;dsimp only at hj1 hj2 hj3 hj4;have hjl:j<(ordZ keys inn keys.length).length:=by omega
    have hz1:=ordZ_mem (keys:=keys) (inn:=inn) (n:=keys.length) (q:=j) (by omega);have hz2:=ordZ_mem (keys:=keys) (inn:=inn) (n:=keys.length) (q:=j-1) (by omega);refine za (z6 (zb fun Q3 hN3 hX3 hR3 hE3=> ?_));refine Zrd [2,6,9,10,12] [0,1,2,3,4,5,6,7,8,9,10,11,12] [[],[],[],[],[],[],[],[],[],[],[],[],[3]] [[],[],[],[],[],[],[],[],[],[],[],[],[3]] ?_;intro K hK;iterate 9 (refine Zo (Zi [] []) ?_)
    rw[show(j:Int)-1=((j-1:Nat):Int) from by omega];repeat(with_reducible apply qe;exact sdE)
    iterate 3 (refine Zo (Zi [] []) ?_)
    refine Zo (Zi [3] [3]) ?_;rw[put_F cs (nth (ordZ keys inn keys.length) j) (nth (ordZ keys inn keys.length) (j-1)) (by omega)];repeat(with_reducible apply qe;exact sdE)
    refine zx (Zpr (hK _ _ ?_));clear hK K;refine zd (hN3 _ _ ?_);refine Zrg [2,6,9,10,12] ?_;refine zd (hL2 _ _ ?_);rw[show(j:Int)+1=((j+1:Nat):Int) from by omega];refine⟨(j+1,z4v cs (nth (ordZ keys inn keys.length) j) (nth (ordZ keys inn keys.length) (j-1))),⟨⟨⟨⟨by dsimp only;omega,by dsimp only;omega⟩,by dsimp only;rw[z5l];exact hj3⟩,?_⟩,by dsimp only;omega⟩,id,(Zg id)⟩;dsimp only;rw[<-hj4,QB hjl,lefL,<-z2n hjl]
    rfl
   ·intro h46;replace h46:=Znb h46;obtain⟨⟨⟨hj1,hj2⟩,hj3⟩,hj4⟩:=hj;dsimp only at hj1 hj2 hj3 hj4;rw[Jc (by omega)] at hj4;have hj6:cs=newK keys inn keys.length:=hj4;refine zm (hEL2 _ _ _ (hX2 _ _ ?_));refine sg [6,7] rfl ?_;intro K hK;iterate 3 (refine Zo Zl ?_)
    rw[prs_zero m];repeat(with_reducible apply qe;exact sdE)
    iterate 3 (refine Zo Zl ?_)
    refine z8 (Zpr (hK _ _ ?_));clear hK K;refine ze (hQ _ _ ?_);unfold lsH lsS;dsimp only;rw[<-hj6,hj3,Qr];refine zu (fun q=>if q=2 then 3 else if q=3 then 5 else q) (.tup [.agg [.slc true 2 0 0 (keys.length+2),.slc true 3 0 0 m],.int .i64 0]) (⟨4,[(3,uQ (.row ⟨true,false,110,7,m,prs (List.replicate m noPr)⟩)),(2,uQ (.row ⟨true,false,117,5,keys.length+2,z30 cs⟩))]⟩) (.inl rfl) ?_;refine Zou ?_;refine⟨Zs,Zs,(Zg (fun q=>if q=2 then 3 else if q=3 then 5 else q)),Zs,?_⟩
    all_goals first|trivial|(simp only[z3u,z3a,hj3,Qr];done)|(exact⟨rfl,by simp only[z3u,z3a,hj3,Qr]⟩)
end
section
def idL5 (xs:List Nd):List Int:=xs.map (·.id)
theorem idL5_take {xs:List Nd}{i:Nat}(h:i<xs.length):idL5 (xs.take (i+1))=idL5 (xs.take i)++[(nd xs i).id]:=by
 rw[take_nd h];simp[idL5]
def IrB5m.exE:=aj9 @zg @zh @zi @zo @zl z5u @zp z47 (aj8 z4n @zk @z14 @zq @ints.eq_1 @z1f @z2m @z12.eq_1)
def IrB5m.gxE:=aj6 z47 ec16 z4n @z1x @z1u @z12.eq_1
open IrB5m (gxE exE)
open D0 (oxE sdE)
theorem ids5_spec (xs:List Nd)(n:Nat)(hn:xs.length=n)(hx:n<=1000000):
  zf prog 94 [.slc false 0 0 0 n] ⟨1,[(0,uQ (.row ⟨false,false,62,3,n,nds xs⟩))]⟩
   (fun s H1=>s= .slc true 1 0 0 n/\H1=⟨2,[(1,uQ (.row ⟨true,false,3,1,n,ints (idL5 xs)⟩))]⟩):=by
 subst hn;refine zf.ofC false 20 [.tmp 2] func94 rfl rfl ntmps94 results94 rfl ?_;intro w0 own0 β0 Q hQ hQn;simp only[z1c];refine Zrs [0] ?_;refine Zrs [0,3] ?_;refine z6 ?_;refine Zrs [0,3,4] ?_;refine z29 3 3 1 (ints (idL5 (xs.take 0))) rfl ?_;dsimp only;refine zb fun Q0 hN0 hX0 hR0 hE0=> ?_;refine zn (σ:=Nat) (fun i=>i<=xs.length) (fun i=>xs.length-i) (fun i=>[(0,.slc false 0 0 0 xs.length),(3,.slc true 1 0 0 i),(4,.int .i64 i)]) (fun i=>⟨2,[(1,uQ (.row ⟨true,false,3,1,i,ints (idL5 (xs.take i))⟩)),(0,uQ (.row ⟨false,false,62,3,xs.length,nds xs⟩))]⟩) 0 (qo _) (ρ:=id) (Zg id) ?_;rintro i hi QL1 hL1 hRL1 hEL1;refine z6 ?_;refine Zrs [0,3,4,8] ?_;refine z7 _ rfl ?_ ?_
 ·intro h8;replace h8:=Znb h8;refine za (z6 (zb fun Q1 hN1 hX1 hR1 hE1=> ?_));refine Zrg [0,3,4] ?_;refine zd (hN1 _ _ ?_);refine Zrg [0,3,4] ?_;refine zd (hL1 _ _ ?_);rw[app_intsN (by rw[idL5,qA,qS];omega),<-idL5_take (by omega),show(i:Int)+1=((i+1:Nat):Int) from by omega];exact⟨i+1,⟨by omega,by omega⟩,fun q=>if q=1 then 3 else q,(Zg (fun q=>if q=1 then 3 else q))⟩
 ·intro h8
  refine zm (hEL1 _ _ _ (hX0 _ _ ?_));refine Zrs [2] ?_;refine ze (hQ _ _ ?_)
  have hin:i=xs.length:=by
   have:¬(i:Int)<xs.length:=by simpa using h8
   omega
  rw[hin,Qt (qc _)];refine zc (H':=⟨2,[(1,uQ (.row ⟨true,false,3,1,xs.length,ints (idL5 xs)⟩))]⟩) (.inl rfl) ?_;refine Zou ?_;refine⟨Zs,(Zg id),Zs,?_⟩
  all_goals first|trivial|exact⟨rfl,trivial⟩
def cnPd (i:Nat):Pn:=fun id k=>if id=0 then(0,i+1) else(id,k)
theorem ids5M_spec (cs : List (List Nd)) (i k : Nat) (hk : cs.length = k) (hi : i < k) (hx : (cnd cs i).length <= 1000000) :
    zf prog 94 [.slc false 0 (i+1) 0 (cnd cs i).length] ⟨1,[(0,(k+1,fam false 62 3 (clF false cs)))]⟩
      (fun s H1=>s= .slc true 1 0 0 (cnd cs i).length/\H1=⟨2,[(1,uQ (.row ⟨true,false,3,1,(cnd cs i).length,ints (idL5 (cnd cs i))⟩))]⟩):=by
  have g:=(ids5_spec (cnd cs i) _ rfl hx).mem (cnPd i) (os1:=[(0,(k+1,fam false 62 3 (clF false cs)))])
    (by
      refine⟨⟨qm,fun k=>rfl,fun k' hk=>⟨Obj.lt_row.2 fun q _=>z4u _ _ q,?_⟩⟩,trivial⟩;simp only[cnPd,Qi,Sk.find];refine⟨by omega,?_⟩;rw[z2q]
      exact⟨fun h=>(by cases h),rfl,qc _,fun q _=>(z33 _ _ q).symm⟩)
    ⟨by simp [SV.lt], trivial⟩ (by intro id k hid; simp only [cnPd]; split; · exact qm
                                   · exact hid) (by
      intro x hx k;simp only[qY] at hx;subst hx
      exact clF_fown false _ _ cs k)
  have e:SV.renPL (cnPd i) [.slc false 0 0 0 (cnd cs i).length]=[.slc false 0 (i+1) 0 (cnd cs i).length]:=by simp[SV.renPL,SV.renP,cnPd]
  rw[e] at g;refine g.imp ?_;rintro s H' ⟨s0,H0',⟨rfl,rfl⟩,rfl,rfl⟩;refine⟨by simp[SV.renP,memP],?_⟩;simp only[renPOs,Qk,jf,uQ,Obj.renP,z2u]
end
section
theorem hasI_con (l:List Int)(v:Int):hasI l v=l.contains v:=by
 rw[Qe,jV]
 constructor
 ·intro h;refine QH fun g=> ?_
  have:hasI l v=false:=z1y fun i hi=>by
   rw[qg,z2n hi];intro e;exact g (e ▸ qN hi)
  rw[this] at h;cases h
 ·intro h;obtain⟨i,hi,e⟩:=Qg h;exact z3p hi (by rw[z2n hi,e];exact qL rfl)
section
variable {ns:List Nd} {h:Nat}
theorem shp_cls (hc:z1j ns=0)(h16:h<=16){lv i:Nat}(hl:lv<=h)(hi:i<(z4l (z43 ns) (lv:Int)).length):(z52 ns lv).length+i<(z36 ns h).length/\(shA (z36 ns h) ((z52 ns lv).length+i)).1=lv/\(shA (z36 ns h) ((z52 ns lv).length+i)).2=cnd (z4l (z43 ns) (lv:Int)) i:=by
 have hls:lstN ns (lv:Int)=lstG (z43 ns) (lv:Int):=by rw[lstN,qf ⟨hc,by omega,by omega⟩]
 have hll:(lstN ns (lv:Int)).length=(z4l (z43 ns) (lv:Int)).length:=by rw[hls,lstG,qA]
 obtain⟨h1,h2,h3⟩:=shp_at hc h16 hl (i:=i) (by omega);refine⟨h1,h2,?_⟩;have hmem:=shpL_sub h16 h1
 have hsub:∀y∈cnd (z4l (z43 ns) (lv:Int)) i,y∈ns:=fun y hy=>by
  rw[cnd_lt hi] at hy;exact(z1o ns).mem_iff.2 ((cls_sub (by omega) (qN hi)).subset hy)
 have he:(shA (z36 ns h) ((z52 ns lv).length+i)).2.map (·.id)=(cnd (z4l (z43 ns) (lv:Int)) i).map (·.id):=by
  rw[h3,hls,ind_lt (by rw[lstG,qA];exact hi),cnd_lt hi];simp[lstG]
 have hl:=Qj List.length he;rw[qA,qA] at hl;refine Qx hl fun q q1 q2=>ids_inj hc (hmem.1 _ (qN q1)) (hsub _ (qN q2)) ?_;have:=List.getElem_of_eq he (i:=q) (by rw[qA];exact q1);simpa using this
end
theorem clR_renMO (ρ:Nat->Nat)(o:Bool)(f g:Nat)(ms:Nat->Option Nat)(cs:List (List Nd))(i:Nat)(h:g≠f):SV.renPL (mvM ρ f ms) (clR o g cs i)=clR o (ρ g) cs i:=by
 simp[clR,SV.renPL,SV.renP,mvM,h]
def JoNm.exE:=aj9 @z1b @zg @zh @zq @zk @z14 @z1a ec2 (aj9 @zi @zy @zo @zl z5u @zp z47 z4n (aj9 @zz ec3 ec5 @z19.eq_1 @z12.eq_1 @ints.eq_1 ec34 ec35 (aj9 ec36 ec44 ec23 ec22 @z2h ec31 ec39 @Tryz.zB (aj3 @Tryz.zStrN ec40 @z1f))))
def JoNm.gxE:=aj9 @z1b z47 ec16 z4n ec3 ec7 ec8 @z19.eq_1 (aj9 @z12.eq_1 @z1x @z1u ec37 ec26 ec29 ec44 ec25 (aj4 ec42 ec40 @z2r @z49))
def JoNm.axE:=aj9 @z1b @zg @zh @zq @zk @z14 @z1a ec2 (aj9 @zi @zy @zo @zl z5u @zp z47 z4n (aj9 @zz ec3 ec5 @z19.eq_1 @z12.eq_1 ec34 ec35 ec44 (aj9 ec22 @z2h ec39 @Tryz.zB @Tryz.zStrN ec40 @z1f @z1v (aj7 @z2e @z2t @z34 ec38 @z3z ec43 ec27))))
open JoNm (gxE axE exE)
open JnNm (oxE)
open D0 (sdE)
theorem buildR_spec (ns:List Nd)(dn:List Int)(m n d:Nat)(ht:Int)(hn:ns.length=n)(hd:dn.length=d)(hc:z1j ns=0)(m1:1<=m)(m8:m<=8)(h0:0<=ht)(h16:ht<=16)(hdx:d<=1000000):
  zf prog 52 [.slc false 0 0 0 n,.slc false 1 0 0 d,.int .i64 m,.int .i64 ht] ⟨2,[(0,uQ (.row ⟨false,false,62,3,n,nds ns⟩)),(1,uQ (.row ⟨false,false,3,1,d,ints dn⟩))]⟩
   (fun s H1=>s= .slc true 2 0 0 (z3x ns dn m ht).ly.length/\H1=⟨4,[(2,uQ (.row ⟨true,false,89,5,(z3x ns dn m ht).ly.length,lyR 3 (z3x ns dn m ht).ly⟩)),(3,(3*(z3x ns dn m ht).ly.length+1,fam true 3 1 (lyF true (z3x ns dn m ht).ly)))]⟩):=by
 subst hn hd;have h64:ns.length<=64:=((z5z ns).1 hc).1;obtain⟨h,hh⟩:∃h:Nat,ht=h:=⟨ht.toNat,by omega⟩;have hhn:ht.toNat=h:=by omega
 have hn16:h<=16:=by omega
 have hLe:(z3x ns dn m ht).ly=(z36 ns h).map (newLy dn m):=by rw[z3x,hhn]
 obtain⟨L,hL⟩:∃L,(z36 ns h).map (newLy dn m)=L:=⟨_,rfl⟩;have hLl:(z52 ns (h+1)).length=L.length:=by rw[<-hL,qA];exact lvl_len hc hn16
 have hLx:L.length<=1088:=by
  have:=lvlP_bd ns (h+1);have:(h+1)*ns.length<=17*64:=jx (by omega) h64;omega
 rw[hLe,hL];refine zf.ofC false 91 [.tmp 8] func52 rfl rfl ntmps52 results52 rfl ?_;intro w0 own0 β0 Q hQ hQn;simp only[z1c];refine Zrs [0,1,2,3] ?_;refine Zrs [0,1,2,3,9] ?_;refine z6 ?_;refine Zrs [0,1,2,3,9,10] ?_;refine z29 9 89 5 (lyR 3 (L.take 0)) rfl ?_;dsimp only;refine z2x 3 1 (lyF true (L.take 0)) ?_;dsimp only;refine zb fun Q0 hN0 hX0 hR0 hE0=> ?_;refine zn (σ:=Nat) (fun lv=>lv<=h+1) (fun lv=>h+1-lv) (fun lv=>[(0,.slc false 0 0 0 ns.length),(1,.slc false 1 0 0 dn.length),(2,.int .i64 m),(3,.int .i64 ht),(9,.slc true 2 0 0 (z52 ns lv).length),(10,.int .i64 lv)]) (fun lv=>⟨4,[(2,uQ (.row ⟨true,false,89,5,(z52 ns lv).length,lyR 3 (L.take ((z52 ns lv).length))⟩)),(3,(3*((z52 ns lv).length)+1,fam true 3 1 (lyF true (L.take ((z52 ns lv).length))))),(0,uQ (.row ⟨false,false,62,3,ns.length,nds ns⟩)),(1,uQ (.row ⟨false,false,3,1,dn.length,ints dn⟩))]⟩) 0 (qo _) (ρ:=id) (have xE:=@z52.eq_1;Zgx id) ?_;rintro lv hlv QL1 hL1 hRL1 hEL1;refine z6 ?_;refine Zrs [0,1,2,3,9,10,20] ?_;refine z7 _ rfl ?_ ?_
 ·intro h20;replace h20:=Znb h20;have hps:=lvlP_len (ns:=ns) (n:=lv);have hpl:=lvlP_le (ns:=ns) (show lv+1<=h+1 by omega);have hsA:=fun i=>shp_cls hc hn16 (lv:=lv) (i:=i) (by omega);have hls:(lstN ns (lv:Int)).length=(z4l (z43 ns) (lv:Int)).length:=by rw[lstN,qf ⟨hc,by omega,by omega⟩,lstG,qA]
  rw[hls] at hps;obtain⟨cs,hcs⟩:∃cs,z4l (z43 ns) (lv:Int)=cs:=⟨_,rfl⟩;obtain⟨P,hP⟩:∃P,(z52 ns lv).length=P:=⟨_,rfl⟩;rw[hcs] at hps hsA;rw[hP] at hps hsA ⊢;have hPw:P+cs.length<=L.length:=by omega
  refine za (z6 (zb fun Q1 hN1 hX1 hR1 hE1=> ?_));refine sg [0,1,2,3,9,10,11] rfl ?_;intro K hK;iterate 2 (refine Zo Zl ?_)
  refine Zo Zl ?_;refine Zc1 (refClasses6_spec ns ns.length rfl lv (by omega)) (id) ?_;rw[hcs];refine Zo Zl ?_;refine z8 (Zpr (hK _ _ ?_));clear hK K;refine Zrs [0,1,2,3,9,10,11,12] ?_;refine zb fun Q2 hN2 hX2 hR2 hE2=> ?_;refine zn (σ:=Nat) (fun i=>i<=cs.length) (fun i=>cs.length-i) (fun i=>[(0,.slc false 0 0 0 ns.length),(1,.slc false 1 0 0 dn.length),(2,.int .i64 m),(3,.int .i64 ht),(9,.slc true 2 0 0 (P+i)),(10,.int .i64 lv),(11,.slc true 4 0 0 cs.length),(12,.int .i64 i)]) (fun i=>⟨6,[(4,uQ (.row ⟨true,false,23,1,cs.length,clR true 5 cs⟩)),(5,(cs.length+1,fam true 62 3 (clF true cs))),(2,uQ (.row ⟨true,false,89,5,P+i,lyR 3 (L.take (P+i))⟩)),(3,(3*(P+i)+1,fam true 3 1 (lyF true (L.take (P+i))))),(0,uQ (.row ⟨false,false,62,3,ns.length,nds ns⟩)),(1,uQ (.row ⟨false,false,3,1,dn.length,ints dn⟩))]⟩) 0 (qo _) (ρ:=id) (Zg id) ?_;rintro i hi QL2 hL2 hRL2 hEL2;refine z6 ?_;refine Zrs [0,1,2,3,9,10,11,12,29] ?_;refine z7 _ rfl ?_ ?_
  ·intro h29;replace h29:=Znb h29;obtain⟨hp1,hp2,hp3⟩:=hsA i (by omega);have hk3:=shp_keys hc hn16 hp1;have hsb:=shpL_sub hn16 hp1;rw[hp3] at hk3 hsb;obtain⟨c,hcc⟩:∃c,cnd cs i=c:=⟨_,rfl⟩;rw[hcc] at hp3 hk3 hsb;have hcl:=Qj List.length hcc
   have hlA:lyA L (P+i)=newLy dn m ((lv:Int),c):=by
    rw[<-hL,lyA_new hp1];congr 1;exact Prod.ext hp2 hp3
   have hc1:0<c.length:=by
    cases c with
    |nil=>exact absurd rfl hsb.2
    |cons _ _=>exact jh _
   refine za (z6 (zb fun Q3 hN3 hX3 hR3 hE3=> ?_));refine Zrs [0,1,2,3,9,10,11,12,13] ?_;refine Zrs [0,1,2,3,9,10,11,12,13,14] ?_;refine z6 ?_;refine Zrs [0,1,2,3,9,10,11,12,13,14,15] ?_;refine z29 13 9 1 (strsK ((keyL c).take 0)) rfl ?_;dsimp only;refine z29 14 4 1 (bos ((innL dn c).take 0)) rfl ?_;dsimp only;refine zb fun Q4 hN4 hX4 hR4 hE4=> ?_;refine zn (σ:=Nat) (fun j=>j<=c.length) (fun j=>c.length-j) (fun j=>[(0,.slc false 0 0 0 ns.length),(1,.slc false 1 0 0 dn.length),(2,.int .i64 m),(3,.int .i64 ht),(9,.slc true 2 0 0 (P+i)),(10,.int .i64 lv),(11,.slc true 4 0 0 cs.length),(12,.int .i64 i),(13,.slc true 6 0 0 j),(14,.slc true 7 0 0 j),(15,.int .i64 j)]) (fun j=>⟨8,[(7,uQ (.row ⟨true,false,4,1,j,bos ((innL dn c).take j)⟩)),(6,uQ (.row ⟨true,false,9,1,j,strsK ((keyL c).take j)⟩)),(4,uQ (.row ⟨true,false,23,1,cs.length,clR true 5 cs⟩)),(5,(cs.length+1,fam true 62 3 (clF true cs))),(2,uQ (.row ⟨true,false,89,5,P+i,lyR 3 (L.take (P+i))⟩)),(3,(3*(P+i)+1,fam true 3 1 (lyF true (L.take (P+i))))),(0,uQ (.row ⟨false,false,62,3,ns.length,nds ns⟩)),(1,uQ (.row ⟨false,false,3,1,dn.length,ints dn⟩))]⟩) 0 (qo _) (ρ:=id) (Zg id) ?_;rintro j hj QL3 hL3 hRL3 hEL3;refine z6 ?_;refine sg [0,1,2,3,9,10,11,12,13,14,15,38] rfl ?_;intro K hK;iterate 6 (refine Zo Zl ?_)
   rw[hcc];repeat(with_reducible apply qe;exact sdE)
   refine Zo Zl ?_;refine z8 (Zpr (hK _ _ ?_));clear hK K;refine z7 _ rfl ?_ ?_
   ·intro h38;replace h38:=Znb h38;refine za (z6 (zb fun Q5 hN5 hX5 hR5 hE5=> ?_));refine Zrd [0,1,2,3,9,10,11,12,13,14,15] [0,1,2,3,4,5,6,7,8,11,12,13,14,15,16,17,18,19,20,9,10,21,22,23,24,25] [[],[],[],[],[],[],[],[],[],[],[6],[],[],[],[],[],[],[],[],[],[],[],[],[7],[],[]] [[],[],[],[],[],[],[],[],[],[],[6],[6],[6],[6],[6],[6],[6],[6],[6],[6],[6],[6],[6],[6,7],[6,7],[6,7]] ?_;intro K hK;iterate 9 (refine Zo (Zi [] []) ?_)
    rw[hcc];repeat(with_reducible apply qe;exact sdE)
    iterate 10 (refine Zo (Zi [] [6]) ?_)
    rw[hcc];repeat(with_reducible apply qe;exact sdE)
    refine Zo (Zi [] []) ?_;refine Zo (Zi [6] [6]) ?_;refine Zo (Zi [] [6]) ?_;refine Zc1 (refHas_spec dn (nd c j).id dn.length rfl (by omega)) (fun _=>1) ?_;rw[hasI_con];refine Zo (Zi [] [6]) ?_;refine Zo (Zi [7] [6,7]) ?_;iterate 2 (refine Zo (Zi [] [6,7]) ?_)
    refine zx (Zpr (hK _ _ ?_));clear hK K;refine zd (hN5 _ _ ?_);refine Zrg [0,1,2,3,9,10,11,12,13,14,15] ?_;refine zd (hL3 _ _ ?_);rw[app_strs1 (by omega),app_bos1 (by omega) _ rfl];rw[show(j:Int)+1=((j+1:Nat):Int) from by omega];exact⟨j+1,⟨by omega,by omega⟩,fun q=>if q=6 then 9 else if q=7 then 11 else q,(Zg (fun q=>if q=6 then 9 else if q=7 then 11 else q))⟩
   ·intro h38;replace h38:=Znb h38;have hjc:j=c.length:=by omega
    subst hjc;have hkl:=z2r c;have hkm:=z49 dn c;rw[Qt (show(keyL c).length<=c.length by rw[z2r];exact qc _),Qt (show(innL dn c).length<=c.length by rw[z49];exact qc _)];refine zm (hEL3 _ _ _ (hX4 _ _ ?_));refine sg [0,1,2,3,9,10,11,12,16] rfl ?_;intro K hK;iterate 3 (refine Zo Zl ?_)
    refine Zo Zl ?_;refine Zc1 (refNew_spec (keyL c) (innL dn c) c.length m (z2r c) (z49 dn c) hk3.2.2 m1 m8 hk3.1 hk3.2.1) (fun q=>if q=0 then 6 else if q=1 then 7 else q) ?_;iterate 6 (refine Zo Zl ?_)
    refine z8 (Zpr (hK _ _ ?_));clear hK K;refine Zrd [0,1,2,3,9,10,11,12] [0,1,2,3,4,5,6,7,8,9,10,11,12,14,13,15,16,17,18] [[],[],[],[],[],[],[],[],[],[],[],[],[],[],[],[],[],[2],[]] [[],[],[],[],[],[],[],[],[],[],[],[],[],[],[],[],[],[2],[2]] ?_;intro K hK;iterate 9 (refine Zo (Zi [] []) ?_)
    rw[hcc];repeat(with_reducible apply qe;exact sdE)
    iterate 5 (refine Zo (Zi [] []) ?_)
    refine Zo (Zi [] []) ?_;refine Zc1 (ids5M_spec cs i cs.length rfl (by omega) (by omega)) (fun q=>if q=0 then 5 else q) ?_;rw[hcc];iterate 2 (refine Zo (Zi [] []) ?_)
    refine Zo (Zi [2] [2]) ?_;refine Zo (Zi [] [2]) ?_;refine zx (Zpr (hK _ _ ?_));clear hK K;refine zd (hN3 _ _ ?_);have hidl:(newLy dn m ((lv:Int),c)).ids.length=c.length:=qA ..;have hx:lyA (L.take (P+i+1)) (P+i)=newLy dn m ((lv:Int),c):=by rw[take_ly (by omega),hlA]
    have hout:∀q,q<P+i+1->app (lyR 3 (L.take (P+i))) (P+i) (z42 5 1 [SV.int .i64 lv,SV.int .u32 (nd c 0).word,SV.slc true 11 0 0 c.length,SV.slc true 8 0 0 (newK (keyL c) (innL dn c) c.length).length,SV.slc true 9 0 0 (List.replicate m noPr).length]) q=SV.renPL (mvM (fun q=>if q=2 then 13 else q) 3 (ms3 (P+i) 11 8 9)) (lyR 3 (L.take (P+i+1)) q):=fun q hq=>by
     have e:=lyR_renM3 (fun q=>if q=2 then 13 else q) 3 (P+i) 11 8 9 (L.take (P+i+1)) q;rw[show(if(3:Nat)=2 then 13 else 3)=3 from rfl] at e;rw[e]
     split
     ·rename_i e;subst e;rw[app,qb (by omega),jm,hx];simp only[newLy];rw[hdN_nd hc1,qA];rfl
     ·rename_i e;rw[app,qf (by omega),lyR,lyR,take_ly (by omega),take_ly (by omega)]
    refine z4o (fr':=[(0,.slc false 0 0 0 ns.length),(1,.slc false 1 0 0 dn.length),(2,.int .i64 m),(3,.int .i64 ht),(9,.slc true 2 0 0 (P+i+1)),(10,.int .i64 lv),(11,.slc true 4 0 0 cs.length),(12,.int .i64 i)]) (H':=⟨6,[(4,uQ (.row ⟨true,false,23,1,cs.length,clR true 5 cs⟩)),(5,(cs.length+1,fam true 62 3 (clF true cs))),(2,uQ (.row ⟨true,false,89,5,P+i+1,lyR 3 (L.take (P+i+1))⟩)),(3,(3*(P+i+1)+1,fam true 3 1 (lyF true (L.take (P+i+1))))),(0,uQ (.row ⟨false,false,62,3,ns.length,nds ns⟩)),(1,uQ (.row ⟨false,false,3,1,dn.length,ints dn⟩))]⟩) _ (Zgm (fun q=>if q=2 then 13 else q) (3) (ms3 (P+i) 11 8 9) (ms3_ok (P+i) (by decide) ⟨rfl,rfl,rfl⟩ ⟨qd rfl,qd rfl,qd rfl⟩) ((z13 (by decide) rfl qm (zr.of (fun _=>⟨rfl,rfl⟩) rfl (qc _) (fun q _=>(show clR true 5 cs q=SV.renPL _ (clR true 5 cs q) by rw[clR_renMO _ _ _ _ _ _ _ (by decide)];rfl))) (Obj.lt_row.2 fun q _=>(clR_lt _ _ _ _ q).2 (qd rfl)) (qd rfl) (z1e.consO (by decide) rfl ⟨fun _=>⟨rfl,rfl⟩,rfl⟩ (by omega) (qc _) (fun q _=>⟨clF_givesP _ _ _ _ _ _ id rfl,clFm_lt _ _ _ _⟩) (qd rfl) (z13 (by decide) rfl qm (zr.of (fun _=>⟨rfl,rfl⟩) rfl (qc _) (hout)) (Obj.lt_row.2 fun q _=>(lyR_lt _ _ _ q).2 (qd rfl)) (qd rfl) (lyF_cons3 (n:=P+i) (x:=newLy dn m ((lv:Int),c)) rfl (by rw[hidl];rfl) rfl rfl hx (fun q hq hne=>⟨by omega,by rw[take_ly (by omega),take_ly (by omega)]⟩) (qd rfl) (z13 (by decide) rfl qm (zr.of (fun h=>(by cases h)) rfl (qc _) (fun q _=>(z33 _ _ q).symm)) (Obj.lt_row.2 fun q _=>z4u _ _ q) (qd rfl) (z13 (by decide) rfl qm (zr.of (fun h=>(by cases h)) rfl (qc _) (fun q _=>(z2u _ _ q).symm)) (Obj.lt_row.2 fun q _=>z1u _ _ q) (qd rfl) trivial)))))))) ?_
    refine Zrg [0,1,2,3,9,10,11,12] ?_;refine zd (hL2 _ _ ?_);rw[jD P i 1];rw[show(i:Int)+1=((i+1:Nat):Int) from by omega];exact⟨i+1,⟨by omega,by omega⟩,id,(Zg id)⟩
  ·intro h29;replace h29:=Znb h29;refine zm (hEL2 _ _ _ (hX2 _ _ (zd (hN1 _ _ ?_))));refine Zrg [0,1,2,3,9,10] ?_;refine zd (hL1 _ _ ?_);have hie:i=cs.length:=by omega
   subst hie;rw[<-hps,show(lv:Int)+1=((lv+1:Nat):Int) from by omega];exact⟨lv+1,⟨by omega,by omega⟩,id,(Zg id)⟩
 ·intro h20;replace h20:=Znb h20;have hlh:lv=h+1:=by omega
  subst hlh;rw[hLl,QZ];refine zm (hEL1 _ _ _ (hX0 _ _ ?_));refine Zrs [8] ?_;refine ze (hQ _ _ ?_);refine zc (H':=⟨4,[(2,uQ (.row ⟨true,false,89,5,L.length,lyR 3 L⟩)),(3,(3*L.length+1,fam true 3 1 (lyF true L)))]⟩) (.inl rfl) ?_;refine Zou ?_;refine⟨Zs,(Zg id),Zs,?_⟩
  all_goals first|trivial|exact⟨rfl,trivial⟩
end
section
theorem ints_wkT {ids:List Int}{k:Nat}(m:Nat)(i:Nat)(h:i<k):SV.wkL (ints ids i) (ints (ids.take k) i)/\(∀s∈ints (ids.take k) i,s.scalar=true)/\SV.ltL m (ints (ids.take k) i):=by
 have e:nth (ids.take k) i=nth ids i:=by rw[nth,nth,qt,qt,Qc,qf h]
 refine⟨?_,fun s hs=> ?_,z1u m _ i⟩
 ·rw[ints,ints,e];exact⟨rfl,trivial⟩
 ·simp only[ints,qY] at hs;subst hs;rfl
theorem refHasP_spec (ids:List Int)(v:Int)(k m:Nat)(hm:ids.length=m)(hk:k<=m)(hx:m<=1000000):
  zf prog 34 [.slc false 0 0 0 k,.int .i64 v] ⟨1,[(0,uQ (.row ⟨false,false,3,1,m,ints ids⟩))]⟩ (fun s H1=>s= .bool (hasI (ids.take k) v)/\H1=⟨1,[]⟩):=
 (refHas_spec (ids.take k) v k (by rw[qS];omega) (by omega)).less ⟨⟨rfl,rfl,fun _=> .inr ⟨rfl,rfl,rfl,hk,fun i hi=>ints_wkT _ i hi⟩⟩,trivial⟩ (by simp[ownU,Obj.own.eq_1])
open JnNm (gxE axE oxE exE)
open D0 (sdE)
theorem refNewF_spec (ns:List Nd)(dn:List Int)(m n d:Nat)(ht:Int)(hn:ns.length=n)(hd:dn.length=d)(hc:z1j ns=0)(m1:1<=m)(m8:m<=8)(h0:0<=ht)(h16:ht<=16)(hdx:d<=1000000)(hin:∀v∈dn,0<=findI ns v)(hnd:dn.Nodup):
  zf prog 17 [.slc false 0 0 0 n,.slc false 1 0 0 d,.int .i64 m,.int .i64 ht] ⟨2,[(0,uQ (.row ⟨false,false,62,3,n,nds ns⟩)),(1,uQ (.row ⟨false,false,3,1,d,ints dn⟩))]⟩
   (fun s H1=>s= .tup [.agg [.slc true 2 0 0 n,.int .i64 ht,.slc true 3 0 0 (z3x ns dn m ht).ly.length,.slc true 5 0 0 m],.int .i64 0]/\H1=⟨6,[(2,uQ (.row ⟨true,false,62,3,n,nds ns⟩)),(3,uQ (.row ⟨true,false,89,5,(z3x ns dn m ht).ly.length,lyR 4 (z3x ns dn m ht).ly⟩)),(4,(3*(z3x ns dn m ht).ly.length+1,fam true 3 1 (lyF true (z3x ns dn m ht).ly))),(5,uQ (.row ⟨true,false,58,3,m,cbs (List.replicate m noCb)⟩))]⟩):=by
 subst hn hd;have h64:ns.length<=64:=((z5z ns).1 hc).1;refine zf.ofC false 76 [.cell 8 34,.tmp 9] func17 rfl rfl ntmps17 results17 rfl ?_;intro w0 own0 β0 Q hQ hQn;simp only[z1c];refine Zrs [0,1,2,3,8] ?_;refine z6 (zb fun Q0 hN0 hX0 hR0 hE0=> ?_);refine sg [0,1,2,3,8,14] rfl ?_;intro K hK;refine Zo Zl ?_;refine Zo Zl ?_;refine Zc1 (refIs_spec ns ns.length rfl (by omega)) (id) ?_;iterate 2 (refine Zo Zl ?_)
 refine z8 (Zpr (hK _ _ ?_));clear hK K;refine z7 _ rfl ?_ ?_
 ·intro h14
  exfalso;simp[hc] at h14
 ·intro h14
  refine sg [0,1,2,3,8,19] rfl ?_;intro K hK
  have hk3:∀B:Bool,B=false->K [(0,.slc false 0 0 0 ns.length),(1,.slc false 1 0 0 dn.length),(2,.int .i64 m),(3,.int .i64 ht),(8,.ptr 2 0 0 0),(19,.bool B)] ⟨3,[(2,uQ (.row ⟨true,true,34,4,1,fun _=>[.nils,.int .i64 0,.nils,.nils]⟩)),(0,uQ (.row ⟨false,false,62,3,ns.length,nds ns⟩)),(1,uQ (.row ⟨false,false,3,1,dn.length,ints dn⟩))]⟩:=by
   intro B hB;subst hB;refine hK _ _ ?_;clear hK K;refine z7 _ rfl ?_ ?_
   ·intro h19
    cases h19
   ·intro h19
    refine za (zd (hN0 _ _ (z6 ?_)));refine Zrs [0,1,2,3,8,10] ?_;refine zb fun Q1 hN1 hX1 hR1 hE1=> ?_;refine zn (σ:=Nat) (fun i=>i<=dn.length) (fun i=>dn.length-i) (fun i=>[(0,.slc false 0 0 0 ns.length),(1,.slc false 1 0 0 dn.length),(2,.int .i64 m),(3,.int .i64 ht),(8,.ptr 2 0 0 0),(10,.int .i64 i)]) (fun i=>⟨3,[(2,uQ (.row ⟨true,true,34,4,1,fun _=>[.nils,.int .i64 0,.nils,.nils]⟩)),(0,uQ (.row ⟨false,false,62,3,ns.length,nds ns⟩)),(1,uQ (.row ⟨false,false,3,1,dn.length,ints dn⟩))]⟩) 0 (qo _) (ρ:=id) (Zg id) ?_;rintro i hi QL1 hL1 hRL1 hEL1;refine z6 ?_;refine Zrs [0,1,2,3,8,10,35] ?_;refine z7 _ rfl ?_ ?_
    ·intro h35;replace h35:=Znb h35;refine za (z6 (zb fun Q2 hN2 hX2 hR2 hE2=> ?_));refine sg [0,1,2,3,8,10,12] rfl ?_;intro K hK;iterate 5 (refine Zo Zl ?_)
     refine Zo Zl ?_;refine Zc1 (refFind_spec ns (nth dn i) ns.length rfl (by omega)) (id) ?_;iterate 6 (refine Zo Zl ?_)
     refine z8 (Zpr (hK _ _ ?_));clear hK K;refine Zrs [0,1,2,3,8,10,48] ?_;refine z7 _ rfl ?_ ?_
     ·intro h48
      exfalso
      have:=hin (nth dn i) (by rw[z2n (by omega)];exact qN _);simp at h48;omega
     ·intro h48
      refine za (zd (hN2 _ _ ?_));refine Zrg [0,1,2,3,8,10] ?_;refine zd (hL1 _ _ ?_);rw[show(i:Int)+1=((i+1:Nat):Int) from by omega];exact⟨i+1,⟨by omega,by omega⟩,id,(Zg id)⟩
    ·intro h35
     refine zm (hEL1 _ _ _ (hX1 _ _ (z6 ?_)));refine Zrs [0,1,2,3,8,13] ?_;refine zb fun Q3 hN3 hX3 hR3 hE3=> ?_;refine zn (σ:=Nat) (fun i=>i<=dn.length) (fun i=>dn.length-i) (fun i=>[(0,.slc false 0 0 0 ns.length),(1,.slc false 1 0 0 dn.length),(2,.int .i64 m),(3,.int .i64 ht),(8,.ptr 2 0 0 0),(13,.int .i64 i)]) (fun i=>⟨3,[(2,uQ (.row ⟨true,true,34,4,1,fun _=>[.nils,.int .i64 0,.nils,.nils]⟩)),(0,uQ (.row ⟨false,false,62,3,ns.length,nds ns⟩)),(1,uQ (.row ⟨false,false,3,1,dn.length,ints dn⟩))]⟩) 0 (qo _) (ρ:=id) (Zg id) ?_;rintro i hi QL2 hL2 hRL2 hEL2;refine z6 ?_;refine Zrs [0,1,2,3,8,13,53] ?_;refine z7 _ rfl ?_ ?_
     ·intro h53;replace h53:=Znb h53;refine za (z6 (zb fun Q4 hN4 hX4 hR4 hE4=> ?_));refine z6 ?_;refine Zrd [0,1,2,3,8,13,63] [0,1,2,3,4,5,6,7] [[],[],[],[],[],[],[],[]] [[],[],[],[],[],[],[],[]] ?_;intro K hK;iterate 7 (refine Zo (Zi [] []) ?_)
      refine Zo (Zi [] []) ?_;refine Zc1 (refHasP_spec dn (nth dn i) i dn.length rfl (by omega) (by omega)) (fun _=>1) ?_;rw[hasI_con,any_takeI hnd (show i<dn.length by omega)];refine zx (Zpr (hK _ _ ?_));clear hK K;refine z7 _ rfl ?_ ?_
      ·intro h63
       exfalso;cases h63
      ·intro h63
       refine za (zd (hN4 _ _ ?_));refine Zrg [0,1,2,3,8,13] ?_;refine zd (hL2 _ _ ?_);rw[show(i:Int)+1=((i+1:Nat):Int) from by omega];exact⟨i+1,⟨by omega,by omega⟩,id,(Zg id)⟩
     ·intro h53
      refine zm (hEL2 _ _ _ (hX3 _ _ (z6 ?_)));refine Zrt [8,9] (.op 0 (.op 2 (.op 3 (.op 4 (.op 5 (.op 6 (.op 8 (.two 1 9 (.two 7 9 (.op 9 (.op 10 (.op 11 (.op 12 .done)))) (.op 7 (.op 10 (.op 11 (.op 12 .done))))) (.op 1 (.op 7 (.op 10 (.op 11 (.op 12 .done))))))))))))) [[],[],[],[],[],[],[],[],[],[],[],[2],[]] [[],[],[],[],[],[],[],[],[],[],[],[2],[2]] ?_;intro K hK hG
      have hk16:K [(8,.ptr 2 0 0 0),(9,.int .i64 0)] ⟨7,[(2,uQ (.row ⟨true,true,34,4,1,fun _=>[.slc true 3 0 0 ns.length,.int .i64 ht,.slc true 4 0 0 (z3x ns dn m ht).ly.length,.slc true 6 0 0 m]⟩)),(3,uQ (.row ⟨true,false,62,3,ns.length,nds ns⟩)),(4,uQ (.row ⟨true,false,89,5,(z3x ns dn m ht).ly.length,lyR 5 (z3x ns dn m ht).ly⟩)),(5,(3*(z3x ns dn m ht).ly.length+1,fam true 3 1 (lyF true (z3x ns dn m ht).ly))),(6,uQ (.row ⟨true,false,58,3,m,cbs (List.replicate m noCb)⟩))]⟩:=by
       refine hK _ _ ?_;clear hG hK K;refine ze (hQ _ _ ?_);refine zu (fun q=>if q=2 then 3 else if q=3 then 4 else if q=4 then 5 else if q=5 then 6 else q) (.tup [.agg [.slc true 2 0 0 ns.length,.int .i64 ht,.slc true 3 0 0 (z3x ns dn m ht).ly.length,.slc true 5 0 0 m],.int .i64 0]) (⟨6,[(2,uQ (.row ⟨true,false,62,3,ns.length,nds ns⟩)),(3,uQ (.row ⟨true,false,89,5,(z3x ns dn m ht).ly.length,lyR 4 (z3x ns dn m ht).ly⟩)),(4,(3*(z3x ns dn m ht).ly.length+1,fam true 3 1 (lyF true (z3x ns dn m ht).ly))),(5,uQ (.row ⟨true,false,58,3,m,cbs (List.replicate m noCb)⟩))]⟩) (.inl rfl) ?_;refine Zou ?_;refine⟨Zs,Zs,(Zg (fun q=>if q=2 then 3 else if q=3 then 4 else if q=4 then 5 else if q=5 then 6 else q)),Zs,?_⟩
       all_goals first|trivial|exact⟨rfl,trivial⟩
      refine Zo (ZT [] [] []) ?_;refine Zo (ZT [] [] []) ?_;refine Zo (ZT [] [] []) ?_;refine Zo (ZT [] [] []) ?_;refine Zo (ZT [] [] []) ?_;refine Zo (ZT [] [] []) ?_;refine Zo (ZT [] [] []) ?_;refine z26 ?_ ?_
      ·skip
       refine Zo (ZT [] [] []) ?_;refine z26 ?_ ?_
       ·skip
        refine Zo (ZT [] [] []) ?_;refine Zc1 (buildR_spec ns dn m ns.length dn.length ht rfl rfl hc m1 m8 h0 h16 hdx) (id) ?_;refine Zo (ZT [] [] []) ?_;refine Zo (ZT [] [] []) ?_;refine Zo (ZT [2] [2] []) ?_;refine Zo (ZT [] [2] []) ?_;refine z17 ?_;refine Zpr ?_;rw[cbs_zero m];exact hG _ _ _ _ id (Zg id) hk16
       ·skip
        refine Zo (ZT [] [] []) ?_;refine Zo (ZT [] [] []) ?_;refine Zc1 (buildR_spec ns dn m ns.length dn.length ht rfl rfl hc m1 m8 h0 h16 hdx) (id) ?_;refine Zo (ZT [] [] []) ?_;refine Zo (ZT [2] [2] []) ?_;refine Zo (ZT [] [2] []) ?_;refine z17 ?_;refine Zpr ?_;rw[cbs_zero m];exact hG _ _ _ _ (fun q=>if q=4 then 5 else if q=5 then 6 else if q=6 then 4 else q) (Zg (fun q=>if q=4 then 5 else if q=5 then 6 else if q=6 then 4 else q)) hk16
      ·skip
       refine Zo (ZT [] [] []) ?_;refine Zo (ZT [] [] []) ?_;refine Zo (ZT [] [] []) ?_;refine Zc1 (buildR_spec ns dn m ns.length dn.length ht rfl rfl hc m1 m8 h0 h16 hdx) (id) ?_;refine Zo (ZT [] [] []) ?_;refine Zo (ZT [2] [2] []) ?_;refine Zo (ZT [] [2] []) ?_;refine z17 ?_;refine Zpr ?_;rw[cbs_zero m];exact hG _ _ _ _ (fun q=>if q=3 then 4 else if q=4 then 5 else if q=5 then 6 else if q=6 then 3 else q) (Zg (fun q=>if q=3 then 4 else if q=4 then 5 else if q=5 then 6 else if q=6 then 3 else q)) hk16
  iterate 8 (refine Zo Zl ?_)
  refine z11 ?_;refine z1w rfl rfl ?_;refine Zgr ?_
  first|refine z1r ?_ ?_|refine(fun(h1:false=true->_) (h2:false=false->_)=>qe h1 fun _=>h2 rfl) ?_ ?_|refine qe ?_ ?_
  ·intro hg8
   first
    |(simp at hg8;done)
    |skip
     try replace hg8:=Znb hg8
     refine Zo id ?_;refine Zc1 (level_spec ht) (id) ?_;iterate 3 (refine Zo Zl ?_)
     refine z8 ?_;refine Zpr ?_;refine hk3 _ ?_;simp;omega
  ·intro hg8;refine⟨.bool false,?_⟩
   first
    |(simp at hg8;done)
    |skip
     try replace hg8:=Znb hg8
     exfalso;first|omega|(simp at hg8;omega)
end
section
theorem list_ext5 {xs ys:List Int}(hl:xs.length=ys.length)(h:∀j,j<xs.length->nth xs j=nth ys j):xs=ys:=by
 apply Qx hl;intro i h1 h2;have:=h i h1;rwa [z2n h1,z2n h2] at this
open JnNm (gxE axE oxE exE)
open D0 (sdE)
theorem sameI5_spec (xs ys:List Int)(n m:Nat)(hn:xs.length=n)(hm:ys.length=m)(hx:n<=9223372036854775807)(hy:m<=9223372036854775807):zf prog 70 [.slc false 0 0 0 n,.slc false 1 0 0 m] ⟨2,[(0,uQ (.row ⟨false,false,3,1,xs.length,ints xs⟩)),(1,uQ (.row ⟨false,false,3,1,ys.length,ints ys⟩))]⟩ (fun s H'=>s= .bool (decide (xs=ys))/\H'=⟨2,[]⟩):=by
 subst hn hm;refine zf.ofC false 26 [.tmp 4] func70 rfl rfl ntmps70 results70 rfl ?_;intro w0 own0 β0 Q hQ hQn;simp only[z1c];refine Zrs [0,1] ?_;refine z6 ?_;refine Zrs [0,1,10] ?_;refine z7 _ rfl ?_ ?_
 ·intro h10
  try replace h10:=Znb h10
  refine Zrs [4] ?_;refine ze (hQ _ _ ?_);refine zc (H':=⟨2,[]⟩) (.inl rfl) ?_;refine Zou ?_;refine⟨Zs,(Zg id),Zs,?_⟩;have:¬xs=ys:=fun h=>by subst h;omega
  exact⟨by simp[this],by trivial⟩
 ·intro h10
  try replace h10:=Znb h10
  refine za (z6 ?_);refine Zrs [0,1,5] ?_;refine zb fun Q0 hN0 hX0 hR0 hE0=> ?_;refine zn (σ:=Nat) (fun i=>i<=xs.length/\∀j,j<i->nth xs j=nth ys j) (fun i=>xs.length-i) (fun i=>[(0,.slc false 0 0 0 xs.length),(1,.slc false 1 0 0 ys.length),(5,.int .i64 i)]) (fun i=>⟨2,[(0,uQ (.row ⟨false,false,3,1,xs.length,ints xs⟩)),(1,uQ (.row ⟨false,false,3,1,ys.length,ints ys⟩))]⟩) 0 ⟨by omega,by omega⟩ (ρ:=id) (Zg id) ?_;rintro i hi QL1 hL1 hRL1 hEL1;refine z6 ?_;refine Zrs [0,1,5,14] ?_;refine z7 _ rfl ?_ ?_
  ·intro h14
   try replace h14:=Znb h14
   refine za (z6 (zb fun Q1 hN1 hX1 hR1 hE1=> ?_));refine z6 ?_;refine Zrd [0,1,5,25] [0,1,2,3,4,5,6,7,8] [[],[],[],[],[],[],[],[],[]] [[],[],[],[],[],[],[],[],[]] ?_;intro K hK;iterate 9 (refine Zo (Zi [] []) ?_)
   refine zx (Zpr (hK _ _ ?_));clear hK K;refine z7 _ rfl ?_ ?_
   ·intro h25
    try replace h25:=Znb h25
    refine Zrs [4] ?_;refine ze (hR1 _ _ (hRL1 _ _ (hR0 _ _ (hQ _ _ ?_))));refine zc (H':=⟨2,[]⟩) (.inl rfl) ?_;refine Zou ?_;refine⟨Zs,(Zg id),Zs,?_⟩;have:¬xs=ys:=fun h=>by subst h;omega
    exact⟨by simp[this],by trivial⟩
   ·intro h25
    try replace h25:=Znb h25
    refine za (zd (hN1 _ _ ?_));refine Zrg [0,1,5] ?_;refine zd (hL1 _ _ ?_);refine⟨i+1,⟨⟨by omega,fun j hj=> ?_⟩,by omega⟩,id,(Zg id)⟩
    by_cases h:j=i
    ·subst h;omega
    ·exact hi.2 j (by omega)
  ·intro h14
   try replace h14:=Znb h14
   refine zm (hEL1 _ _ _ (hX0 _ _ ?_));refine Zrs [4] ?_;refine ze (hQ _ _ ?_);refine zc (H':=⟨2,[]⟩) (.inl rfl) ?_;refine Zou ?_;refine⟨Zs,(Zg id),Zs,?_⟩;have:xs=ys:=list_ext5 (by omega) fun j hj=>hi.2 j (by omega);exact⟨by simp[this],by trivial⟩
def keyQ (a b:Ly)(i:Nat):Bool:= !sEq (cl a.cs i).key (cl b.cs i).key
def headS (a b:Ly):Bool:=a.lvl==b.lvl && a.wd==b.wd && decide (a.ids=b.ids) && decide (a.cs.length=b.cs.length)
def shpS (a b:Ly):Bool:=headS a b && !anyB a.cs.length (keyQ a b)
theorem sameShape_spec (a b:Ly)(p q:Nat)(h1:a.ids.length<=1000000)(h2:b.ids.length<=1000000)(h3:a.cs.length<=1000000)(h4:b.cs.length<=1000000):
  zf prog 53 [.agg [.int .i64 a.lvl,.int .u32 a.wd,.slc false 0 0 0 a.ids.length,.slc false 1 0 0 a.cs.length,.slc false 4 0 0 p],.agg [.int .i64 b.lvl,.int .u32 b.wd,.slc false 2 0 0 b.ids.length,.slc false 3 0 0 b.cs.length,.slc false 5 0 0 q]] ⟨6,[(0,uQ (.row ⟨false,false,3,1,a.ids.length,ints a.ids⟩)),(1,uQ (.row ⟨false,false,117,5,a.cs.length,z30 a.cs⟩)),(2,uQ (.row ⟨false,false,3,1,b.ids.length,ints b.ids⟩)),(3,uQ (.row ⟨false,false,117,5,b.cs.length,z30 b.cs⟩))]⟩ (fun s H1=>s= .bool (shpS a b)/\H1=⟨6,[]⟩):=by
 refine zf.ofC false 60 [.tmp 4] func53 rfl rfl ntmps53 results53 rfl ?_;intro w0 own0 β0 Q hQ hQn;simp only[z1c];refine Zrs [2,3] ?_;refine z6 ?_;refine sg [2,3,36] rfl ?_;intro K hK
 have hk1:∀B:Bool,B= !(headS a b)->K [(2,.ptr 6 0 0 0),(3,.ptr 7 0 0 0),(36,.bool B)] ⟨8,[(7,uQ (.row ⟨true,true,89,5,1,fun _=>[.int .i64 b.lvl,.int .u32 b.wd,.slc false 2 0 0 b.ids.length,.slc false 3 0 0 b.cs.length,.slc false 5 0 0 q]⟩)),(6,uQ (.row ⟨true,true,89,5,1,fun _=>[.int .i64 a.lvl,.int .u32 a.wd,.slc false 0 0 0 a.ids.length,.slc false 1 0 0 a.cs.length,.slc false 4 0 0 p]⟩)),(0,uQ (.row ⟨false,false,3,1,a.ids.length,ints a.ids⟩)),(1,uQ (.row ⟨false,false,117,5,a.cs.length,z30 a.cs⟩)),(2,uQ (.row ⟨false,false,3,1,b.ids.length,ints b.ids⟩)),(3,uQ (.row ⟨false,false,117,5,b.cs.length,z30 b.cs⟩))]⟩:=by
  intro B hB;subst hB;refine hK _ _ ?_;clear hK K;refine z7 _ rfl ?_ ?_
  ·intro h36;have h36':headS a b=false:=by rw[<-qk];exact h36
   refine Zrs [4] ?_;refine ze (hQ _ _ ?_);refine zc (H':=⟨6,[]⟩) (.inl rfl) ?_;refine Zou ?_;refine⟨Zs,(Zg id),Zs,?_⟩;rw[shpS,h36',QJ];exact⟨rfl,by trivial⟩
  ·intro h36;have h36':headS a b=true:=by rw[<-qq];exact h36
   have hcl:a.cs.length=b.cs.length:=by
    rw[headS,qh] at h36';exact jy h36'.2
   refine za (z6 ?_);refine Zrs [2,3,5] ?_;refine zb fun Q0 hN0 hX0 hR0 hE0=> ?_;refine zn (σ:=Nat) (fun i=>i<=a.cs.length/\∀z,z<i->keyQ a b z=false) (fun i=>a.cs.length-i) (fun i=>[(2,.ptr 6 0 0 0),(3,.ptr 7 0 0 0),(5,.int .i64 i)]) (fun _=>⟨8,[(7,uQ (.row ⟨true,true,89,5,1,fun _=>[.int .i64 b.lvl,.int .u32 b.wd,.slc false 2 0 0 b.ids.length,.slc false 3 0 0 b.cs.length,.slc false 5 0 0 q]⟩)),(6,uQ (.row ⟨true,true,89,5,1,fun _=>[.int .i64 a.lvl,.int .u32 a.wd,.slc false 0 0 0 a.ids.length,.slc false 1 0 0 a.cs.length,.slc false 4 0 0 p]⟩)),(0,uQ (.row ⟨false,false,3,1,a.ids.length,ints a.ids⟩)),(1,uQ (.row ⟨false,false,117,5,a.cs.length,z30 a.cs⟩)),(2,uQ (.row ⟨false,false,3,1,b.ids.length,ints b.ids⟩)),(3,uQ (.row ⟨false,false,117,5,b.cs.length,z30 b.cs⟩))]⟩) 0 ⟨qo _,fun z h=>absurd h (qR _)⟩ (ρ:=id) (Zg id) ?_;rintro i hi QL1 hL1 hRL1 hEL1;refine z6 ?_;refine Zrs [2,3,5,42] ?_;refine z7 _ rfl ?_ ?_
   ·intro h42;replace h42:=Znb h42;obtain⟨hi1,hi2⟩:=hi;refine za (z6 (zb fun Q1 hN1 hX1 hR1 hE1=> ?_));refine z6 ?_;refine Zrd [2,3,5,59] [0,1,2,3,4,5,6,7,8,9,10,11,12,13,14] [[],[],[],[],[],[],[],[],[],[],[],[],[],[],[]] [[],[],[],[],[],[],[],[],[],[],[],[],[],[],[]] ?_;intro K hK;iterate 15 (refine Zo (Zi [] []) ?_)
    refine zx (Zpr (hK _ _ ?_));clear hK K;refine z7 _ rfl ?_ ?_
    ·intro h59;have h59':keyQ a b i=true:=h59;refine Zrs [4] ?_;refine ze (hR1 _ _ (hRL1 _ _ (hR0 _ _ (hQ _ _ ?_))));refine zc (H':=⟨6,[]⟩) (.inl rfl) ?_;refine Zou ?_;refine⟨Zs,(Zg id),Zs,?_⟩;rw[shpS,z3p (i:=i) (by omega) h59',Qp,jn];exact⟨rfl,by trivial⟩
    ·intro h59;have h59':keyQ a b i=false:=h59;refine za (zd (hN1 _ _ ?_));refine Zrg [2,3,5] ?_;refine zd (hL1 _ _ ?_);rw[show(i:Int)+1=((i+1:Nat):Int) from by omega];refine⟨i+1,⟨⟨by omega,fun z hz=> ?_⟩,by omega⟩,id,(Zg id)⟩
     by_cases e:z=i
     ·subst e;exact h59'
     ·exact hi2 z (by omega)
   ·intro h42;replace h42:=Znb h42;obtain⟨hi1,hi2⟩:=hi;refine zm (hEL1 _ _ _ (hX0 _ _ ?_));refine Zrs [4] ?_;refine ze (hQ _ _ ?_);refine zc (H':=⟨6,[]⟩) (.inl rfl) ?_;refine Zou ?_;refine⟨Zs,(Zg id),Zs,?_⟩;rw[shpS,h36',z1y fun z hz=>hi2 z (by omega)];exact⟨rfl,by trivial⟩
 iterate 17 (refine Zo Zl ?_)
 refine z11 ?_;refine z1w rfl rfl ?_;refine Zgr ?_
 first|refine z1r ?_ ?_|refine(fun(h1:false=true->_) (h2:false=false->_)=>qe h1 fun _=>h2 rfl) ?_ ?_|refine qe ?_ ?_
 ·intro hg17
  first
   |(simp at hg17;done)
   |skip
    try replace hg17:=Znb hg17
    refine Zo id ?_;refine Zc1 (sameI5_spec a.ids b.ids a.ids.length b.ids.length rfl rfl (by omega) (by omega)) (fun z=>if z=1 then 2 else z) ?_;iterate 13 (refine Zo Zl ?_)
    refine z8 ?_;refine Zpr ?_;refine hk1 _ ?_;simp_all[headS,neB]
 ·intro hg17;refine⟨.bool false,?_⟩
  first
   |(simp at hg17;done)
   |skip
    try replace hg17:=Znb hg17
    iterate 13 (refine Zo Zl ?_)
    refine z8 ?_;refine Zpr ?_;refine hk1 _ ?_;simp_all[headS,neB]
end
end Go.Proofs
namespace Go.Sk
open Go.RowKit
def schedT0 (ops:Array Oper):Plan->Array Bool->Bool
 |.done,listed=>(Region.ready .any ops listed).isEmpty
 |.op i p,listed=>(if opQ ops i then(Region.ready .any ops listed).contains i && Region.free .any ops listed i else Region.ready .any ops listed==[i]) && schedT0 ops p (listed.setIfInBounds i true)
 |_,_=>false
def nilW (ops:Array Oper)(W:List (List Nat)):Bool:=(List.range ops.size).all fun j=> !isNew ops j && (W.getD j []).isEmpty
section
variable {X:Cx} {ops:Array Oper} {K:Fr->AH->Prop} {Q:Exit->Act->World->Prop} {Wf Uq:List (List Nat)}
def SW0 (_:Nat)(w w':World):Prop:=Kp w (fun _=>False) w'
theorem runT0_ok (hQ:∀a w,At X K a w->Q .normal a w)(hQp:∀c a w,¬Q (.panic c) a w)
  (hns:Region.noSelect ops=true) (hW:nilW ops Wf=true) (hd:dstOk X.n ops.toList=true):
  ∀(p:Plan) (listed:Array Bool) {β:Env} {H:AH} {w:World} {fr:Fr} {a:Act},schedT0 ops p listed=true->Closed ops listed->
   St X β H w->FrOk X β H.nxt fr a->
   runT X.P X.wrap X.m0 Wf Uq ops p [] fr H K->wpAnyG X.P ops Q SW0 (z5o ops) p.len listed a w
 |.done,listed,β,H,w,fr,a,hs,_,hS,hF,h=>⟨by simpa [schedT0] using hs,hQ _ _ ⟨β,fr,H,h,hF,hS⟩⟩
 |.two ..,_,_,_,_,_,_,hs,_,_,_,_=>by simp[schedT0] at hs
 |.three ..,_,_,_,_,_,_,hs,_,_,_,_=>by simp[schedT0] at hs
 |.four ..,_,_,_,_,_,_,hs,_,_,_,_=>by simp[schedT0] at hs
 |.op i p,listed,β,H,w,fr,a,hs,hcl,hS,hF,h=>by
  simp only[schedT0,qh] at hs;obtain⟨hs1,hs2⟩:=hs;simp only[runT] at h;unfold stpI at h
  cases ho:ops[i]? with
  |none=>rw[ho] at h;exact h.elim
  |some o=>
   rw[ho] at h;simp only at h;have his:i<ops.size:=(q9.1 ho).1;have hWi:=qu.1 hW i (Qd.2 his);rw[qh,qk,List.isEmpty_iff] at hWi;have hnn:newN ops i H []=[]:=by unfold newN;rw[hWi.1];rfl
   have hwo:wOf Wf i H []=[]:=by unfold wOf anyW;rw[hWi.2];rfl
   rw[hnn,hwo] at h;have hom:o∈ops.toList:=by have:=jr ho;simpa using this
   have hdo:∀t,o.dst=some t->t<X.n:=dstOk_spec hd hom
   split at hs1
   ·rename_i hq0;rw[qh] at hs1;obtain⟨hr,hfree⟩:=hs1;have hr':i∈Region.ready .any ops listed:=by simpa using hr
    have hcx:=hcl.set hr';have hisq:z5o ops i=true:=by unfold opQ at hq0;unfold z5o;exact hq0
    have hq:isQ o.op=true:=by unfold opQ at hq0;rw[ho] at hq0;exact hq0
    obtain⟨v,fr',hy,hk,hF'⟩:=stp_quiet (C:=Kp w (fun _=>False)) hS hF hdo hq (fun _ w' hw'=>hw'.mono fun b hb=>hb.elim) h;refine wpAnyG_first (T:=Kp w (fun _=>False)) ho hisq (j0 hns) (fun c a w hh=>absurd hh (hQp c _ w)) ?_ (fun _=>Kp.refl _ _) p.len listed a w hcl (Jn ho hfree) hr' hy (Kp.refl _ _) (runT0_ok hQ hQp hns hW hd p _ hs2 hcx hS hF' hk);intro listed' hcl' hun j hj hji w2 w3 hT hjq hSw;exact⟨qT hT.1 hSw.1,fun b hb hnb=>by rw[<-hT.2 b hb hnb];exact hSw.2 b (Qq hb hT.1) hnb⟩
   ·rename_i hq0;have hq:isQ o.op=false:=by unfold opQ at hq0;rw[ho] at hq0;simpa using hq0
    have hisq:z5o ops i=false:=by unfold z5o;rw[ho];exact hq
    have hrd:Region.ready .any ops listed=[i]:=by simpa using hs1
    refine⟨fun h0=>(by rw[hrd] at h0;cases h0),fun x hx=> ?_⟩;have hcx:=hcl.set hx;rw[hrd] at hx;simp only[qB,QQ,Je] at hx;subst hx;have he:=stp_eff (Q:=Q) hS hF hdo hq h;unfold wpOp;rw[ho];simp only
    split at he
    ·rename_i hw;rw[qf hw];refine .inl (Jm (fun a' w' hp=> ?_) he);obtain⟨β',fr',H',hk,hF',hS',hag',hle',hsub',hkp'⟩:=hp;refine⟨⟨fun hh=>(by rw[hisq] at hh;cases hh),(hkp' rfl).mono fun b hin=> ?_⟩,runT0_ok hQ hQp hns hW hd p _ hs2 hcx hS' hF' hk⟩;obtain⟨id,k,o',L,hm,_⟩:=hin
     cases hm
    ·rename_i hw;rw[qb hw];obtain⟨fr',hk,hF'⟩:=he;exact⟨⟨fun hh=>(by rw[hisq] at hh;cases hh),Kp.refl _ _⟩,runT0_ok hQ hQp hns hW hd p _ hs2 hcx hS hF' hk⟩
end
variable {X:Cx} {Q:Exit->Fr->AH->Prop} {fr:Fr} {H:AH} {l:List Code}
theorem Cs.regNil {c : Code} {id : Nat} {ops : List Oper} (keep : List Nat) (p : Plan) (W U : List (List Nat)) (hm : X.P.follows .mixedOrders = true)
    (hd:dstOk X.n ops=true) (hlen:p.len=ops.length) (hns:Region.noSelect ops.toArray=true) (hW:nilW ops.toArray W=true)
    (hs:schedT0 ops.toArray p (Array.replicate ops.length false)=true)
    (h:∀K:Fr->AH->Prop,(∀fr H,Cs X (c::l) Q fr H->K fr H)->(∀fr H F G ρ,z5d X ρ fr H F G->K F G->K fr H)->runT X.P X.wrap X.m0 W U ops.toArray p [] fr H (fun fr H=>K (prune keep fr) H)):Cs X (.region id ops.toArray true::c::l) Q fr H:=by
  have h1:=h (fun fr H=>Cs X (c::l) Q fr H) (fun _ _ h=>h) (fun fr H F G ρ hg hk=>Cs.give ρ hg hk)
  have h2:Cw X (.region id ops.toArray true) (fun e fr H=>match e with| .normal=>Cs X (c::l) Q (prune keep fr) H|e=>Q e fr H) fr H:=fun β a w hF hS=>by
    refine yg hm (wpAny_of_G (S:=SW0) (isq:=z5o ops.toArray) _ _ _ _ ?_)
    have := runT0_ok (X := X) (ops := ops.toArray) (Q := lift X (fun e fr H => match e with | .normal => Cs X (c :: l) Q (prune keep fr) H | e => Q e fr H)) (fun _ _ h => h) (fun _ _ _ h => h) hns hW (by simpa using hd) p (Array.replicate ops.length false) (a := a) hs (fun j oj _ hl => by
        exfalso
        rcases qZ j ops.length with h'|h'
        · simp[h'] at hl
        · simp[h'] at hl) hS.drew hF h1
    rw[hlen] at this;simpa using this
  refine Cw.conv h2 ?_;intro e a w hh
  cases e with
  |normal=>exact At.prune (K:=fun fr H=>Cs X (c::l) Q fr H) hh
  |_=>exact hh
end Go.Sk
