/-
  Walks and plain facts, joined: part 17 of 18.
  Conditions: those that each statement names.
-/
import Derived.Test.YtpnefndionckaaaGreatDoorRpi
import Derived.Test.YtpnefndionckaaaGreatDoorRpk
import Derived.Test.YtpnefndionckaaaGreatDoorRpc
import Derived.Test.YtpnefndionckaaaGreatDoorRpm
import Derived.Test.YtpnefndionckaaaGreatDoorRpj
import Derived.Test.YtpnefndionckaaaGreatDoorRpn
import Derived.Test.YtpnefndionckaaaGreatDoorRph
import Derived.Test.YtpnefndionckaaaGreatDoorRpo
import Derived.Test.YtpnefndionckaaaGreatDoorRpg
set_option linter.unusedSimpArgs false
set_option linter.unusedVariables false
set_option linter.defProp false
set_option maxRecDepth 4000
set_option maxHeartbeats 8000000
namespace Go.Proofs
open Tryz
open Go.Sk
section
def JoMm.exE:=aj9 @zd @zf @zg @zm @zi z58 @zn z3g (aj6 z3w ec28 ec22 @z2i ec23 ec24)
def JoMm.gxE:=aj6 z3g ec16 z3w ec25 ec26 ec29
def JoMm.axE:=aj9 @zd @zf @zg @zm @zi z58 @zn z3g (aj8 z3w ec28 ec22 @z2i ec24 @z21 @z38 ec27)
open JoMm (gxE axE exE)
open D0 (oxE sdE)
def refClasses_spec (xs:List Nd)(n:Nat)(hn:xs.length=n)(lv:Int)(hx:n<=1000000):
  zj prog 130 [.slc false 0 0 0 n,.int .i64 lv] ⟨1,[(0,rI 62 3 n (nds xs))]⟩
   (fun s H1=>s= .slc true 1 0 0 (z54 xs lv).length/\H1=⟨3,[(1,rO 23 1 ((z54 xs lv).length) (clR true 2 (z54 xs lv))),(2,((z54 xs lv).length+1,fam true 62 3 (clF true (z54 xs lv))))]⟩):=by
 subst hn;refine Zf false 62 [.tmp 4] func130 ntmps130 results130 fun w0 own0 β0 Q hQ hQn=> ?_;refine Zrs [0,1] ?_;refine Zrs [0,1,5] (z6 ?_);refine Zrs [0,1,5,6] (z2f 5 23 1 (clR true 2 []) rfl ?_);dsimp only;refine z29 62 3 (clF true []) ?_;dsimp only;refine z8 fun Q0 hN0 hX0 hR0 hE0=> ?_;refine zl (σ:=Nat) (fun i=>i<=xs.length/\(16<lv->i=0)) (fun i=>xs.length-i) (fun i=>[(0,.slc false 0 0 0 xs.length),(1,.int .i64 lv),(5,.slc true 1 0 0 (clsG lv (xs.take i) []).length),(6,.int .i64 i)]) (fun i=>⟨3,[(1,rO 23 1 ((clsG lv (xs.take i) []).length) (clR true 2 (clsG lv (xs.take i) []))),(2,((clsG lv (xs.take i) []).length+1,fam true 62 3 (clF true (clsG lv (xs.take i) [])))),(0,rI 62 3 xs.length (nds xs))]⟩) 0 ⟨ql _,fun _=>rfl⟩ (ρ:=id) (have xE:=@clsG.eq_1;Zgx id) ?_;rintro i hi QL1 hL1 hRL1 hEL1;refine z6 (Zrs [0,1,5,6,15] ?_);refine Zcm ?_ ?_
 ·intro h15;replace h15:=Znb h15;obtain⟨hi,hi0⟩:=hi;have hi15:i<xs.length/\lv<=16:=by simp at h15;omega
  have hok:=clsG_ok (by omega:lv<=16) (xs.take i) (s:=[]) (cs:=[]) ⟨fun c h=>(by cases h),fun c h=>(by cases h),Ju⟩ fun y h=>(by cases h);obtain⟨cs,hcs⟩:∃cs,clsG lv (xs.take i) []=cs:=⟨_,rfl⟩;rw[hcs] at hok ⊢;have hne:∀k,k<cs.length->cnd cs k≠[]:=fun k hk=>by rw[cnd_lt hk];exact hok.1.ne _ (qK hk)
  have hcl:cs.length<=i:=clsG_len lv xs hi hcs;refine z7 (z6 ?_);refine z8 fun Q1 hN1 hX1 hR1 hE1=> ?_;refine Zrs [0,1,5,6,7] (z6 ?_);refine z8 fun Q2 hN2 hX2 hR2 hE2=> ?_;refine zl (σ:=Nat) (fun k=>k<=cs.length/\∀q,q<k->z4f (hdN (cnd cs q)).word (nd xs i).word lv=false) (fun k=>cs.length-k) (fun k=>[(0,.slc false 0 0 0 xs.length),(1,.int .i64 lv),(5,.slc true 1 0 0 cs.length),(6,.int .i64 i),(7,.int .i64 k)]) (fun k=>⟨3,[(1,rO 23 1 cs.length (clR true 2 cs)),(2,(cs.length+1,fam true 62 3 (clF true cs))),(0,rI 62 3 xs.length (nds xs))]⟩) 0 ⟨ql _,fun q h=>absurd h (qI _)⟩ (ρ:=id) (Zg id) ?_;rintro k hk QL2 hL2 hRL2 hEL2;obtain⟨hk1,hk2⟩:=hk;have hcn:k<cs.length->0<(cnd cs k).length:=fun g=>List.length_pos_iff.2 (hne k g);refine z6 (z6 ?_);refine Zrd [0,1,5,6,7,38] [0,1,2,3,4,5,6,7,8,9,10,11,12,13,14,15,16,17,18,19,20] [] [] ?_;intro K hK
  have hk6:∀B:Bool,(B=true->k<cs.length/\z4f (hdN (cnd cs k)).word (nd xs i).word lv=false)->(B=false->k=cs.length\/k<cs.length/\z4f (hdN (cnd cs k)).word (nd xs i).word lv=true)->K [(0,.slc false 0 0 0 xs.length),(1,.int .i64 lv),(5,.slc true 1 0 0 cs.length),(6,.int .i64 i),(7,.int .i64 k),(38,.bool B)] ⟨3,[(1,rO 23 1 cs.length (clR true 2 cs)),(2,(cs.length+1,fam true 62 3 (clF true cs))),(0,rI 62 3 xs.length (nds xs))]⟩:=by
   intro B hB1 hB2;refine hK _ _ ?_;clear hK K;refine Zcm ?_ ?_
   ·intro h38;obtain⟨hB3,hB4⟩:=hB1 h38;refine z7 ?_;refine z8 fun Q3 hN3 hX3 hR3 hE3=> ?_;refine Zrg [0,1,5,6,7] (za (hN3 _ _ (za (hL2 _ _ ?_))));rw[iS k];refine⟨k+1,⟨⟨by omega,fun q hq=> ?_⟩,by omega⟩,id,(Zg id)⟩
    by_cases e:q=k
    ·subst e;exact hB4
    exact hk2 q (by omega)
   intro h38;have hB3:=hB2 h38;refine zk (hEL2 _ _ _ (hX2 _ _ (z6 (Zrs [0,1,5,6,7,44] ?_))));refine Zcn ?_ ?_
   ·intro h44;have hkl:k=cs.length:=by omega
    subst hkl;refine Zrg [0,1,5,6,7] ?_;refine Zrd [0,1,5,6] [0,1,2,3,4,5,6,7,8,9,10,11,12,13] (ws 0 [(13,[4])]) (ws 0 [(13,[4])]) ?_;intro K hK;iterate 13 (refine Zo (Zi [] []) ?_)
    refine Zo (Zi [4] [4]) ?_;refine zz (Zpr (hK _ _ ?_));clear hK K;refine za (hN1 _ _ ?_)
    have hout:∀q,q<cs.length+1->(if q=cs.length then [SV.slc true 6 0 0 1] else app (clR true 2 cs) cs.length (z3y 1 1 [SV.nils]) q)=SV.renPL (mvP (fun q=>if q=1 then 4 else q) 2 cs.length 6) (clR true 2 (cs++[[nd xs i]]) q):=fun q hq=>by
     rw[clR_renP]
     split
     ·rename_i e;subst e;rw[cnd_last];rfl
     rw[cnd_append (by omega),app,qe (by omega)];rfl
    refine z2y (fr':=[(0,.slc false 0 0 0 xs.length),(1,.int .i64 lv),(5,.slc true 1 0 0 (cs.length+1)),(6,.int .i64 i)]) (H':=⟨3,[(1,rO 23 1 (cs.length+1) (clR true 2 (cs++[[nd xs i]]))),(2,(cs.length+1+1,fam true 62 3 (clF true (cs++[[nd xs i]])))),(0,rI 62 3 xs.length (nds xs))]⟩) _ (Zgp (fun q=>if q=1 then 4 else q) (2) (cs.length) (6) (z17 rfl qf (by decide) (ze.of (fun _=>⟨rfl,rfl⟩) rfl (qd _) hout) (Obj.lt_row.2 fun q _=>(clR_lt _ _ _ _ q).2 (qb rfl)) (qb rfl) (z47 rfl rfl qf ⟨fun _=>⟨rfl,rfl⟩,rfl⟩ (QW _) (fun q hq hne=>⟨by omega,clF_givesP _ _ _ _ _ _ id (cnd_append (by omega)),clFm_lt _ _ _ _⟩) (clF_newP _ _ _ _ _ rfl (cnd_last _ _)) (clFm_lt _ _ _ _) (qb rfl) (z17 rfl qf (by decide) (ze.of (fun h=>by cases h) rfl (qd _) fun q _=>(z28 _ _ q).symm) (Obj.lt_row.2 fun q _=>z4e _ _ q) (qb rfl) trivial)))) ?_;refine Zrg [0,1,5,6] (za (hL1 _ _ ?_));have hstep:clsG lv (xs.take (i+1)) []=cs++[[nd xs i]]:=by rw[take_nd (by omega),clsG_snoc,hcs,insC_new hk2]
    rw[iS i];refine⟨i+1,⟨⟨by omega,by omega⟩,by omega⟩,id,?_⟩;simp only[hstep,qX,Qn];exact(Zg id)
   intro h44
   obtain⟨hkl,hsm⟩:k<cs.length/\z4f (hdN (cnd cs k)).word (nd xs i).word lv=true:=by
    rcases hB3 with g|g
    ·omega
    exact g
   have hml:(cnd cs k).length<=i:=by
    have h1:=hok.1.eq (cnd cs k) (by rw[cnd_lt hkl];exact qK hkl);have h2:(grpW ([]++xs.take i) lv (hdN (cnd cs k)).word).length<=([]++xs.take i).length:=jd ..;rw[<-h1] at h2;simp at h2;omega
   refine z7 ?_;refine Zrd [0,1,5,6] [0,1,2,3,4,5,6,7,8,9,10,11,12,13] (ws 0 [(11,[2]),(13,[1])]) (ws 0 [(0,[2]),(1,[2]),(11,[2]),(12,[2]),(13,[1,2])]) ?_;intro K hK;iterate 2 (refine Zo (Zi [] [2]) ?_)
   iterate 9 (refine Zo (Zi [] []) ?_)
   refine Zo (Zi [2] [2]) ?_;refine Zo (Zi [] [2]) ?_;refine Zo (Zi [1] [1,2]) ?_;refine zz (Zpr (hK _ _ ?_));clear hK K;refine za (hN1 _ _ ?_)
   have hout:∀q,q<cs.length->(if q=k then [SV.slc true 4 0 0 ((cnd cs k).length+1)] else clR true 2 cs q)=SV.renPL (mvP id 2 k 4) (clR true 2 (cs.set k (cnd cs k++[nd xs i])) q):=fun q hq=>by
    rw[clR_renP,cnd_set _ _ _ _ hkl]
    split
    ·simp
    rfl
   refine z2y (fr':=[(0,.slc false 0 0 0 xs.length),(1,.int .i64 lv),(5,.slc true 1 0 0 cs.length),(6,.int .i64 i)]) (H':=⟨3,[(1,rO 23 1 cs.length (clR true 2 (cs.set k (cnd cs k++[nd xs i])))),(2,(cs.length+1,fam true 62 3 (clF true (cs.set k (cnd cs k++[nd xs i]))))),(0,rI 62 3 xs.length (nds xs))]⟩) _ (Zgp (id) (2) (k) (4) (z17 rfl qf (by decide) (ze.of (fun _=>⟨rfl,rfl⟩) rfl (qd _) hout) (Obj.lt_row.2 fun q _=>(clR_lt _ _ _ _ q).2 (qb rfl)) (qb rfl) (z47 rfl rfl qf ⟨fun _=>⟨rfl,rfl⟩,rfl⟩ (QW _) (fun q hq hne=>⟨by omega,by rw[qc hne];exact clF_givesP _ _ _ _ _ _ id (by rw[cnd_set _ _ _ _ hkl,qc hne]),clFm_lt _ _ _ _⟩) (clF_newP _ _ _ _ _ (by simp) (by rw[cnd_set _ _ _ _ hkl,qe rfl])) (clFm_lt _ _ _ _) (qb rfl) (z17 rfl qf (by decide) (ze.of (fun h=>by cases h) rfl (qd _) fun q _=>(z28 _ _ q).symm) (Obj.lt_row.2 fun q _=>z4e _ _ q) (qb rfl) trivial)))) ?_;refine Zrg [0,1,5,6] (za (hL1 _ _ ?_));have hstep:clsG lv (xs.take (i+1)) []=cs.set k (cnd cs k++[nd xs i]):=by rw[take_nd (by omega),clsG_snoc,hcs,insC_old hkl hsm hk2]
   rw[iS i];refine⟨i+1,⟨⟨by omega,by omega⟩,by omega⟩,id,?_⟩;simp only[hstep,qy];exact(Zg id)
  iterate 18 (refine Zo (Zi [] []) ?_)
  refine runI_cons _ [] [] rfl rfl rfl ?_;refine z1b rfl rfl ?_;refine Zgr ?_;refine z15 ?_ ?_
  ·intro hg18
   first
    |(simp at hg18;done)
    |skip
     try replace hg18:=Znb hg18
     refine Zo id ?_;refine Zc1 (refSame_w_spec (nd (cnd cs k) 0).word (nd xs i).word lv) (id) ?_;iterate 2 (refine Zo (Zi [] []) ?_)
     refine zz ?_;refine Zpr ?_;refine hk6 _ (fun g=> ?_) (fun g=> ?_)
     ·rw[qj,qm,qn] at g;exact⟨by omega,g.2⟩
     rw[qB hg18,qL,qr] at g;exact .inr ⟨by omega,g⟩
  intro hg18;refine⟨.bool false,?_⟩
  first
   |(simp at hg18;done)
   |skip
    try replace hg18:=Znb hg18
    iterate 2 (refine Zo (Zi [] []) ?_)
    refine zz ?_;refine Zpr ?_;refine hk6 _ (fun g=> ?_) (fun g=> ?_)
    ·rw[qm] at g;omega
    exact .inl (by omega)
 intro h15;obtain⟨hi,hi0⟩:=hi;have hi15:¬(i<xs.length/\lv<=16):=by simp at h15;omega
 refine zk (hEL1 _ _ _ (hX0 _ _ (Zrs [4] (zb (hQ _ _ ?_)))))
 have he:clsG lv (xs.take i) []=z54 xs lv:=by
  by_cases h16:16<lv
  ·rw[hi0 h16,z54,qe h16];rfl
  rw[Qj (by omega),z54,qc (by omega)]
 rw[he];exact Zos (id) (.slc true 1 0 0 (z54 xs lv).length) (⟨3,[(1,rO 23 1 ((z54 xs lv).length) (clR true 2 (z54 xs lv))),(2,((z54 xs lv).length+1,fam true 62 3 (clF true (z54 xs lv))))]⟩)
def refClasses6_spec (xs:List Nd)(n:Nat)(hn:xs.length=n)(lv:Int)(hx:n<=1000000):
  zj prog 92 [.slc false 0 0 0 n,.int .i64 lv] ⟨1,[(0,rI 62 3 n (nds xs))]⟩
   (fun s H1=>s= .slc true 1 0 0 (z54 (z4w xs) lv).length/\H1=⟨3,[(1,rO 23 1 ((z54 (z4w xs) lv).length) (clR true 2 (z54 (z4w xs) lv))),(2,((z54 (z4w xs) lv).length+1,fam true 62 3 (clF true (z54 (z4w xs) lv))))]⟩):=by
 subst hn;have hsl:(z4w xs).length=xs.length:=srtN_length xs;refine Zf false 9 [.tmp 4] func92 ntmps92 results92 fun w0 own0 β0 Q hQ hQn=> ?_;refine Zrs [0,1] ?_;refine sg [4] rfl ?_;intro K hK;refine Zo Zl ?_;refine Zd Zl (refSort_spec xs xs.length rfl hx) (id) ?_;refine Zo Zl ?_;refine Zd Zl (refClasses_spec (z4w xs) xs.length hsl lv hx) (fun _=>1) ?_;refine Zkl hK ?_;clear hK K;refine zb (hQ _ _ ?_);exact Zos (fun q=>if q=1 then 2 else if q=2 then 3 else q) (.slc true 1 0 0 (z54 (z4w xs) lv).length) (⟨3,[(1,rO 23 1 ((z54 (z4w xs) lv).length) (clR true 2 (z54 (z4w xs) lv))),(2,((z54 (z4w xs) lv).length+1,fam true 62 3 (clF true (z54 (z4w xs) lv))))]⟩)
end
section
def put_Bn (l:List Cl)(c:Nat)(b:Bool)(h:c<l.length):(fun i=>if i=c then [SV.str (cl l c).key,.int .i64 (cl l c).left,.int .i64 (cl l c).right,.int .i64 (cl l c).lock,.bool b] else [SV.str (cl l i).key,.int .i64 (cl l i).left,.int .i64 (cl l i).right,.int .i64 (cl l i).lock,.bool (cl l i).gone])=z1x (setB l c b):=cls_put' l c {cl l c with gone:=b} h
def LlZm.exE:=aj9 @zd @zf @zo @zh ec1 ec2 @zg @zp (aj9 @zq ec9 ec3 ec4 ec10 @z1a.eq_1 @zu.eq_1 ec39 (aj ec40 @ints.eq_1))
def LlZm.axE:=aj9 @zd @zf @zo @zh ec1 ec2 @zg @zp (aj9 @zq ec9 ec3 ec4 ec10 @z1a.eq_1 @zu.eq_1 ec39 (aj7 ec40 @z1p @z2j @pAt_ren @renL_ite ec43 @z2r))
open LlWm (gxE)
open LlZm (axE exE)
open LlBm (oxE)
open D0 (sdE)
def refNew_spec (keys:List ByteArray)(inn:List Bool)(n m:Nat)(hn:keys.length=n)(hi:inn.length=n)(hn12:n<=64)(hm1:1<=m)(hm8:m<=8)(hk:∀i,i<n->okKey (kAt keys i)=true)(hd:keys.Nodup):
  zj prog 93 [.slc false 0 0 0 n,.slc false 1 0 0 n,.int .i64 m] ⟨2,[(0,inStr keys),(1,inBo inn)]⟩
   (fun s H1=>s= .tup [lsS (newK keys inn n,List.replicate m noPr),.int .i64 0]/\H1=lsH (newK keys inn n,List.replicate m noPr)):=by
 subst hn;have hcl:(lnk (celO keys keys.length) 0 (ordN keys inn keys.length)).length=keys.length+2:=by rw[lnk_length,celO_len]
 have hzl:(ordZ keys inn keys.length).length<=keys.length+2:=by
  have:=ordR_pos keys inn keys.length;rw[<-ordZ_of,qX,Qn];omega
 generalize hL:lnk (celO keys keys.length) 0 (ordN keys inn keys.length)=L at*
 refine Zf false 65 [.cell 6 85,.tmp 7] func93 ntmps93 results93 fun w0 own0 β0 Q hQ hQn=> ?_;refine Zrs [0,1,2,6] (z6 ?_);refine sg [0,1,2,6,8] rfl ?_;intro K hK;iterate 3 (refine Zo Zl ?_)
 refine Zd Zl (newError_spec keys inn keys.length m rfl hi hn12 hm1 hm8 hk hd) (id) ?_;refine Zkl hK ?_;clear hK K;refine Zrs [0,1,2,6,8,18] ?_;refine Zcm ?_ ?_
 ·intro h18
  exfalso;simp at h18
 intro h18;refine z7 (sg [0,1,2,6,9,10] rfl ?_);intro K hK;iterate 3 (refine Zo Zl ?_)
 have h:=chained_spec keys inn keys.length rfl hi hn12;rw[hL] at h;refine Zc1 (h) (id) ?_;refine Zkl hK ?_;clear hK K;refine z6 (Zrs [0,1,2,6,9,10,11] ?_);refine z8 fun Q0 hN0 hX0 hR0 hE0=> ?_;refine zl (σ:=Nat) (fun i=>i<=keys.length) (fun i=>keys.length-i) (fun i=>[(0,.slc false 0 0 0 keys.length),(1,.slc false 1 0 0 keys.length),(2,.int .i64 m),(6,.ptr 2 0 0 0),(9,.slc true 3 0 0 (keys.length+2)),(10,.slc true 4 0 0 (ordZ keys inn keys.length).length),(11,.int .i64 i)]) (fun i=>⟨5,[(4,zu (ordZ keys inn keys.length)),(3,rO 117 5 (keys.length+2) (z1x (gonN L inn i))),(2,rV 85 2 1 (fun _=>[.nils,.nils])),(0,inStr keys),(1,inBo inn)]⟩) 0 (ql _) (ρ:=id) (have xE:=aj @gonN.eq_1 @gonN.eq_2;Zgx id) ?_;rintro i hle QL1 hL1 hRL1 hEL1;refine z6 (Zrs [0,1,2,6,9,10,11,30] ?_);refine Zcn ?_ ?_
 ·intro h30;have hli:i<keys.length:=by omega
  have hgl:=gonN_len L inn i;refine z7 (z6 ?_);refine z8 fun Q1 hN1 hX1 hR1 hE1=> ?_;refine z3v [0,1,2,6,9,10,11] rfl ?_;intro K hK;iterate 9 (refine Zo Zl ?_)
  rw[show(i:Int)+2=((i+2:Nat):Int) from by omega];refine Zad ?_;iterate 2 (refine Zo Zl ?_)
  rw[put_Bn (gonN L inn i) (i+2) (!bAt inn i) (by omega)];refine Zad ?_;refine Zk hK ?_;clear hK K;refine za (hN1 _ _ (Zrg [0,1,2,6,9,10,11] (za (hL1 _ _ ?_))));rw[iS i];refine⟨i+1,⟨by omega,by omega⟩,id,?_⟩;simp only[gonN];exact(Zg id)
 intro h30;have hni:i=keys.length:=by omega
 subst hni;have hgl:=gonN_len L inn keys.length;refine zk (hEL1 _ _ _ (hX0 _ _ (z6 (Zrs [2,6,9,10,12] ?_))));refine z8 fun Q2 hN2 hX2 hR2 hE2=> ?_;refine zl (σ:=Nat×List Cl) (fun σ=>((1<=σ.1/\σ.1<=(ordZ keys inn keys.length).length)/\σ.2.length=keys.length+2)/\lefL σ.2 (nth (ordZ keys inn keys.length) (σ.1-1)) ((ordZ keys inn keys.length).drop σ.1)=newK keys inn keys.length) (fun σ=>(ordZ keys inn keys.length).length-σ.1) (fun σ=>[(2,.int .i64 m),(6,.ptr 2 0 0 0),(9,.slc true 3 0 0 (keys.length+2)),(10,.slc true 4 0 0 (ordZ keys inn keys.length).length),(12,.int .i64 σ.1)]) (fun σ=>⟨5,[(4,zu (ordZ keys inn keys.length)),(3,rO 117 5 (keys.length+2) (z1x σ.2)),(2,rV 85 2 1 (fun _=>[.nils,.nils]))]⟩) (1,gonN L inn keys.length) ⟨⟨⟨qd _,by dsimp only;rw[ordZ];simp⟩,by dsimp only;omega⟩,by rw[<-newK_ref,hL];rfl⟩ (ρ:=id) (Zg id) ?_;rintro⟨j,cs⟩ hj QL2 hL2 hRL2 hEL2;refine z6 (Zrs [2,6,9,10,12,46] ?_);refine Zcn ?_ ?_
 ·intro h46;obtain⟨⟨⟨hj1,hj2⟩,hj3⟩,hj4⟩:=hj;dsimp only at hj1 hj2 hj3 hj4;have hjl:j<(ordZ keys inn keys.length).length:=by omega
  have hz1:=ordZ_mem (keys:=keys) (inn:=inn) (n:=keys.length) (q:=j) (by omega);have hz2:=ordZ_mem (keys:=keys) (inn:=inn) (n:=keys.length) (q:=j-1) (by omega);refine z7 (z6 ?_);refine z8 fun Q3 hN3 hX3 hR3 hE3=> ?_;refine Zrd [2,6,9,10,12] [0,1,2,3,4,5,6,7,8,9,10,11,12] (ws 0 [(12,[3])]) (ws 0 [(12,[3])]) ?_;intro K hK;iterate 9 (refine Zo (Zi [] []) ?_)
  rw[show(j:Int)-1=((j-1:Nat):Int) from by omega];refine Zad ?_;iterate 3 (refine Zo (Zi [] []) ?_)
  refine Zo (Zi [3] [3]) ?_;rw[put_F cs (nth (ordZ keys inn keys.length) j) (nth (ordZ keys inn keys.length) (j-1)) (by omega)];refine Zad ?_;refine zz (Zpr (hK _ _ ?_));clear hK K;refine za (hN3 _ _ (Zrg [2,6,9,10,12] (za (hL2 _ _ ?_))));rw[iS j];refine⟨(j+1,z4b cs (nth (ordZ keys inn keys.length) j) (nth (ordZ keys inn keys.length) (j-1))),⟨⟨⟨⟨by dsimp only;omega,by dsimp only;omega⟩,by dsimp only;rw[z52];exact hj3⟩,?_⟩,by dsimp only;omega⟩,id,(Zg id)⟩;dsimp only;rw[<-hj4,jt hjl,lefL,<-z30 hjl]
  rfl
 intro h46;obtain⟨⟨⟨hj1,hj2⟩,hj3⟩,hj4⟩:=hj;dsimp only at hj1 hj2 hj3 hj4;rw[jZ (by omega)] at hj4;have hj6:cs=newK keys inn keys.length:=hj4;refine zk (hEL2 _ _ _ (hX2 _ _ (sg [6,7] rfl ?_)));intro K hK;iterate 3 (refine Zo Zl ?_)
 rw[prs_zero m];refine Zad ?_;refine Zkl hK ?_;clear hK K;refine zb (hQ _ _ ?_);unfold lsH lsS;dsimp only;rw[<-hj6,hj3,Qy];refine Zor (fun q=>if q=2 then 3 else if q=3 then 5 else q) (.tup [.agg [.slc true 2 0 0 (keys.length+2),.slc true 3 0 0 m],.int .i64 0]) (⟨4,[(3,rO 110 7 m (prs (List.replicate m noPr))),(2,rO 117 5 (keys.length+2) (z1x cs))]⟩) ?_
 all_goals first|trivial|(simp only[z2p,z2c,hj3,Qy];done)|(exact⟨rfl,by simp only[z2p,z2c,hj3,Qy]⟩)
end
section
def idL5 (xs:List Nd):List Int:=xs.map (·.id)
def idL5_take {xs:List Nd}{i:Nat}(h:i<xs.length):idL5 (xs.take (i+1))=idL5 (xs.take i)++[(nd xs i).id]:=by
 rw[take_nd h];simp[idL5]
def IrB5m.exE:=aj9 @zd @zf @zg @zm @zi z58 @zn z3g (aj8 z3w @zh @zx @zo @ints.eq_1 @z18 @z2d @zu.eq_1)
def IrB5m.gxE:=aj6 z3g ec16 z3w @z20 @z1u @zu.eq_1
open IrB5m (gxE exE)
open D0 (oxE sdE)
def ids5_spec (xs:List Nd)(n:Nat)(hn:xs.length=n)(hx:n<=1000000):
  zj prog 94 [.slc false 0 0 0 n] ⟨1,[(0,rI 62 3 n (nds xs))]⟩
   (fun s H1=>s= .slc true 1 0 0 n/\H1=⟨2,[(1,rO 3 1 n (ints (idL5 xs)))]⟩):=by
 subst hn;refine Zf false 20 [.tmp 2] func94 ntmps94 results94 fun w0 own0 β0 Q hQ hQn=> ?_;refine Zrs [0] ?_;refine Zrs [0,3] (z6 ?_);refine Zrs [0,3,4] (z2f 3 3 1 (ints (idL5 (xs.take 0))) rfl ?_);dsimp only;refine z8 fun Q0 hN0 hX0 hR0 hE0=> ?_;refine zl (σ:=Nat) (fun i=>i<=xs.length) (fun i=>xs.length-i) (fun i=>[(0,.slc false 0 0 0 xs.length),(3,.slc true 1 0 0 i),(4,.int .i64 i)]) (fun i=>⟨2,[(1,rO 3 1 i (ints (idL5 (xs.take i)))),(0,rI 62 3 xs.length (nds xs))]⟩) 0 (ql _) (ρ:=id) (Zg id) ?_;rintro i hi QL1 hL1 hRL1 hEL1;refine z6 (Zrs [0,3,4,8] ?_);refine Zcm ?_ ?_
 ·intro h8;replace h8:=Znb h8;refine z7 (z6 ?_);refine z8 fun Q1 hN1 hX1 hR1 hE1=> ?_;refine Zrg [0,3,4] (za (hN1 _ _ ?_));refine Zrg [0,3,4] (za (hL1 _ _ ?_));rw[app_intsN (by rw[idL5,qx,qN];omega),<-idL5_take (by omega),iS i];exact⟨i+1,⟨by omega,by omega⟩,fun q=>if q=1 then 3 else q,(Zg (fun q=>if q=1 then 3 else q))⟩
 intro h8;refine zk (hEL1 _ _ _ (hX0 _ _ (Zrs [2] (zb (hQ _ _ ?_)))))
 have hin:i=xs.length:=by
  have:¬(i:Int)<xs.length:=by simpa using h8
  omega
 rw[hin,Qj (qd _)];exact Zoc (⟨2,[(1,rO 3 1 xs.length (ints (idL5 xs)))]⟩)
def cnPd (i:Nat):Pn:=fun id k=>if id=0 then(0,i+1) else(id,k)
def ids5M_spec (cs : List (List Nd)) (i k : Nat) (hk : cs.length = k) (hi : i < k) (hx : (cnd cs i).length <= 1000000) :
    zj prog 94 [.slc false 0 (i+1) 0 (cnd cs i).length] ⟨1,[(0,(k+1,fam false 62 3 (clF false cs)))]⟩
      (fun s H1=>s= .slc true 1 0 0 (cnd cs i).length/\H1=⟨2,[(1,rO 3 1 ((cnd cs i).length) (ints (idL5 (cnd cs i))))]⟩):=by
  have g:=(ids5_spec (cnd cs i) _ rfl hx).mem (cnPd i) (os1:=[(0,(k+1,fam false 62 3 (clF false cs)))])
    (by
      refine⟨⟨qf,fun k=>rfl,fun k' hk=>⟨Obj.lt_row.2 fun q _=>z4e _ _ q,?_⟩⟩,trivial⟩;simp only[cnPd,q9,Sk.find];refine⟨by omega,?_⟩;rw[z2v]
      exact⟨fun h=>(by cases h),rfl,qd _,fun q _=>(z28 _ _ q).symm⟩)
    ⟨by simp [SV.lt], trivial⟩ (by intro id k hid; simp only [cnPd]; split; · exact qf
                                   exact hid) (by
      intro x hx k;simp only[qU] at hx;subst hx
      exact clF_fown false _ _ cs k)
  have e:SV.renPL (cnPd i) [.slc false 0 0 0 (cnd cs i).length]=[.slc false 0 (i+1) 0 (cnd cs i).length]:=by simp[SV.renPL,SV.renP,cnPd]
  rw[e] at g;refine g.imp ?_;rintro s H' ⟨s0,H0',⟨rfl,rfl⟩,rfl,rfl⟩;refine⟨by simp[SV.renP,memP],?_⟩;simp only[renPOs,q8,QU,uQ,rO,rI,rV,Obj.renP,z2q]
end
section
def hasI_con (l:List Int)(v:Int):hasI l v=l.contains v:=by
 rw[qY,List.contains_iff_mem]
 constructor
 ·intro h;refine Jm fun g=> ?_
  have:hasI l v=false:=z1q fun i hi=>by
   rw[qg,z30 hi];intro e;exact g (e ▸ qK hi)
  rw[this] at h;cases h
 intro h;obtain⟨i,hi,e⟩:=Qk h;exact z3l hi (by rw[z30 hi,e];exact qB rfl)
section
variable {ns:List Nd} {h:Nat}
def shp_cls (hc:z1t ns=0)(h16:h<=16){lv i:Nat}(hl:lv<=h)(hi:i<(z54 (z4w ns) (lv:Int)).length):(z4s ns lv).length+i<(z37 ns h).length/\(shA (z37 ns h) ((z4s ns lv).length+i)).1=lv/\(shA (z37 ns h) ((z4s ns lv).length+i)).2=cnd (z54 (z4w ns) (lv:Int)) i:=by
 have hls:lstN ns (lv:Int)=lstG (z4w ns) (lv:Int):=by rw[lstN,qe ⟨hc,by omega,by omega⟩]
 have hll:(lstN ns (lv:Int)).length=(z54 (z4w ns) (lv:Int)).length:=by rw[hls,lstG,qx]
 obtain⟨h1,h2,h3⟩:=shp_at hc h16 hl (i:=i) (by omega);refine⟨h1,h2,?_⟩;have hmem:=shpL_sub h16 h1
 have hsub:∀y∈cnd (z54 (z4w ns) (lv:Int)) i,y∈ns:=fun y hy=>by
  rw[cnd_lt hi] at hy;exact(z26 ns).mem_iff.2 ((cls_sub (by omega) (qK hi)).subset hy)
 have he:(shA (z37 ns h) ((z4s ns lv).length+i)).2.map (·.id)=(cnd (z54 (z4w ns) (lv:Int)) i).map (·.id):=by
  rw[h3,hls,ind_lt (by rw[lstG,qx];exact hi),cnd_lt hi];simp[lstG]
 have hl:=Qv List.length he;rw[qx,qx] at hl;refine Qw hl fun q q1 q2=>ids_inj hc (hmem.1 _ (qK q1)) (hsub _ (qK q2)) ?_;have:=List.getElem_of_eq he (i:=q) (by rw[qx];exact q1);simpa using this
end
def clR_renMO (ρ:Nat->Nat)(o:Bool)(f g:Nat)(ms:Nat->Option Nat)(cs:List (List Nd))(i:Nat)(h:g≠f):SV.renPL (mvM ρ f ms) (clR o g cs i)=clR o (ρ g) cs i:=by
 simp[clR,SV.renPL,SV.renP,mvM,h]
def JoNm.exE:=aj9 @z11 @zd @zf @zo @zh @zx @z10 ec2 (aj9 @zg @zp @zm @zi z58 @zn z3g z3w (aj9 @zq ec3 ec5 @z1a.eq_1 @zu.eq_1 @ints.eq_1 ec34 ec35 (aj9 ec36 ec44 ec23 ec22 @z2i ec31 ec39 @Tryz.zB (aj3 @Tryz.zStrN ec40 @z18))))
def JoNm.gxE:=aj9 @z11 z3g ec16 z3w ec3 ec7 ec8 @z1a.eq_1 (aj9 @zu.eq_1 @z20 @z1u ec37 ec26 ec29 ec44 ec25 (aj4 ec42 ec40 @z3e @z5c))
def JoNm.axE:=aj9 @z11 @zd @zf @zo @zh @zx @z10 ec2 (aj9 @zg @zp @zm @zi z58 @zn z3g z3w (aj9 @zq ec3 ec5 @z1a.eq_1 @zu.eq_1 ec34 ec35 ec44 (aj9 ec22 @z2i ec39 @Tryz.zB @Tryz.zStrN ec40 @z18 @z1p (aj7 @z21 @z2j @z2r ec38 @z38 ec43 ec27))))
open JoNm (gxE axE exE)
open JnNm (oxE)
open D0 (sdE)
def buildR_spec (ns:List Nd)(dn:List Int)(m n d:Nat)(ht:Int)(hn:ns.length=n)(hd:dn.length=d)(hc:z1t ns=0)(m1:1<=m)(m8:m<=8)(h0:0<=ht)(h16:ht<=16)(hdx:d<=1000000):
  zj prog 52 [.slc false 0 0 0 n,.slc false 1 0 0 d,.int .i64 m,.int .i64 ht] ⟨2,[(0,rI 62 3 n (nds ns)),(1,rI 3 1 d (ints dn))]⟩
   (fun s H1=>s= .slc true 2 0 0 (z2n ns dn m ht).ly.length/\H1=⟨4,[(2,rO 89 5 ((z2n ns dn m ht).ly.length) (lyR 3 (z2n ns dn m ht).ly)),(3,(3*(z2n ns dn m ht).ly.length+1,fam true 3 1 (lyF true (z2n ns dn m ht).ly)))]⟩):=by
 subst hn hd;have h64:ns.length<=64:=((good_iff ns).1 hc).1;obtain⟨h,hh⟩:∃h:Nat,ht=h:=⟨ht.toNat,by omega⟩;have hhn:ht.toNat=h:=by omega
 have hn16:h<=16:=by omega
 have hLe:(z2n ns dn m ht).ly=(z37 ns h).map (newLy dn m):=by rw[z2n,hhn]
 obtain⟨L,hL⟩:∃L,(z37 ns h).map (newLy dn m)=L:=⟨_,rfl⟩;have hLl:(z4s ns (h+1)).length=L.length:=by rw[<-hL,qx];exact lvl_len hc hn16
 have hLx:L.length<=1088:=by
  have:=lvlP_bd ns (h+1);have:(h+1)*ns.length<=17*64:=j9 (by omega) h64;omega
 rw[hLe,hL];refine Zf false 91 [.tmp 8] func52 ntmps52 results52 fun w0 own0 β0 Q hQ hQn=> ?_;refine Zrs [0,1,2,3] ?_;refine Zrs [0,1,2,3,9] (z6 ?_);refine Zrs [0,1,2,3,9,10] (z2f 9 89 5 (lyR 3 (L.take 0)) rfl ?_);dsimp only;refine z29 3 1 (lyF true (L.take 0)) ?_;dsimp only;refine z8 fun Q0 hN0 hX0 hR0 hE0=> ?_;refine zl (σ:=Nat) (fun lv=>lv<=h+1) (fun lv=>h+1-lv) (fun lv=>[(0,.slc false 0 0 0 ns.length),(1,.slc false 1 0 0 dn.length),(2,.int .i64 m),(3,.int .i64 ht),(9,.slc true 2 0 0 (z4s ns lv).length),(10,.int .i64 lv)]) (fun lv=>⟨4,[(2,rO 89 5 ((z4s ns lv).length) (lyR 3 (L.take ((z4s ns lv).length)))),(3,(3*((z4s ns lv).length)+1,fam true 3 1 (lyF true (L.take ((z4s ns lv).length))))),(0,rI 62 3 ns.length (nds ns)),(1,rI 3 1 dn.length (ints dn))]⟩) 0 (ql _) (ρ:=id) (have xE:=@z4s.eq_1;Zgx id) ?_;rintro lv hlv QL1 hL1 hRL1 hEL1;refine z6 (Zrs [0,1,2,3,9,10,20] ?_);refine Zcn ?_ ?_
 ·intro h20;have hps:=lvlP_len (ns:=ns) (n:=lv);have hpl:=lvlP_le (ns:=ns) (show lv+1<=h+1 by omega);have hsA:=fun i=>shp_cls hc hn16 (lv:=lv) (i:=i) (by omega);have hls:(lstN ns (lv:Int)).length=(z54 (z4w ns) (lv:Int)).length:=by rw[lstN,qe ⟨hc,by omega,by omega⟩,lstG,qx]
  rw[hls] at hps;obtain⟨cs,hcs⟩:∃cs,z54 (z4w ns) (lv:Int)=cs:=⟨_,rfl⟩;obtain⟨P,hP⟩:∃P,(z4s ns lv).length=P:=⟨_,rfl⟩;rw[hcs] at hps hsA;rw[hP] at hps hsA ⊢;have hPw:P+cs.length<=L.length:=by omega
  refine z7 (z6 ?_);refine z8 fun Q1 hN1 hX1 hR1 hE1=> ?_;refine sg [0,1,2,3,9,10,11] rfl ?_;intro K hK;iterate 2 (refine Zo Zl ?_)
  refine Zd Zl (refClasses6_spec ns ns.length rfl lv (by omega)) (id) ?_;rw[hcs];refine Zkl hK ?_;clear hK K;refine Zrs [0,1,2,3,9,10,11,12] ?_;refine z8 fun Q2 hN2 hX2 hR2 hE2=> ?_;refine zl (σ:=Nat) (fun i=>i<=cs.length) (fun i=>cs.length-i) (fun i=>[(0,.slc false 0 0 0 ns.length),(1,.slc false 1 0 0 dn.length),(2,.int .i64 m),(3,.int .i64 ht),(9,.slc true 2 0 0 (P+i)),(10,.int .i64 lv),(11,.slc true 4 0 0 cs.length),(12,.int .i64 i)]) (fun i=>⟨6,[(4,rO 23 1 cs.length (clR true 5 cs)),(5,(cs.length+1,fam true 62 3 (clF true cs))),(2,rO 89 5 (P+i) (lyR 3 (L.take (P+i)))),(3,(3*(P+i)+1,fam true 3 1 (lyF true (L.take (P+i))))),(0,rI 62 3 ns.length (nds ns)),(1,rI 3 1 dn.length (ints dn))]⟩) 0 (ql _) (ρ:=id) (Zg id) ?_;rintro i hi QL2 hL2 hRL2 hEL2;refine z6 (Zrs [0,1,2,3,9,10,11,12,29] ?_);refine Zcn ?_ ?_
  ·intro h29;obtain⟨hp1,hp2,hp3⟩:=hsA i (by omega);have hk3:=shp_keys hc hn16 hp1;have hsb:=shpL_sub hn16 hp1;rw[hp3] at hk3 hsb;obtain⟨c,hcc⟩:∃c,cnd cs i=c:=⟨_,rfl⟩;rw[hcc] at hp3 hk3 hsb;have hcl:=Qv List.length hcc
   have hlA:lyA L (P+i)=newLy dn m ((lv:Int),c):=by
    rw[<-hL,lyA_new hp1];congr 1;exact Prod.ext hp2 hp3
   have hc1:0<c.length:=by
    cases c with
    |nil=>exact absurd rfl hsb.2
    |cons _ _=>exact QW _
   refine z7 (z6 ?_);refine z8 fun Q3 hN3 hX3 hR3 hE3=> ?_;refine Zrs [0,1,2,3,9,10,11,12,13] ?_;refine Zrs [0,1,2,3,9,10,11,12,13,14] (z6 ?_);refine Zrs [0,1,2,3,9,10,11,12,13,14,15] (z2f 13 9 1 (strsK ((keyL c).take 0)) rfl ?_);dsimp only;refine z2f 14 4 1 (bos ((innL dn c).take 0)) rfl ?_;dsimp only;refine z8 fun Q4 hN4 hX4 hR4 hE4=> ?_;refine zl (σ:=Nat) (fun j=>j<=c.length) (fun j=>c.length-j) (fun j=>[(0,.slc false 0 0 0 ns.length),(1,.slc false 1 0 0 dn.length),(2,.int .i64 m),(3,.int .i64 ht),(9,.slc true 2 0 0 (P+i)),(10,.int .i64 lv),(11,.slc true 4 0 0 cs.length),(12,.int .i64 i),(13,.slc true 6 0 0 j),(14,.slc true 7 0 0 j),(15,.int .i64 j)]) (fun j=>⟨8,[(7,rO 4 1 j (bos ((innL dn c).take j))),(6,rO 9 1 j (strsK ((keyL c).take j))),(4,rO 23 1 cs.length (clR true 5 cs)),(5,(cs.length+1,fam true 62 3 (clF true cs))),(2,rO 89 5 (P+i) (lyR 3 (L.take (P+i)))),(3,(3*(P+i)+1,fam true 3 1 (lyF true (L.take (P+i))))),(0,rI 62 3 ns.length (nds ns)),(1,rI 3 1 dn.length (ints dn))]⟩) 0 (ql _) (ρ:=id) (Zg id) ?_;rintro j hj QL3 hL3 hRL3 hEL3;refine z6 (sg [0,1,2,3,9,10,11,12,13,14,15,38] rfl ?_);intro K hK;iterate 6 (refine Zo Zl ?_)
   rw[hcc];refine Zad ?_;refine Zkl hK ?_;clear hK K;refine Zcn ?_ ?_
   ·intro h38;refine z7 (z6 ?_);refine z8 fun Q5 hN5 hX5 hR5 hE5=> ?_;refine Zrd [0,1,2,3,9,10,11,12,13,14,15] [0,1,2,3,4,5,6,7,8,11,12,13,14,15,16,17,18,19,20,9,10,21,22,23,24,25] (ws 0 [(10,[6]),(23,[7])]) (ws 0 [(10,[6]),(11,[6]),(12,[6]),(13,[6]),(14,[6]),(15,[6]),(16,[6]),(17,[6]),(18,[6]),(19,[6]),(20,[6]),(21,[6]),(22,[6]),(23,[6,7]),(24,[6,7]),(25,[6,7])]) ?_;intro K hK;iterate 9 (refine Zo (Zi [] []) ?_)
    rw[hcc];refine Zad ?_;iterate 10 (refine Zo (Zi [] [6]) ?_)
    rw[hcc];refine Zad ?_;refine Zo (Zi [] []) ?_;refine Zo (Zi [6] [6]) ?_;refine Zd (Zi [] [6]) (refHas_spec dn (nd c j).id dn.length rfl (by omega)) (fun _=>1) ?_;rw[hasI_con];refine Zo (Zi [] [6]) ?_;refine Zo (Zi [7] [6,7]) ?_;iterate 2 (refine Zo (Zi [] [6,7]) ?_)
    refine zz (Zpr (hK _ _ ?_));clear hK K;refine za (hN5 _ _ (Zrg [0,1,2,3,9,10,11,12,13,14,15] (za (hL3 _ _ ?_))));rw[app_strs1 (by omega),app_bos1 (by omega) _ rfl];rw[iS j];exact⟨j+1,⟨by omega,by omega⟩,fun q=>if q=6 then 9 else if q=7 then 11 else q,(Zg (fun q=>if q=6 then 9 else if q=7 then 11 else q))⟩
   intro h38;have hjc:j=c.length:=by omega
   subst hjc;have hkl:=z3e c;have hkm:=z5c dn c;rw[Qj (show(keyL c).length<=c.length by rw[z3e];exact qd _),Qj (show(innL dn c).length<=c.length by rw[z5c];exact qd _)];refine zk (hEL3 _ _ _ (hX4 _ _ (sg [0,1,2,3,9,10,11,12,16] rfl ?_)));intro K hK;iterate 3 (refine Zo Zl ?_)
   refine Zd Zl (refNew_spec (keyL c) (innL dn c) c.length m (z3e c) (z5c dn c) hk3.2.2 m1 m8 hk3.1 hk3.2.1) (fun q=>if q=0 then 6 else if q=1 then 7 else q) ?_;refine Zkl hK ?_;clear hK K;refine Zrd [0,1,2,3,9,10,11,12] [0,1,2,3,4,5,6,7,8,9,10,11,12,14,13,15,16,17,18] (ws 0 [(17,[2])]) (ws 0 [(17,[2]),(18,[2])]) ?_;intro K hK;iterate 9 (refine Zo (Zi [] []) ?_)
   rw[hcc];refine Zad ?_;iterate 5 (refine Zo (Zi [] []) ?_)
   refine Zd (Zi [] []) (ids5M_spec cs i cs.length rfl (by omega) (by omega)) (fun q=>if q=0 then 5 else q) ?_;rw[hcc];iterate 2 (refine Zo (Zi [] []) ?_)
   refine Zo (Zi [2] [2]) ?_;refine Zo (Zi [] [2]) ?_;refine zz (Zpr (hK _ _ ?_));clear hK K;refine za (hN3 _ _ ?_);have hidl:(newLy dn m ((lv:Int),c)).ids.length=c.length:=qx ..;have hx:lyA (L.take (P+i+1)) (P+i)=newLy dn m ((lv:Int),c):=by rw[z5m (by omega),hlA]
   have hout:∀q,q<P+i+1->app (lyR 3 (L.take (P+i))) (P+i) (z3y 5 1 [SV.int .i64 lv,SV.int .u32 (nd c 0).word,SV.slc true 11 0 0 c.length,SV.slc true 8 0 0 (newK (keyL c) (innL dn c) c.length).length,SV.slc true 9 0 0 (List.replicate m noPr).length]) q=SV.renPL (mvM (fun q=>if q=2 then 13 else q) 3 (ms3 (P+i) 11 8 9)) (lyR 3 (L.take (P+i+1)) q):=fun q hq=>by
    have e:=lyR_renM3 (fun q=>if q=2 then 13 else q) 3 (P+i) 11 8 9 (L.take (P+i+1)) q;rw[show(if(3:Nat)=2 then 13 else 3)=3 from rfl] at e;rw[e]
    split
    ·rename_i e;subst e;rw[app,qc (by omega),QV,hx];simp only[newLy];rw[hdN_nd hc1,qx];rfl
    rename_i e;rw[app,qe (by omega),lyR,lyR,z5m (by omega),z5m (by omega)]
   refine z2y (fr':=[(0,.slc false 0 0 0 ns.length),(1,.slc false 1 0 0 dn.length),(2,.int .i64 m),(3,.int .i64 ht),(9,.slc true 2 0 0 (P+i+1)),(10,.int .i64 lv),(11,.slc true 4 0 0 cs.length),(12,.int .i64 i)]) (H':=⟨6,[(4,rO 23 1 cs.length (clR true 5 cs)),(5,(cs.length+1,fam true 62 3 (clF true cs))),(2,rO 89 5 (P+i+1) (lyR 3 (L.take (P+i+1)))),(3,(3*(P+i+1)+1,fam true 3 1 (lyF true (L.take (P+i+1))))),(0,rI 62 3 ns.length (nds ns)),(1,rI 3 1 dn.length (ints dn))]⟩) _ (Zgm (fun q=>if q=2 then 13 else q) (3) (ms3 (P+i) 11 8 9) (ms3_ok (P+i) (by decide) ⟨rfl,rfl,rfl⟩ ⟨qb rfl,qb rfl,qb rfl⟩) ((zc (by decide) rfl qf (ze.of (fun _=>⟨rfl,rfl⟩) rfl (qd _) (fun q _=>(show clR true 5 cs q=SV.renPL _ (clR true 5 cs q) by rw[clR_renMO _ _ _ _ _ _ _ (by decide)];rfl))) (Obj.lt_row.2 fun q _=>(clR_lt _ _ _ _ q).2 (qb rfl)) (qb rfl) (zw.consO (by decide) rfl ⟨fun _=>⟨rfl,rfl⟩,rfl⟩ (by omega) (qd _) (fun q _=>⟨clF_givesP _ _ _ _ _ _ id rfl,clFm_lt _ _ _ _⟩) (qb rfl) (zc (by decide) rfl qf (ze.of (fun _=>⟨rfl,rfl⟩) rfl (qd _) (hout)) (Obj.lt_row.2 fun q _=>(z67 _ _ _ q).2 (qb rfl)) (qb rfl) (lyF_cons3 (n:=P+i) (x:=newLy dn m ((lv:Int),c)) rfl (by rw[hidl];rfl) rfl rfl hx (fun q hq hne=>⟨by omega,by rw[z5m (by omega),z5m (by omega)]⟩) (qb rfl) (zc (by decide) rfl qf (ze.of (fun h=>(by cases h)) rfl (qd _) (fun q _=>(z28 _ _ q).symm)) (Obj.lt_row.2 fun q _=>z4e _ _ q) (qb rfl) (zc (by decide) rfl qf (ze.of (fun h=>(by cases h)) rfl (qd _) (fun q _=>(z2q _ _ q).symm)) (Obj.lt_row.2 fun q _=>z1u _ _ q) (qb rfl) trivial)))))))) ?_
   refine Zrg [0,1,2,3,9,10,11,12] (za (hL2 _ _ ?_));rw[jm P i 1];rw[iS i];exact⟨i+1,⟨by omega,by omega⟩,id,(Zg id)⟩
  intro h29;refine zk (hEL2 _ _ _ (hX2 _ _ (za (hN1 _ _ (Zrg [0,1,2,3,9,10] (za (hL1 _ _ ?_)))))));have hie:i=cs.length:=by omega
  subst hie;rw[<-hps,iS lv];exact⟨lv+1,⟨by omega,by omega⟩,id,(Zg id)⟩
 intro h20;have hlh:lv=h+1:=by omega
 subst hlh;rw[hLl,jf];refine zk (hEL1 _ _ _ (hX0 _ _ (Zrs [8] (zb (hQ _ _ ?_)))));exact Zoc (⟨4,[(2,rO 89 5 L.length (lyR 3 L)),(3,(3*L.length+1,fam true 3 1 (lyF true L)))]⟩)
end
section
def ints_wkT {ids:List Int}{k:Nat}(m:Nat)(i:Nat)(h:i<k):SV.wkL (ints ids i) (ints (ids.take k) i)/\(∀s∈ints (ids.take k) i,s.scalar=true)/\SV.ltL m (ints (ids.take k) i):=by
 have e:nth (ids.take k) i=nth ids i:=by rw[nth,nth,qw,qw,Qb,qe h]
 refine⟨?_,fun s hs=> ?_,z1u m _ i⟩
 ·rw[ints,ints,e];exact⟨rfl,trivial⟩
 simp only[ints,qU] at hs;subst hs;rfl
def refHasP_spec (ids:List Int)(v:Int)(k m:Nat)(hm:ids.length=m)(hk:k<=m)(hx:m<=1000000):
  zj prog 34 [.slc false 0 0 0 k,.int .i64 v] ⟨1,[(0,rI 3 1 m (ints ids))]⟩ (fun s H1=>s= .bool (hasI (ids.take k) v)/\H1=⟨1,[]⟩):=
 (refHas_spec (ids.take k) v k (by rw[qN];omega) (by omega)).less ⟨⟨rfl,rfl,fun _=> .inr ⟨rfl,rfl,rfl,hk,fun i hi=>ints_wkT _ i hi⟩⟩,trivial⟩ (by simp[ownU,Obj.own.eq_1])
open JnNm (gxE axE oxE exE)
open D0 (sdE)
def refNewF_spec (ns:List Nd)(dn:List Int)(m n d:Nat)(ht:Int)(hn:ns.length=n)(hd:dn.length=d)(hc:z1t ns=0)(m1:1<=m)(m8:m<=8)(h0:0<=ht)(h16:ht<=16)(hdx:d<=1000000)(hin:∀v∈dn,0<=findI ns v)(hnd:dn.Nodup):
  zj prog 17 [.slc false 0 0 0 n,.slc false 1 0 0 d,.int .i64 m,.int .i64 ht] ⟨2,[(0,rI 62 3 n (nds ns)),(1,rI 3 1 d (ints dn))]⟩
   (fun s H1=>s= .tup [.agg [.slc true 2 0 0 n,.int .i64 ht,.slc true 3 0 0 (z2n ns dn m ht).ly.length,.slc true 5 0 0 m],.int .i64 0]/\H1=⟨6,[(2,rO 62 3 n (nds ns)),(3,rO 89 5 ((z2n ns dn m ht).ly.length) (lyR 4 (z2n ns dn m ht).ly)),(4,(3*(z2n ns dn m ht).ly.length+1,fam true 3 1 (lyF true (z2n ns dn m ht).ly))),(5,rO 58 3 m (cbs (List.replicate m noCb)))]⟩):=by
 subst hn hd;have h64:ns.length<=64:=((good_iff ns).1 hc).1;refine Zf false 76 [.cell 8 34,.tmp 9] func17 ntmps17 results17 fun w0 own0 β0 Q hQ hQn=> ?_;refine Zrs [0,1,2,3,8] (z6 ?_);refine z8 fun Q0 hN0 hX0 hR0 hE0=> ?_;refine sg [0,1,2,3,8,14] rfl ?_;intro K hK;refine Zo Zl ?_;refine Zd Zl (refIs_spec ns ns.length rfl (by omega)) (id) ?_;refine Zkl hK ?_;clear hK K;refine Zcm ?_ ?_
 ·intro h14
  exfalso;simp[hc] at h14
 intro h14;refine sg [0,1,2,3,8,19] rfl ?_;intro K hK
 have hk3:∀B:Bool,B=false->K [(0,.slc false 0 0 0 ns.length),(1,.slc false 1 0 0 dn.length),(2,.int .i64 m),(3,.int .i64 ht),(8,.ptr 2 0 0 0),(19,.bool B)] ⟨3,[(2,rV 34 4 1 (fun _=>[.nils,.int .i64 0,.nils,.nils])),(0,rI 62 3 ns.length (nds ns)),(1,rI 3 1 dn.length (ints dn))]⟩:=by
  intro B hB;subst hB;refine hK _ _ ?_;clear hK K;refine Zcm ?_ ?_
  ·intro h19
   cases h19
  intro h19;refine z7 (za (hN0 _ _ (z6 (Zrs [0,1,2,3,8,10] ?_))));refine z8 fun Q1 hN1 hX1 hR1 hE1=> ?_;refine zl (σ:=Nat) (fun i=>i<=dn.length) (fun i=>dn.length-i) (fun i=>[(0,.slc false 0 0 0 ns.length),(1,.slc false 1 0 0 dn.length),(2,.int .i64 m),(3,.int .i64 ht),(8,.ptr 2 0 0 0),(10,.int .i64 i)]) (fun i=>⟨3,[(2,rV 34 4 1 (fun _=>[.nils,.int .i64 0,.nils,.nils])),(0,rI 62 3 ns.length (nds ns)),(1,rI 3 1 dn.length (ints dn))]⟩) 0 (ql _) (ρ:=id) (Zg id) ?_;rintro i hi QL1 hL1 hRL1 hEL1;refine z6 (Zrs [0,1,2,3,8,10,35] ?_);refine Zcm ?_ ?_
  ·intro h35;replace h35:=Znb h35;refine z7 (z6 ?_);refine z8 fun Q2 hN2 hX2 hR2 hE2=> ?_;refine sg [0,1,2,3,8,10,12] rfl ?_;intro K hK;iterate 5 (refine Zo Zl ?_)
   refine Zd Zl (refFind_spec ns (nth dn i) ns.length rfl (by omega)) (id) ?_;refine Zkl hK ?_;clear hK K;refine Zrs [0,1,2,3,8,10,48] ?_;refine Zcm ?_ ?_
   ·intro h48
    exfalso
    have:=hin (nth dn i) (by rw[z30 (by omega)];exact qK _);simp at h48;omega
   intro h48;refine z7 (za (hN2 _ _ (Zrg [0,1,2,3,8,10] (za (hL1 _ _ ?_)))));rw[iS i];exact⟨i+1,⟨by omega,by omega⟩,id,(Zg id)⟩
  intro h35;refine zk (hEL1 _ _ _ (hX1 _ _ (z6 (Zrs [0,1,2,3,8,13] ?_))));refine z8 fun Q3 hN3 hX3 hR3 hE3=> ?_;refine zl (σ:=Nat) (fun i=>i<=dn.length) (fun i=>dn.length-i) (fun i=>[(0,.slc false 0 0 0 ns.length),(1,.slc false 1 0 0 dn.length),(2,.int .i64 m),(3,.int .i64 ht),(8,.ptr 2 0 0 0),(13,.int .i64 i)]) (fun i=>⟨3,[(2,rV 34 4 1 (fun _=>[.nils,.int .i64 0,.nils,.nils])),(0,rI 62 3 ns.length (nds ns)),(1,rI 3 1 dn.length (ints dn))]⟩) 0 (ql _) (ρ:=id) (Zg id) ?_;rintro i hi QL2 hL2 hRL2 hEL2;refine z6 (Zrs [0,1,2,3,8,13,53] ?_);refine Zcm ?_ ?_
  ·intro h53;replace h53:=Znb h53;refine z7 (z6 ?_);refine z8 fun Q4 hN4 hX4 hR4 hE4=> ?_;refine z6 ?_;refine Zrd [0,1,2,3,8,13,63] [0,1,2,3,4,5,6,7] [] [] ?_;intro K hK;iterate 7 (refine Zo (Zi [] []) ?_)
   refine Zd (Zi [] []) (refHasP_spec dn (nth dn i) i dn.length rfl (by omega) (by omega)) (fun _=>1) ?_;rw[hasI_con,any_takeI hnd (show i<dn.length by omega)];refine zz (Zpr (hK _ _ ?_));clear hK K;refine Zcm ?_ ?_
   ·intro h63
    exfalso;cases h63
   intro h63;refine z7 (za (hN4 _ _ (Zrg [0,1,2,3,8,13] (za (hL2 _ _ ?_)))));rw[iS i];exact⟨i+1,⟨by omega,by omega⟩,id,(Zg id)⟩
  intro h53;refine zk (hEL2 _ _ _ (hX3 _ _ (z6 ?_)));refine Zrt [8,9] (.op 0 (.op 2 (.op 3 (.op 4 (.op 5 (.op 6 (.op 8 (.two 1 9 (.two 7 9 (.op 9 (.op 10 (.op 11 (.op 12 .done)))) (.op 7 (.op 10 (.op 11 (.op 12 .done))))) (.op 1 (.op 7 (.op 10 (.op 11 (.op 12 .done))))))))))))) (ws 0 [(11,[2])]) (ws 0 [(11,[2]),(12,[2])]) ?_;intro K hK hG
  have hk16:K [(8,.ptr 2 0 0 0),(9,.int .i64 0)] ⟨7,[(2,rV 34 4 1 (fun _=>[.slc true 3 0 0 ns.length,.int .i64 ht,.slc true 4 0 0 (z2n ns dn m ht).ly.length,.slc true 6 0 0 m])),(3,rO 62 3 ns.length (nds ns)),(4,rO 89 5 ((z2n ns dn m ht).ly.length) (lyR 5 (z2n ns dn m ht).ly)),(5,(3*(z2n ns dn m ht).ly.length+1,fam true 3 1 (lyF true (z2n ns dn m ht).ly))),(6,rO 58 3 m (cbs (List.replicate m noCb)))]⟩:=by
   refine hK _ _ ?_;clear hG hK K;refine zb (hQ _ _ ?_);exact Zos (fun q=>if q=2 then 3 else if q=3 then 4 else if q=4 then 5 else if q=5 then 6 else q) (.tup [.agg [.slc true 2 0 0 ns.length,.int .i64 ht,.slc true 3 0 0 (z2n ns dn m ht).ly.length,.slc true 5 0 0 m],.int .i64 0]) (⟨6,[(2,rO 62 3 ns.length (nds ns)),(3,rO 89 5 ((z2n ns dn m ht).ly.length) (lyR 4 (z2n ns dn m ht).ly)),(4,(3*(z2n ns dn m ht).ly.length+1,fam true 3 1 (lyF true (z2n ns dn m ht).ly))),(5,rO 58 3 m (cbs (List.replicate m noCb)))]⟩)
  iterate 7 (refine Zo (ZT [] [] []) ?_)
  refine z2e ?_ ?_
  ·skip
   refine Zo (ZT [] [] []) ?_;refine z2e ?_ ?_
   ·skip
    refine Zd (ZT [] [] []) (buildR_spec ns dn m ns.length dn.length ht rfl rfl hc m1 m8 h0 h16 hdx) (id) ?_;refine Zo (ZT [] [] []) ?_;refine Zo (ZT [] [] []) ?_;refine Zo (ZT [2] [2] []) ?_;refine Zo (ZT [] [2] []) ?_;refine z14 ?_;refine Zpr ?_;rw[cbs_zero m];exact hG _ _ _ _ id (Zg id) hk16
   skip
   refine Zo (ZT [] [] []) ?_;refine Zd (ZT [] [] []) (buildR_spec ns dn m ns.length dn.length ht rfl rfl hc m1 m8 h0 h16 hdx) (id) ?_;refine Zo (ZT [] [] []) ?_;refine Zo (ZT [2] [2] []) ?_;refine Zo (ZT [] [2] []) ?_;refine z14 ?_;refine Zpr ?_;rw[cbs_zero m];exact hG _ _ _ _ (fun q=>if q=4 then 5 else if q=5 then 6 else if q=6 then 4 else q) (Zg (fun q=>if q=4 then 5 else if q=5 then 6 else if q=6 then 4 else q)) hk16
  skip
  refine Zo (ZT [] [] []) ?_;refine Zo (ZT [] [] []) ?_;refine Zd (ZT [] [] []) (buildR_spec ns dn m ns.length dn.length ht rfl rfl hc m1 m8 h0 h16 hdx) (id) ?_;refine Zo (ZT [] [] []) ?_;refine Zo (ZT [2] [2] []) ?_;refine Zo (ZT [] [2] []) ?_;refine z14 ?_;refine Zpr ?_;rw[cbs_zero m];exact hG _ _ _ _ (fun q=>if q=3 then 4 else if q=4 then 5 else if q=5 then 6 else if q=6 then 3 else q) (Zg (fun q=>if q=3 then 4 else if q=4 then 5 else if q=5 then 6 else if q=6 then 3 else q)) hk16
 iterate 8 (refine Zo Zl ?_)
 refine z13 ?_;refine z1b rfl rfl ?_;refine Zgr ?_
 first|refine z15 ?_ ?_|refine(fun(h1:false=true->_) (h2:false=false->_)=>qi h1 fun _=>h2 rfl) ?_ ?_|refine qi ?_ ?_
 ·intro hg8
  first
   |(simp at hg8;done)
   |skip
    try replace hg8:=Znb hg8
    refine Zo id ?_;refine Zc1 (level_spec ht) (id) ?_;iterate 3 (refine Zo Zl ?_)
    refine zr ?_;refine Zpr ?_;refine hk3 _ ?_;simp;omega
 intro hg8;refine⟨.bool false,?_⟩
 first
  |(simp at hg8;done)
  |skip
   try replace hg8:=Znb hg8
   exfalso;first|omega|(simp at hg8;omega)
end
section
def list_ext5 {xs ys:List Int}(hl:xs.length=ys.length)(h:∀j,j<xs.length->nth xs j=nth ys j):xs=ys:=by
 apply Qw hl;intro i h1 h2;have:=h i h1;rwa [z30 h1,z30 h2] at this
open JnNm (gxE axE oxE exE)
open D0 (sdE)
def sameI5_spec (xs ys:List Int)(n m:Nat)(hn:xs.length=n)(hm:ys.length=m)(hx:n<=9223372036854775807)(hy:m<=9223372036854775807):zj prog 70 [.slc false 0 0 0 n,.slc false 1 0 0 m] ⟨2,[(0,rI 3 1 xs.length (ints xs)),(1,rI 3 1 ys.length (ints ys))]⟩ (fun s H'=>s= .bool (decide (xs=ys))/\H'=⟨2,[]⟩):=by
 subst hn hm;refine Zf false 26 [.tmp 4] func70 ntmps70 results70 fun w0 own0 β0 Q hQ hQn=> ?_;refine Zrs [0,1] (z6 ?_);refine Zrs [0,1,10] ?_;refine Zcm ?_ ?_
 ·intro h10
  try replace h10:=Znb h10
  refine Zrs [4] (zb (hQ _ _ ?_));refine Zob ⟨2,[]⟩ ?_;have:¬xs=ys:=fun h=>by subst h;omega
  exact⟨by simp[this],by trivial⟩
 intro h10
 try replace h10:=Znb h10
 refine z7 (z6 (Zrs [0,1,5] ?_));refine z8 fun Q0 hN0 hX0 hR0 hE0=> ?_;refine zl (σ:=Nat) (fun i=>i<=xs.length/\∀j,j<i->nth xs j=nth ys j) (fun i=>xs.length-i) (fun i=>[(0,.slc false 0 0 0 xs.length),(1,.slc false 1 0 0 ys.length),(5,.int .i64 i)]) (fun i=>⟨2,[(0,rI 3 1 xs.length (ints xs)),(1,rI 3 1 ys.length (ints ys))]⟩) 0 ⟨by omega,by omega⟩ (ρ:=id) (Zg id) ?_;rintro i hi QL1 hL1 hRL1 hEL1;refine z6 (Zrs [0,1,5,14] ?_);refine Zcm ?_ ?_
 ·intro h14
  try replace h14:=Znb h14
  refine z7 (z6 ?_);refine z8 fun Q1 hN1 hX1 hR1 hE1=> ?_;refine z6 (Zrq [0,1,5,25] [0,1,2,3,4,5,6,7,8] ?_);refine Zcm ?_ ?_
  ·intro h25
   try replace h25:=Znb h25
   refine Zrs [4] (zb (hR1 _ _ (hRL1 _ _ (hR0 _ _ (hQ _ _ ?_)))));refine Zob ⟨2,[]⟩ ?_;have:¬xs=ys:=fun h=>by subst h;omega
   exact⟨by simp[this],by trivial⟩
  intro h25
  try replace h25:=Znb h25
  refine z7 (za (hN1 _ _ (Zrg [0,1,5] (za (hL1 _ _ ?_)))));refine⟨i+1,⟨⟨by omega,fun j hj=> ?_⟩,by omega⟩,id,(Zg id)⟩
  by_cases h:j=i
  ·subst h;omega
  exact hi.2 j (by omega)
 intro h14
 try replace h14:=Znb h14
 refine zk (hEL1 _ _ _ (hX0 _ _ (Zrs [4] (zb (hQ _ _ ?_)))));refine Zob ⟨2,[]⟩ ?_;have:xs=ys:=list_ext5 (by omega) fun j hj=>hi.2 j (by omega);exact⟨by simp[this],by trivial⟩
def keyQ (a b:Ly)(i:Nat):Bool:= !sEq (cl a.cs i).key (cl b.cs i).key
def headS (a b:Ly):Bool:=a.lvl==b.lvl && a.wd==b.wd && decide (a.ids=b.ids) && decide (a.cs.length=b.cs.length)
def shpS (a b:Ly):Bool:=headS a b && !anyB a.cs.length (keyQ a b)
def sameShape_spec (a b:Ly)(p q:Nat)(h1:a.ids.length<=1000000)(h2:b.ids.length<=1000000)(h3:a.cs.length<=1000000)(h4:b.cs.length<=1000000):
  zj prog 53 [.agg [.int .i64 a.lvl,.int .u32 a.wd,.slc false 0 0 0 a.ids.length,.slc false 1 0 0 a.cs.length,.slc false 4 0 0 p],.agg [.int .i64 b.lvl,.int .u32 b.wd,.slc false 2 0 0 b.ids.length,.slc false 3 0 0 b.cs.length,.slc false 5 0 0 q]] ⟨6,[(0,rI 3 1 a.ids.length (ints a.ids)),(1,rI 117 5 a.cs.length (z1x a.cs)),(2,rI 3 1 b.ids.length (ints b.ids)),(3,rI 117 5 b.cs.length (z1x b.cs))]⟩ (fun s H1=>s= .bool (shpS a b)/\H1=⟨6,[]⟩):=by
 refine Zf false 60 [.tmp 4] func53 ntmps53 results53 fun w0 own0 β0 Q hQ hQn=> ?_;refine Zrs [2,3] (z6 ?_);refine sg [2,3,36] rfl ?_;intro K hK
 have hk1:∀B:Bool,B= !(headS a b)->K [(2,.ptr 6 0 0 0),(3,.ptr 7 0 0 0),(36,.bool B)] ⟨8,[(7,rV 89 5 1 (fun _=>[.int .i64 b.lvl,.int .u32 b.wd,.slc false 2 0 0 b.ids.length,.slc false 3 0 0 b.cs.length,.slc false 5 0 0 q])),(6,rV 89 5 1 (fun _=>[.int .i64 a.lvl,.int .u32 a.wd,.slc false 0 0 0 a.ids.length,.slc false 1 0 0 a.cs.length,.slc false 4 0 0 p])),(0,rI 3 1 a.ids.length (ints a.ids)),(1,rI 117 5 a.cs.length (z1x a.cs)),(2,rI 3 1 b.ids.length (ints b.ids)),(3,rI 117 5 b.cs.length (z1x b.cs))]⟩:=by
  intro B hB;subst hB;refine hK _ _ ?_;clear hK K;refine Zcm ?_ ?_
  ·intro h36;have h36':headS a b=false:=by rw[<-qn];exact h36
   refine Zrs [4] (zb (hQ _ _ ?_));refine Zob ⟨6,[]⟩ ?_;rw[shpS,h36',Qm];exact⟨rfl,by trivial⟩
  intro h36;have h36':headS a b=true:=by rw[<-qr];exact h36
  have hcl:a.cs.length=b.cs.length:=by
   rw[headS,qj] at h36';exact jO h36'.2
  refine z7 (z6 (Zrs [2,3,5] ?_));refine z8 fun Q0 hN0 hX0 hR0 hE0=> ?_;refine zl (σ:=Nat) (fun i=>i<=a.cs.length/\∀z,z<i->keyQ a b z=false) (fun i=>a.cs.length-i) (fun i=>[(2,.ptr 6 0 0 0),(3,.ptr 7 0 0 0),(5,.int .i64 i)]) (fun _=>⟨8,[(7,rV 89 5 1 (fun _=>[.int .i64 b.lvl,.int .u32 b.wd,.slc false 2 0 0 b.ids.length,.slc false 3 0 0 b.cs.length,.slc false 5 0 0 q])),(6,rV 89 5 1 (fun _=>[.int .i64 a.lvl,.int .u32 a.wd,.slc false 0 0 0 a.ids.length,.slc false 1 0 0 a.cs.length,.slc false 4 0 0 p])),(0,rI 3 1 a.ids.length (ints a.ids)),(1,rI 117 5 a.cs.length (z1x a.cs)),(2,rI 3 1 b.ids.length (ints b.ids)),(3,rI 117 5 b.cs.length (z1x b.cs))]⟩) 0 ⟨ql _,fun z h=>absurd h (qI _)⟩ (ρ:=id) (Zg id) ?_;rintro i hi QL1 hL1 hRL1 hEL1;refine z6 (Zrs [2,3,5,42] ?_);refine Zcn ?_ ?_
  ·intro h42;obtain⟨hi1,hi2⟩:=hi;refine z7 (z6 ?_);refine z8 fun Q1 hN1 hX1 hR1 hE1=> ?_;refine z6 (Zrq [2,3,5,59] [0,1,2,3,4,5,6,7,8,9,10,11,12,13,14] ?_);refine Zcm ?_ ?_
   ·intro h59;have h59':keyQ a b i=true:=h59;refine Zrs [4] (zb (hR1 _ _ (hRL1 _ _ (hR0 _ _ (hQ _ _ ?_)))));refine Zob ⟨6,[]⟩ ?_;rw[shpS,z3l (i:=i) (by omega) h59',qS,Qq];exact⟨rfl,by trivial⟩
   intro h59;have h59':keyQ a b i=false:=h59;refine z7 (za (hN1 _ _ (Zrg [2,3,5] (za (hL1 _ _ ?_)))));rw[iS i];refine⟨i+1,⟨⟨by omega,fun z hz=> ?_⟩,by omega⟩,id,(Zg id)⟩
   by_cases e:z=i
   ·subst e;exact h59'
   exact hi2 z (by omega)
  intro h42;obtain⟨hi1,hi2⟩:=hi;refine zk (hEL1 _ _ _ (hX0 _ _ (Zrs [4] (zb (hQ _ _ ?_)))));refine Zob ⟨6,[]⟩ ?_;rw[shpS,h36',z1q fun z hz=>hi2 z (by omega)];exact⟨rfl,by trivial⟩
 iterate 17 (refine Zo Zl ?_)
 refine z13 ?_;refine z1b rfl rfl ?_;refine Zgr ?_
 first|refine z15 ?_ ?_|refine(fun(h1:false=true->_) (h2:false=false->_)=>qi h1 fun _=>h2 rfl) ?_ ?_|refine qi ?_ ?_
 ·intro hg17
  first
   |(simp at hg17;done)
   |skip
    try replace hg17:=Znb hg17
    refine Zo id ?_;refine Zc1 (sameI5_spec a.ids b.ids a.ids.length b.ids.length rfl rfl (by omega) (by omega)) (fun z=>if z=1 then 2 else z) ?_;iterate 13 (refine Zo Zl ?_)
    refine zr ?_;refine Zpr ?_;refine hk1 _ ?_;simp_all[headS,neB]
 intro hg17;refine⟨.bool false,?_⟩
 first
  |(simp at hg17;done)
  |skip
   try replace hg17:=Znb hg17
   iterate 13 (refine Zo Zl ?_)
   refine zr ?_;refine Zpr ?_;refine hk1 _ ?_;simp_all[headS,neB]
end
end Go.Proofs
namespace Go.Sk
open Go.RowKit
def schedT0 (ops:Array Oper):Plan->Array Bool->Bool
 |.done,listed=>(Region.ready .any ops listed).isEmpty
 |.op i p,listed=>(if opQ ops i then(Region.ready .any ops listed).contains i && Region.free .any ops listed i else Region.ready .any ops listed==[i]) && schedT0 ops p (listed.setIfInBounds i true)
 |_,_=>false
def nilW (ops:Array Oper)(W:List (List Nat)):Bool:=(List.range ops.size).all fun j=> !isNew ops j && (W.getD j []).isEmpty
section
variable {X:Cx} {ops:Array Oper} {K:Fr->AH->Prop} {Q:Exit->Act->World->Prop} {Wf Uq:List (List Nat)}
def SW0 (_:Nat)(w w':World):Prop:=Kp w (fun _=>False) w'
def runT0_ok (hQ:∀a w,At X K a w->Q .normal a w)(hQp:∀c a w,¬Q (.panic c) a w)
  (hns:Region.noSelect ops=true) (hW:nilW ops Wf=true) (hd:dstOk X.n ops.toList=true):
  ∀(p:Plan) (listed:Array Bool) {β:Env} {H:AH} {w:World} {fr:Fr} {a:Act},schedT0 ops p listed=true->Closed ops listed->
   St X β H w->FrOk X β H.nxt fr a->
   runT X.P X.wrap X.m0 Wf Uq ops p [] fr H K->wpAnyG X.P ops Q SW0 (z5j ops) p.len listed a w
 |.done,listed,β,H,w,fr,a,hs,_,hS,hF,h=>⟨by simpa [schedT0] using hs,hQ _ _ ⟨β,fr,H,h,hF,hS⟩⟩
 |.two ..,_,_,_,_,_,_,hs,_,_,_,_=>by simp[schedT0] at hs
 |.three ..,_,_,_,_,_,_,hs,_,_,_,_=>by simp[schedT0] at hs
 |.four ..,_,_,_,_,_,_,hs,_,_,_,_=>by simp[schedT0] at hs
 |.op i p,listed,β,H,w,fr,a,hs,hcl,hS,hF,h=>by
  simp only[schedT0,qj] at hs;obtain⟨hs1,hs2⟩:=hs;simp only[runT] at h;unfold stpI at h
  cases ho:ops[i]? with
  |none=>rw[ho] at h;exact h.elim
  |some o=>
   rw[ho] at h;simp only at h;have his:i<ops.size:=(q7.1 ho).1;have hWi:=qu.1 hW i (Qu.2 his);rw[qj,qn,List.isEmpty_iff] at hWi;have hnn:newN ops i H []=[]:=by unfold newN;rw[hWi.1];rfl
   have hwo:wOf Wf i H []=[]:=by unfold wOf anyW;rw[hWi.2];rfl
   rw[hnn,hwo] at h;have hom:o∈ops.toList:=by have:=jG ho;simpa using this
   have hdo:∀t,o.dst=some t->t<X.n:=dstOk_spec hd hom
   split at hs1
   ·rename_i hq0;rw[qj] at hs1;obtain⟨hr,hfree⟩:=hs1;have hr':i∈Region.ready .any ops listed:=by simpa using hr
    have hcx:=hcl.set hr';have hisq:z5j ops i=true:=by unfold opQ at hq0;unfold z5j;exact hq0
    have hq:isQ o.op=true:=by unfold opQ at hq0;rw[ho] at hq0;exact hq0
    obtain⟨v,fr',hy,hk,hF'⟩:=stp_quiet (C:=Kp w (fun _=>False)) hS hF hdo hq (fun _ w' hw'=>hw'.mono fun b hb=>hb.elim) h;refine wpAnyG_first (T:=Kp w (fun _=>False)) ho hisq (jQ hns) (fun c a w hh=>absurd hh (hQp c _ w)) ?_ (fun _=>Kp.refl _ _) p.len listed a w hcl (Jd ho hfree) hr' hy (Kp.refl _ _) (runT0_ok hQ hQp hns hW hd p _ hs2 hcx hS hF' hk);intro listed' hcl' hun j hj hji w2 w3 hT hjq hSw;exact⟨qR hT.1 hSw.1,fun b hb hnb=>by rw[<-hT.2 b hb hnb];exact hSw.2 b (Qc hb hT.1) hnb⟩
   ·rename_i hq0;have hq:isQ o.op=false:=by unfold opQ at hq0;rw[ho] at hq0;simpa using hq0
    have hisq:z5j ops i=false:=by unfold z5j;rw[ho];exact hq
    have hrd:Region.ready .any ops listed=[i]:=by simpa using hs1
    refine⟨fun h0=>(by rw[hrd] at h0;cases h0),fun x hx=> ?_⟩;have hcx:=hcl.set hx;rw[hrd] at hx;simp only[qv,QJ,jU] at hx;subst hx;have he:=stp_eff (Q:=Q) hS hF hdo hq h;unfold wpOp;rw[ho];simp only
    split at he
    ·rename_i hw;rw[qe hw];refine .inl (Ja (fun a' w' hp=> ?_) he);obtain⟨β',fr',H',hk,hF',hS',hag',hle',hsub',hkp'⟩:=hp;refine⟨⟨fun hh=>(by rw[hisq] at hh;cases hh),(hkp' rfl).mono fun b hin=> ?_⟩,runT0_ok hQ hQp hns hW hd p _ hs2 hcx hS' hF' hk⟩;obtain⟨id,k,o',L,hm,_⟩:=hin
     cases hm
    ·rename_i hw;rw[qc hw];obtain⟨fr',hk,hF'⟩:=he;exact⟨⟨fun hh=>(by rw[hisq] at hh;cases hh),Kp.refl _ _⟩,runT0_ok hQ hQp hns hW hd p _ hs2 hcx hS hF' hk⟩
end
variable {X:Cx} {Q:Exit->Fr->AH->Prop} {fr:Fr} {H:AH} {l:List Code}
def Cs.regNil {c : Code} {id : Nat} {ops : List Oper} (keep : List Nat) (p : Plan) (W U : List (List Nat)) (hm : X.P.follows .mixedOrders = true)
    (hd:dstOk X.n ops=true) (hlen:p.len=ops.length) (hns:Region.noSelect ops.toArray=true) (hW:nilW ops.toArray W=true)
    (hs:schedT0 ops.toArray p (Array.replicate ops.length false)=true)
    (h:∀K:Fr->AH->Prop,(∀fr H,Cs X (c::l) Q fr H->K fr H)->(∀fr H F G ρ,z4h X ρ fr H F G->K F G->K fr H)->runT X.P X.wrap X.m0 W U ops.toArray p [] fr H (fun fr H=>K (prune keep fr) H)):Cs X (.region id ops.toArray true::c::l) Q fr H:=by
  have h1:=h (fun fr H=>Cs X (c::l) Q fr H) (fun _ _ h=>h) (fun fr H F G ρ hg hk=>Cs.give ρ hg hk)
  have h2:Cw X (.region id ops.toArray true) (fun e fr H=>match e with| .normal=>Cs X (c::l) Q (prune keep fr) H|e=>Q e fr H) fr H:=fun β a w hF hS=>by
    refine JU hm (wpAny_of_G (S:=SW0) (isq:=z5j ops.toArray) _ _ _ _ ?_)
    have := runT0_ok (X := X) (ops := ops.toArray) (Q := lift X (fun e fr H => match e with | .normal => Cs X (c :: l) Q (prune keep fr) H | e => Q e fr H)) (fun _ _ h => h) (fun _ _ _ h => h) hns hW (by simpa using hd) p (Array.replicate ops.length false) (a := a) hs (fun j oj _ hl => by
        exfalso
        rcases Qo j ops.length with h'|h'
        · simp[h'] at hl
        · simp[h'] at hl) hS.drew hF h1
    rw[hlen] at this;simpa using this
  refine Cw.conv h2 ?_;intro e a w hh
  cases e with
  |normal=>exact At.prune (K:=fun fr H=>Cs X (c::l) Q fr H) hh
  |_=>exact hh
end Go.Sk
namespace Go.Proofs
open Tryz
open Go.Sk
section
def eqNdS (a b:Nd):EqT prog 62 [.int .i64 a.id,.str a.key,.int .u32 a.word] [.int .i64 b.id,.str b.key,.int .u32 b.word]:=
 EqIn.top (K:=2) (by omega) (by kernel_rfl) (EqIn.of 1 (by omega) [(false,3,0),(false,9,1),(false,60,2)] (by kernel_rfl) (by kernel_rfl) (by kernel_rfl)
  (.sc (by kernel_rfl) ⟨rfl,.i64,by kernel_rfl⟩ (.sc (by kernel_rfl) (show Tryz.prog.underlying 9=some .string by kernel_rfl) (.sc (by kernel_rfl) ⟨rfl,.u32,by kernel_rfl⟩ (.nil _)))))
def eqL_ndS (a b:Nd):eqL [.int .i64 a.id,.str a.key,.int .u32 a.word] [.int .i64 b.id,.str b.key,.int .u32 b.word]=decide (a=b):=by
 cases a;cases b
 rw[qY];simp[eqL,eqS,ba_beqK]
def eqL_cbS (a b:Cb):eqL [.int .i64 a.kind,.int .i64 a.node,.int .i64 a.lvl] [.int .i64 b.kind,.int .i64 b.node,.int .i64 b.lvl]=decide (a=b):=by
 cases a;cases b
 rw[qY];simp[eqL,eqS]
def shPj (i j:Nat):Pn:=fun id k=>if id=0 then(0,3*i+1) else if id=1 then(0,3*i+2) else if id=2 then(1,3*j+1) else if id=3 then(1,3*j+2) else if id=4 then(0,3*i+3) else if id=5 then(1,3*j+3) else(id,k)
def sameShapeM_spec (A B:List Ly)(ha:lyB A)(hb:lyB B)(i j p q:Nat)(hi:i<p)(hj:j<q):
  zj prog 53 [.agg [.int .i64 (lyA A i).lvl,.int .u32 (lyA A i).wd,.slc false 0 (3*i+1) 0 (lyA A i).ids.length,.slc false 0 (3*i+2) 0 (lyA A i).cs.length,.slc false 0 (3*i+3) 0 (lyA A i).ps.length],.agg [.int .i64 (lyA B j).lvl,.int .u32 (lyA B j).wd,.slc false 1 (3*j+1) 0 (lyA B j).ids.length,.slc false 1 (3*j+2) 0 (lyA B j).cs.length,.slc false 1 (3*j+3) 0 (lyA B j).ps.length]]
   ⟨6,[(0,(3*p+1,fam false 3 1 (lyF false A))),(1,(3*q+1,fam false 3 1 (lyF false B)))]⟩ (fun s H1=>s= .bool (shpS (lyA A i) (lyA B j))/\H1=⟨6,[]⟩):=by
 have h:=sameShape_spec (lyA A i) (lyA B j) (lyA A i).ps.length (lyA B j).ps.length (ha.2 i).1 (hb.2 j).1 (ha.2 i).2.1 (hb.2 j).2.1
 have g:=h.mem (shPj i j) (os1:=[(0,(3*p+1,fam false 3 1 (lyF false A))),(1,(3*q+1,fam false 3 1 (lyF false B)))])
  (by
   refine⟨⟨by show 0<6;decide,fun k=>rfl,fun k' hk=>⟨Obj.lt_row.2 fun q _=>z1u _ _ q,?_⟩⟩,⟨by show 1<6;decide,fun k=>rfl,fun k' hk=>⟨Obj.lt_row.2 fun q _=>cls_lt _ _ q,?_⟩⟩,⟨by show 2<6;decide,fun k=>rfl,fun k' hk=>⟨Obj.lt_row.2 fun q _=>z1u _ _ q,?_⟩⟩,⟨by show 3<6;decide,fun k=>rfl,fun k' hk=>⟨Obj.lt_row.2 fun q _=>cls_lt _ _ q,?_⟩⟩,trivial⟩
   ·show 3*i+1<3*p+1/\zt _ (fam false 3 1 (lyF false A) (3*i+1)) _
    refine⟨by omega,?_⟩;rw[z2v,lyF_0];exact⟨fun h=>(by cases h),rfl,qd _,fun q _=>(z2q _ _ q).symm⟩
   ·show 3*i+2<3*p+1/\zt _ (fam false 3 1 (lyF false A) ((3*i+1)+1)) _
    refine⟨by omega,?_⟩;rw[z2v,lyF_1];exact⟨fun h=>(by cases h),rfl,qd _,fun q _=>(z3n _ _ q).symm⟩
   ·show 3*j+1<3*q+1/\zt _ (fam false 3 1 (lyF false B) (3*j+1)) _
    refine⟨by omega,?_⟩;rw[z2v,lyF_0];exact⟨fun h=>(by cases h),rfl,qd _,fun q _=>(z2q _ _ q).symm⟩
   show 3*j+2<3*q+1/\zt _ (fam false 3 1 (lyF false B) ((3*j+1)+1)) _
   refine⟨by omega,?_⟩;rw[z2v,lyF_1]
   exact⟨fun h=>(by cases h),rfl,qd _,fun q _=>(z3n _ _ q).symm⟩)
  ⟨by simp[SV.lt,SV.ltL],by simp[SV.lt,SV.ltL],trivial⟩ (by
   intro id k hid;have hid:id<6:=hid
   show(shPj i j id k).1<6
   simp only[shPj];repeat' split
   all_goals first|exact hid|(show 0<6;decide)|(show 1<6;decide)) (by
   intro x hx k;simp only[qv,QJ,jU] at hx;rcases hx with e|e<;>subst e
   ·exact lyF_fown false _ _ A k
   exact lyF_fown false _ _ B k)
 have e:SV.renPL (shPj i j) [.agg [.int .i64 (lyA A i).lvl,.int .u32 (lyA A i).wd,.slc false 0 0 0 (lyA A i).ids.length,.slc false 1 0 0 (lyA A i).cs.length,.slc false 4 0 0 (lyA A i).ps.length],.agg [.int .i64 (lyA B j).lvl,.int .u32 (lyA B j).wd,.slc false 2 0 0 (lyA B j).ids.length,.slc false 3 0 0 (lyA B j).cs.length,.slc false 5 0 0 (lyA B j).ps.length]]=[.agg [.int .i64 (lyA A i).lvl,.int .u32 (lyA A i).wd,.slc false 0 (3*i+1) 0 (lyA A i).ids.length,.slc false 0 (3*i+2) 0 (lyA A i).cs.length,.slc false 0 (3*i+3) 0 (lyA A i).ps.length],.agg [.int .i64 (lyA B j).lvl,.int .u32 (lyA B j).wd,.slc false 1 (3*j+1) 0 (lyA B j).ids.length,.slc false 1 (3*j+2) 0 (lyA B j).cs.length,.slc false 1 (3*j+3) 0 (lyA B j).ps.length]]:=rfl;rw[e] at g;refine g.imp ?_;rintro s H' ⟨s0,H0',⟨rfl,rfl⟩,rfl,rfl⟩;exact⟨rfl,rfl⟩
def lsPj (i j:Nat):Pn:=fun id k=>if id=0 then(0,3*i+2) else if id=1 then(0,3*i+3) else if id=2 then(1,3*j+2) else if id=3 then(1,3*j+3) else(id,k)
def sameLM_spec (A B:List Ly)(ha:lyB A)(i j p q:Nat)(hi:i<p)(hj:j<q):
  zj prog 54 [.agg [.slc false 0 (3*i+2) 0 (lyA A i).cs.length,.slc false 0 (3*i+3) 0 (lyA A i).ps.length],.agg [.slc false 1 (3*j+2) 0 (lyA B j).cs.length,.slc false 1 (3*j+3) 0 (lyA B j).ps.length]]
   ⟨4,[(0,(3*p+1,fam false 3 1 (lyF false A))),(1,(3*q+1,fam false 3 1 (lyF false B)))]⟩ (fun s H1=>s= .bool (decide (((lyA A i).cs,(lyA A i).ps)=((lyA B j).cs,(lyA B j).ps)))/\H1=⟨4,[]⟩):=by
 have h:=same_spec (lyA A i).cs (lyA A i).ps (lyA B j).cs (lyA B j).ps _ _ _ _ rfl rfl rfl rfl (by have:=(ha.2 i).2.1;omega) (by have:=(ha.2 i).2.2;omega)
 have g:=h.mem (lsPj i j) (os1:=[(0,(3*p+1,fam false 3 1 (lyF false A))),(1,(3*q+1,fam false 3 1 (lyF false B)))])
  (by
   refine⟨⟨by show 0<4;decide,fun k=>rfl,fun k' hk=>⟨Obj.lt_row.2 fun q _=>cls_lt _ _ q,?_⟩⟩,⟨by show 1<4;decide,fun k=>rfl,fun k' hk=>⟨Obj.lt_row.2 fun q _=>prs_lt _ _ q,?_⟩⟩,⟨by show 2<4;decide,fun k=>rfl,fun k' hk=>⟨Obj.lt_row.2 fun q _=>cls_lt _ _ q,?_⟩⟩,⟨by show 3<4;decide,fun k=>rfl,fun k' hk=>⟨Obj.lt_row.2 fun q _=>prs_lt _ _ q,?_⟩⟩,trivial⟩
   ·show 3*i+2<3*p+1/\zt _ (fam false 3 1 (lyF false A) ((3*i+1)+1)) _
    refine⟨by omega,?_⟩;rw[z2v,lyF_1];exact⟨fun h=>(by cases h),rfl,qd _,fun q _=>(z3n _ _ q).symm⟩
   ·show 3*i+3<3*p+1/\zt _ (fam false 3 1 (lyF false A) ((3*i+2)+1)) _
    refine⟨by omega,?_⟩;rw[z2v,lyF_2];exact⟨fun h=>(by cases h),rfl,qd _,fun q _=>(z51 _ _ q).symm⟩
   ·show 3*j+2<3*q+1/\zt _ (fam false 3 1 (lyF false B) ((3*j+1)+1)) _
    refine⟨by omega,?_⟩;rw[z2v,lyF_1];exact⟨fun h=>(by cases h),rfl,qd _,fun q _=>(z3n _ _ q).symm⟩
   show 3*j+3<3*q+1/\zt _ (fam false 3 1 (lyF false B) ((3*j+2)+1)) _
   refine⟨by omega,?_⟩;rw[z2v,lyF_2]
   exact⟨fun h=>(by cases h),rfl,qd _,fun q _=>(z51 _ _ q).symm⟩)
  ⟨by simp[SV.lt,SV.ltL],by simp[SV.lt,SV.ltL],trivial⟩ (by
   intro id k hid;have hid:id<4:=hid
   show(lsPj i j id k).1<4
   simp only[lsPj];repeat' split
   all_goals first|exact hid|(show 0<4;decide)|(show 1<4;decide)) (by
   intro x hx k;simp only[qv,QJ,jU] at hx;rcases hx with e|e<;>subst e
   ·exact lyF_fown false _ _ A k
   exact lyF_fown false _ _ B k)
 have e:SV.renPL (lsPj i j) [.agg [.slc false 0 0 0 (lyA A i).cs.length,.slc false 1 0 0 (lyA A i).ps.length],.agg [.slc false 2 0 0 (lyA B j).cs.length,.slc false 3 0 0 (lyA B j).ps.length]]=[.agg [.slc false 0 (3*i+2) 0 (lyA A i).cs.length,.slc false 0 (3*i+3) 0 (lyA A i).ps.length],.agg [.slc false 1 (3*j+2) 0 (lyA B j).cs.length,.slc false 1 (3*j+3) 0 (lyA B j).ps.length]]:=rfl;rw[e] at g;refine g.imp ?_;rintro s H' ⟨s0,H0',⟨rfl,rfl⟩,rfl,rfl⟩;exact⟨rfl,rfl⟩
def shpS_same {a b:Ly}:(shpS a b && decide ((a.cs,a.ps)=(b.cs,b.ps)))=decide (a=b):=by
 rw[qY,qj,qm,qm]
 constructor
 ·rintro⟨h,e⟩;rw[shpS,qj,headS] at h;simp only[qj,qD,qm] at h;obtain⟨e1,e2⟩:=Prod.mk.inj e
  cases a;cases b
  simp only at*;simp[h.1.1.1.1,h.1.1.1.2,h.1.1.2,e1,e2]
 rintro rfl;refine⟨?_,rfl⟩;rw[shpS,qj,headS];refine⟨by simp,?_⟩;rw[z1q fun i _=> ?_];· rfl
 rw[keyQ,qr,z5l];exact qB rfl
def ly_ext {A B:List Ly}(hl:A.length=B.length)(h:∀q,q<A.length->lyA A q=lyA B q):A=B:=
 Qw hl fun q h1 h2=>by rw[<-lyA_lt h1,<-lyA_lt h2];exact h q h1
def cb_ext {A B:List Cb}(hl:A.length=B.length)(h:∀q,q<A.length->cbA A q=cbA B q):A=B:=
 Qw hl fun q h1 h2=>by rw[<-cbA_lt h1,<-cbA_lt h2];exact h q h1
def nd_extS {A B:List Nd}(hl:A.length=B.length)(h:∀q,q<A.length->nd A q=nd B q):A=B:=
 Qw hl fun q h1 h2=>by rw[<-z4z h1,<-z4z h2];exact h q h1
def JoPm.exE:=aj9 @z11 @zd @zf @zo @zh @zx @z10 ec2 (aj9 @zg @zp @zm @zi z58 @zn z3g z3w (aj9 @zq ec3 ec5 @z1a.eq_1 @zu.eq_1 @ints.eq_1 ec34 ec35 (aj ec36 @eqNdS)))
def JoPm.axE:=aj9 @z11 @zd @zf @zo @zh @zx @z10 ec2 (aj9 @zg @zp @zm @zi z58 @zn z3g z3w (aj9 @zq ec3 ec5 @z1a.eq_1 @zu.eq_1 ec34 ec35 @eqNdS (aj6 @z1p @z21 @z2j @z2r ec38 @z38)))
def JoPm.sdE {a:Prop}(h:a:=by first|exact D0.sdE|exact eqNdS _ _|(intro _;exact eqNdS _ _)|exact eqCb _ _ _ _ _ _|(intro _;exact eqCb _ _ _ _ _ _)):a:=h
open JnNm (gxE oxE)
open JoPm (axE sdE exE)
def sameF_spec (a b:Fo)(ha:lyB a.ly)(hb:lyB b.ly)(n k m n' k' m':Nat)(hn:a.ns.length=n)(hk:a.ly.length=k)(hm:a.cb.length=m)(hn':b.ns.length=n')(hk':b.ly.length=k')(hm':b.cb.length=m')(hx:n<=1000000)(hy:m<=1000000)(hz:k<=1000000000000000):
  zj prog 18 [.agg [.slc false 0 0 0 n,.int .i64 a.ht,.slc false 1 0 0 k,.slc false 3 0 0 m],.agg [.slc false 4 0 0 n',.int .i64 b.ht,.slc false 5 0 0 k',.slc false 7 0 0 m']]
   ⟨8,[(0,rI 62 3 n (nds a.ns)),(1,rI 89 5 k (lyR 2 a.ly)),(2,(3*k+1,fam false 3 1 (lyF false a.ly))),(3,rI 58 3 m (cbs a.cb)),(4,rI 62 3 n' (nds b.ns)),(5,rI 89 5 k' (lyR 6 b.ly)),(6,(3*k'+1,fam false 3 1 (lyF false b.ly))),(7,rI 58 3 m' (cbs b.cb))]⟩
   (fun s H1=>s= .bool (decide (a=b))/\H1=⟨8,[]⟩):=by
 obtain⟨ns,ht,L,C⟩:=a;obtain⟨ns',ht',L',C'⟩:=b;dsimp only at ha hb hn hk hm hn' hk' hm' ⊢;subst hn hk hm hn' hk' hm';refine Zf false 111 [.tmp 4] func18 ntmps18 results18 fun w0 own0 β0 Q hQ hQn=> ?_;refine Zrs [2,3] (z6 ?_);refine Zrs [2,3,39] ?_;refine Zcm ?_ ?_
 ·intro h39
  have hne:¬((⟨ns,ht,L,C⟩:Fo)=⟨ns',ht',L',C'⟩):=fun e=>by
   injection e with e1 e2 e3 e4
   subst e1 e2 e3 e4;simp at h39
  refine Zrs [4] (zb (hQ _ _ ?_));rw[qG hne];refine Zob ⟨8,[]⟩ ?_
  all_goals(first|trivial|exact⟨rfl,trivial⟩)
 intro h39
 obtain⟨hh,hnl,hll,hcl⟩:ht=ht'/\ns.length=ns'.length/\L.length=L'.length/\C.length=C'.length:=by
  simp at h39;omega
 refine z7 (z6 (Zrs [2,3,5] ?_));refine z8 fun Q0 hN0 hX0 hR0 hE0=> ?_;refine zl (σ:=Nat) (fun i=>i<=ns.length/\∀q,q<i->nd ns q=nd ns' q) (fun i=>ns.length-i) (fun i=>[(2,.ptr 8 0 0 0),(3,.ptr 9 0 0 0),(5,.int .i64 i)]) (fun _=>⟨10,[(9,rV 34 4 1 (fun _=>[.slc false 4 0 0 ns'.length,.int .i64 ht',.slc false 5 0 0 L'.length,.slc false 7 0 0 C'.length])),(8,rV 34 4 1 (fun _=>[.slc false 0 0 0 ns.length,.int .i64 ht,.slc false 1 0 0 L.length,.slc false 3 0 0 C.length])),(0,rI 62 3 ns.length (nds ns)),(1,rI 89 5 L.length (lyR 2 L)),(2,(3*L.length+1,fam false 3 1 (lyF false L))),(3,rI 58 3 C.length (cbs C)),(4,rI 62 3 ns'.length (nds ns')),(5,rI 89 5 L'.length (lyR 6 L')),(6,(3*L'.length+1,fam false 3 1 (lyF false L'))),(7,rI 58 3 C'.length (cbs C'))]⟩) 0 ⟨ql _,fun q h=>absurd h (qI _)⟩ (ρ:=id) (Zg id) ?_;rintro i hi QL1 hL1 hRL1 hEL1;refine z6 (Zrs [2,3,5,44] ?_);refine Zcn ?_ ?_
 ·intro h44;obtain⟨hi1,hi2⟩:=hi;have hiL:i<ns'.length:=by omega
  refine z7 (z6 ?_);refine z8 fun Q1 hN1 hX1 hR1 hE1=> ?_;refine z6 ?_;refine Zrd [2,3,5,57] [0,1,2,3,4,5,6,7,8,9,10] [] [] ?_;intro K hK;iterate 11 (refine Zo (Zi [] []) ?_)
  rw[eqL_ndS];refine Zad ?_;refine zz (Zpr (hK _ _ ?_));clear hK K;refine Zcm ?_ ?_
  ·intro h57;have h57':nd ns i≠nd ns' i:=by simpa using h57
   refine Zrs [4] (zb (hR1 _ _ (hRL1 _ _ (hR0 _ _ (hQ _ _ ?_)))))
   have hne:¬((⟨ns,ht,L,C⟩:Fo)=⟨ns',ht',L',C'⟩):=fun e=>by
    injection e with e1 e2 e3 e4
    exact h57' (by rw[e1])
   rw[qG hne];refine Zob ⟨8,[]⟩ ?_
   all_goals(first|trivial|exact⟨rfl,trivial⟩)
  intro h57;have h57':nd ns i=nd ns' i:=by simpa using h57
  refine z7 (za (hN1 _ _ (Zrg [2,3,5] (za (hL1 _ _ ?_)))));rw[iS i];refine⟨i+1,⟨⟨by omega,fun q hq=> ?_⟩,by omega⟩,id,(Zg id)⟩
  by_cases e:q=i
  ·subst e;exact h57'
  exact hi2 q (by omega)
 intro h44;obtain⟨hi1,hi2⟩:=hi;have hns:ns=ns':=nd_extS hnl fun q hq=>hi2 q (by omega);refine zk (hEL1 _ _ _ (hX0 _ _ (z6 (Zrs [2,3,6] ?_))));refine z8 fun Q2 hN2 hX2 hR2 hE2=> ?_;refine zl (σ:=Nat) (fun i=>i<=C.length/\∀q,q<i->cbA C q=cbA C' q) (fun i=>C.length-i) (fun i=>[(2,.ptr 8 0 0 0),(3,.ptr 9 0 0 0),(6,.int .i64 i)]) (fun _=>⟨10,[(9,rV 34 4 1 (fun _=>[.slc false 4 0 0 ns'.length,.int .i64 ht',.slc false 5 0 0 L'.length,.slc false 7 0 0 C'.length])),(8,rV 34 4 1 (fun _=>[.slc false 0 0 0 ns.length,.int .i64 ht,.slc false 1 0 0 L.length,.slc false 3 0 0 C.length])),(0,rI 62 3 ns.length (nds ns)),(1,rI 89 5 L.length (lyR 2 L)),(2,(3*L.length+1,fam false 3 1 (lyF false L))),(3,rI 58 3 C.length (cbs C)),(4,rI 62 3 ns'.length (nds ns')),(5,rI 89 5 L'.length (lyR 6 L')),(6,(3*L'.length+1,fam false 3 1 (lyF false L'))),(7,rI 58 3 C'.length (cbs C'))]⟩) 0 ⟨ql _,fun q h=>absurd h (qI _)⟩ (ρ:=id) (Zg id) ?_;rintro j hj QL2 hL2 hRL2 hEL2;refine z6 (Zrs [2,3,6,62] ?_);refine Zcn ?_ ?_
 ·intro h62;obtain⟨hj1,hj2⟩:=hj;have hjL:j<C'.length:=by omega
  refine z7 (z6 ?_);refine z8 fun Q3 hN3 hX3 hR3 hE3=> ?_;refine z6 ?_;refine Zrd [2,3,6,75] [0,1,2,3,4,5,6,7,8,9,10] [] [] ?_;intro K hK;iterate 11 (refine Zo (Zi [] []) ?_)
  rw[eqL_cbS];refine Zad ?_;refine zz (Zpr (hK _ _ ?_));clear hK K;refine Zcm ?_ ?_
  ·intro h75;have h75':cbA C j≠cbA C' j:=by simpa using h75
   refine Zrs [4] (zb (hR3 _ _ (hRL2 _ _ (hR2 _ _ (hQ _ _ ?_)))))
   have hne:¬((⟨ns,ht,L,C⟩:Fo)=⟨ns',ht',L',C'⟩):=fun e=>by
    injection e with e1 e2 e3 e4
    exact h75' (by rw[e4])
   rw[qG hne];refine Zob ⟨8,[]⟩ ?_
   all_goals(first|trivial|exact⟨rfl,trivial⟩)
  intro h75;have h75':cbA C j=cbA C' j:=by simpa using h75
  refine z7 (za (hN3 _ _ (Zrg [2,3,6] (za (hL2 _ _ ?_)))));rw[iS j];refine⟨j+1,⟨⟨by omega,fun q hq=> ?_⟩,by omega⟩,id,(Zg id)⟩
  by_cases e:q=j
  ·subst e;exact h75'
  exact hj2 q (by omega)
 intro h62;obtain⟨hj1,hj2⟩:=hj;have hCe:C=C':=cb_ext hcl fun q hq=>hj2 q (by omega);refine zk (hEL2 _ _ _ (hX2 _ _ (z6 (Zrs [2,3,7] ?_))));refine z8 fun Q4 hN4 hX4 hR4 hE4=> ?_;refine zl (σ:=Nat) (fun i=>i<=L.length/\∀q,q<i->lyA L q=lyA L' q) (fun i=>L.length-i) (fun i=>[(2,.ptr 8 0 0 0),(3,.ptr 9 0 0 0),(7,.int .i64 i)]) (fun _=>⟨10,[(9,rV 34 4 1 (fun _=>[.slc false 4 0 0 ns'.length,.int .i64 ht',.slc false 5 0 0 L'.length,.slc false 7 0 0 C'.length])),(8,rV 34 4 1 (fun _=>[.slc false 0 0 0 ns.length,.int .i64 ht,.slc false 1 0 0 L.length,.slc false 3 0 0 C.length])),(0,rI 62 3 ns.length (nds ns)),(1,rI 89 5 L.length (lyR 2 L)),(2,(3*L.length+1,fam false 3 1 (lyF false L))),(3,rI 58 3 C.length (cbs C)),(4,rI 62 3 ns'.length (nds ns')),(5,rI 89 5 L'.length (lyR 6 L')),(6,(3*L'.length+1,fam false 3 1 (lyF false L'))),(7,rI 58 3 C'.length (cbs C'))]⟩) 0 ⟨ql _,fun q h=>absurd h (qI _)⟩ (ρ:=id) (Zg id) ?_;rintro z hz3 QL3 hL3 hRL3 hEL3;refine z6 (Zrs [2,3,7,80] ?_);refine Zcn ?_ ?_
 ·intro h80;obtain⟨hz1,hz2⟩:=hz3;have hzL:z<L'.length:=by omega
  refine z7 (z6 ?_);refine z8 fun Q5 hN5 hX5 hR5 hE5=> ?_;refine z6 ?_;refine Cs.regNil [2,3,7,110] (.op 0 (.op 1 (.op 2 (.op 3 (.op 4 (.op 5 (.op 6 (.op 7 (.op 8 (.op 9 (.op 10 (.op 11 (.op 12 (.op 13 (.op 14 (.op 15 (.op 16 (.op 17 (.op 18 (.op 19 (.op 20 (.op 21 (.op 22 (.op 23 (.op 24 (.op 25 (.op 26 (.op 27 .done)))))))))))))))))))))))))))) [[],[],[],[],[],[],[],[],[],[],[],[],[],[],[],[],[],[],[],[],[],[],[],[],[],[],[],[]] [[],[],[],[],[],[],[],[],[],[],[],[],[],[],[],[],[],[],[],[],[],[],[],[],[],[],[],[]] Tryz.mo rfl rfl (by kernel_rfl) (by kernel_rfl) (by kernel_rfl) ?_;intro K hK hG
  have hk16:∀B:Bool,B= !decide (lyA L z=lyA L' z)->K [(2,.ptr 8 0 0 0),(3,.ptr 9 0 0 0),(7,.int .i64 z),(110,.bool B)] ⟨10,[(9,rV 34 4 1 (fun _=>[.slc false 4 0 0 ns'.length,.int .i64 ht',.slc false 5 0 0 L'.length,.slc false 7 0 0 C'.length])),(8,rV 34 4 1 (fun _=>[.slc false 0 0 0 ns.length,.int .i64 ht,.slc false 1 0 0 L.length,.slc false 3 0 0 C.length])),(0,rI 62 3 ns.length (nds ns)),(1,rI 89 5 L.length (lyR 2 L)),(2,(3*L.length+1,fam false 3 1 (lyF false L))),(3,rI 58 3 C.length (cbs C)),(4,rI 62 3 ns'.length (nds ns')),(5,rI 89 5 L'.length (lyR 6 L')),(6,(3*L'.length+1,fam false 3 1 (lyF false L'))),(7,rI 58 3 C'.length (cbs C'))]⟩:=by
   intro B hB;subst hB;refine hK _ _ ?_;clear hG hK K;refine Zcm ?_ ?_
   ·intro h110;have h110':¬lyA L z=lyA L' z:=by simpa using h110
    refine Zrs [4] (zb (hR5 _ _ (hRL3 _ _ (hR4 _ _ (hQ _ _ ?_)))))
    have hne:¬((⟨ns,ht,L,C⟩:Fo)=⟨ns',ht',L',C'⟩):=fun e=>by
     injection e with e1 e2 e3 e4
     exact h110' (by rw[e3])
    rw[qG hne];refine Zob ⟨8,[]⟩ ?_
    all_goals(first|trivial|exact⟨rfl,trivial⟩)
   intro h110;have h110':lyA L z=lyA L' z:=by simpa using h110
   refine z7 (za (hN5 _ _ (Zrg [2,3,7] (za (hL3 _ _ ?_)))));rw[iS z];refine⟨z+1,⟨⟨by omega,fun q hq=> ?_⟩,by omega⟩,id,(Zg id)⟩
   by_cases e:q=z
   ·subst e;exact h110'
   exact hz2 q (by omega)
  iterate 10 (refine Zo (ZT [] [] []) ?_)
  refine Zd (ZT [] [] []) (sameShapeM_spec L L' ha hb z z L.length L'.length (by omega) (by omega)) (fun q=>if q=0 then 2 else if q=1 then 6 else q) ?_;iterate 14 (refine Zo (ZT [] [] []) ?_)
  refine runT_op _ [] [] [] rfl rfl rfl rfl ?_;refine z1b rfl rfl ?_;refine Zgr ?_
  first|refine z15 ?_ ?_|refine(fun(h1:false=true->_) (h2:false=false->_)=>qi h1 fun _=>h2 rfl) ?_ ?_|refine qi ?_ ?_
  ·intro hg25
   first
    |(simp at hg25;done)
    |skip
     try replace hg25:=Znb hg25
     refine Zo id ?_;refine Zc1 (sameLM_spec L L' ha z z L.length L'.length (by omega) (by omega)) (fun q=>if q=0 then 2 else if q=1 then 6 else q) ?_;refine Zo (ZT [] [] []) ?_
     try with_reducible refine qi (by clear hk16;simp_all;done) ?_
     refine Zad ?_;refine Zo (ZT [] [] []) ?_
     try with_reducible refine qi (by clear hk16;simp_all;done) ?_
     refine Zad ?_;refine z14 ?_;refine Zpr ?_;refine hk16 _ ?_;rw[<-shpS_same];clear hk16 hG hK K;simp_all
  intro hg25;refine⟨.bool false,?_⟩
  first
   |(simp at hg25;done)
   |skip
    try replace hg25:=Znb hg25
    refine Zo (ZT [] [] []) ?_
    try with_reducible refine qi (by clear hk16;simp_all;done) ?_
    refine Zad ?_;refine Zo (ZT [] [] []) ?_
    try with_reducible refine qi (by clear hk16;simp_all;done) ?_
    refine Zad ?_;refine z14 ?_;refine Zpr ?_;refine hk16 _ ?_;rw[<-shpS_same];clear hk16 hG hK K;simp_all
 intro h80;obtain⟨hz1,hz2⟩:=hz3;have hLe:L=L':=ly_ext hll fun q hq=>hz2 q (by omega);refine zk (hEL3 _ _ _ (hX4 _ _ (Zrs [4] (zb (hQ _ _ ?_)))));subst hh hns hCe hLe;rw[qB rfl];refine Zob ⟨8,[]⟩ ?_
 all_goals(first|trivial|exact⟨rfl,trivial⟩)
end
section
def rowsOf_two (a b:Int):z3y 1 2 [SV.int .i64 a,SV.int .i64 b]=ints [a,b]:=rfl
def rowsOf_five (a b c d e:Int):z3y 1 5 [SV.int .i64 a,SV.int .i64 b,SV.int .i64 c,SV.int .i64 d,SV.int .i64 e]=ints [a,b,c,d,e]:=rfl
def nds_0 (xs:List Nd)(i:Nat):(nds xs i)[0]? =some (.int .i64 (nd xs i).id):=rfl
def nds_1 (xs:List Nd)(i:Nat):(nds xs i)[1]? =some (.str (nd xs i).key):=rfl
def nds_2 (xs:List Nd)(i:Nat):(nds xs i)[2]? =some (.int .u32 (nd xs i).word):=rfl
def nds_take (xs:List Nd)(i:Nat):(nds xs i).take 3=[.int .i64 (nd xs i).id,.str (nd xs i).key,.int .u32 (nd xs i).word]:=rfl
def ec50:=aj6 @rowsOf_two @rowsOf_five @nds_0 @nds_1 @nds_2 @nds_take
def RotEm.exE:=aj9 @zd @zf @zo @zh @zx @z10 @zg @zp (aj9 @zm @zi z58 @zn ec0 @z16.eq_1 z3g @z1a.eq_1 (aj7 @zu.eq_1 @app_nds ec24 @z11 @z2d ec50 @rowsOf_three))
def RotEm.gxE:=aj7 z3g ec16 @z1a.eq_1 @zu.eq_1 @z20 @z1u @z16.eq_1
def RotEm.axE:=aj9 @zd @zf @zo @zh @zx @z10 @zg @zp (aj9 @zm @zi z58 @zn ec0 @z16.eq_1 z3g @z1a.eq_1 (aj9 @zu.eq_1 @app_nds ec24 @z11 @z2d ec50 @rowsOf_three @z21 @z1p))
open RotEm (gxE axE exE)
open D0 (sdE oxE)
def roster_spec (ls:List Int)(m at_:Nat)(n:Int)(hx:ls.length<=9223372036854775807)(hm:m<=ls.length)(ha:at_<=m)(hn:1<=n/\n<=64):
  zj prog 11 [.ptr 0 0 0 0,.int .i64 n] ⟨2,[(0,z16 1 m at_),(1,z1a ls)]⟩
   (fun s H'=> ∃(xs:List Nd) (at':Nat),at'<=m/\xs.length<=n/\z1t xs=0/\s= .slc true 2 0 0 xs.length/\H'=⟨3,[(2,ownNds xs),(0,z16 1 m at')]⟩):=by
 refine Zf false 37 [.tmp 4] func11 ntmps11 results11 fun w0 own0 β0 Q hQ hQn=> ?_;refine Zrs [0,1] ?_;refine Zrs [0,1,5] (z6 ?_);refine sg [0,1,5,6] rfl ?_;intro K hK;iterate 4 (refine Zo Zl ?_)
 refine Zca (z2x ls m at_ (n+1) hx hm ha (by omega)) (id) ?_;rintro s0 H0 ⟨v,at1,h1,h2,h3,h4,rfl,rfl⟩ s1 H1 hs1 hH1;obtain⟨hs2,hH2⟩:=Zaf hs1 hH1;clear hs1 hH1;subst hs2 hH2;refine Zad ?_;have hv:=h3 (by omega);refine Zkl hK ?_;clear hK K;refine z2f 5 62 3 (nds []) rfl ?_;dsimp only;refine z8 fun Q0 hN0 hX0 hR0 hE0=> ?_;refine zl (σ:=List Nd×Nat×Nat) (fun σ=>σ.2.1<=m/\(σ.1.length:Int)+σ.2.2<=n/\z1t σ.1=0) (fun σ=>σ.2.2) (fun σ=>[(0,.ptr 0 0 0 0),(1,.int .i64 n),(5,.slc true 2 0 0 σ.1.length),(6,.int .i64 σ.2.2)]) (fun σ=>⟨3,[(2,ownNds σ.1),(0,z16 1 m σ.2.1),(1,z1a ls)]⟩) ([],at1,v.toNat) ⟨h1,by simp;omega,rfl⟩ (ρ:=id) (by rw[show v=(v.toNat:Int) by omega];exact(Zg id)) ?_;rintro⟨ys,at2,k⟩ hi QL1 hL1 hRL1 hEL1;refine z6 (Zrs [0,1,5,6,13] ?_);refine Zcn ?_ ?_
 ·intro h13;obtain⟨hi1,hi2,hi3⟩:=hi;dsimp only at hi1 hi2 hi3;refine z7 (z6 ?_);refine z8 fun Q1 hN1 hX1 hR1 hE1=> ?_;refine sg [0,1,5,6,7] rfl ?_;intro K hK;iterate 4 (refine Zo Zl ?_)
  refine Zca (z2x ls m at2 (3*n) hx hm hi1 (by omega)) (id) ?_;rintro s0 H0 ⟨u,at3,g1,g2,g3,g4,rfl,rfl⟩ s1 H1 hs1 hH1;obtain⟨hs2,hH2⟩:=Zaf hs1 hH1;clear hs1 hH1;subst hs2 hH2;refine Zad ?_;have hu:=g3 (by omega);iterate 3 (refine Zo Zl ?_)
  refine Zca (key_spec ls m at3 hx hm g1) (id) ?_;rintro s0 H0 ⟨key,at4,g5,g6,rfl,rfl⟩ s1 H1 hs1 hH1;obtain⟨hs2,hH2⟩:=Zaf hs1 hH1;clear hs1 hH1;subst hs2 hH2;refine Zad ?_;refine Zo Zl ?_;refine Zo Zl ?_;refine Zca (word_spec ls m at4 hx hm g5) (id) ?_;rintro s0 H0 ⟨w,at5,g7,g8,g9,rfl,rfl⟩ s1 H1 hs1 hH1;obtain⟨hs2,hH2⟩:=Zaf hs1 hH1;clear hs1 hH1;subst hs2 hH2;refine Zad ?_;refine Zkl hK ?_;clear hK K;refine z6 ?_;refine Zrt [0,1,5,6,7,31] (.op 0 (.op 2 (.two 1 3 (.op 3 (.op 4 (.op 5 .done))) (.op 1 (.op 4 (.op 5 .done)))))) [[],[],[],[],[999999]] [] ?_;intro K hK hG
  have hk6:K [(0,.ptr 0 0 0 0),(1,.int .i64 n),(5,.slc true 2 0 0 ys.length),(6,.int .i64 k),(7,.ptr 3 0 0 0),(31,.bool (z1t (ys++[⟨1+u,key,w⟩])==0))] ⟨4,[(3,rV 62 3 1 (fun _=>[.int .i64 (1+u),.str key,.int .u32 w])),(2,ownNds ys),(0,z16 1 m at5),(1,z1a ls)]⟩:=by
   refine hK _ _ ?_;clear hG hK K;refine Zcn ?_ ?_
   ·intro h31;refine Zrg [0,1,5,6] (za (hN1 _ _ ?_));refine Zrg [0,1,5,6] (za (hL1 _ _ ?_));refine⟨(ys++[⟨1+u,key,w⟩],at5,k-1),⟨⟨g7,by simp only[qX,Qn];omega,h31⟩,by dsimp only;omega⟩,fun i=>if i=2 then 5 else i,(have xE:((k-1:Nat):Int)=(k:Int)-1:=(by omega);Zgx (fun i=>if i=2 then 5 else i))⟩
   intro h31;refine z7 (za (hN1 _ _ (Zrg [0,1,5,6] (za (hL1 _ _ ?_)))));refine⟨(ys,at5,k-1),⟨⟨g7,by dsimp only;omega,hi3⟩,by dsimp only;omega⟩,id,(have xE:((k-1:Nat):Int)=(k:Int)-1:=(by omega);Zgx id)⟩
  refine Zo (ZT [] [] []) ?_;refine Zo (ZT [] [] []) ?_;refine z2e ?_ ?_
  ·skip
   refine Zo (ZT [] [] []) ?_;refine Zo (ZT [] [] []) ?_;refine Zo (ZT [0,1,2,3,4,5] [] []) ?_;refine Zd (ZT [] [] []) (refIs_spec (ys++[⟨1+u,key,w⟩]) (ys.length+1) (by simp) (by omega)) (fun _=>6) ?_;refine z14 ?_;refine Zpr ?_;exact hG _ _ _ _ id (Zg id) hk6
  skip
  refine Zo (ZT [] [] []) ?_;refine Zo (ZT [] [] []) ?_;refine Zo (ZT [0,1,2,3,4,5] [] []) ?_;refine Zd (ZT [] [] []) (refIs_spec (ys++[⟨1+u,key,w⟩]) (ys.length+1) (by simp) (by omega)) (fun _=>6) ?_;refine z14 ?_;refine Zpr ?_;exact hG _ _ _ _ id (Zg id) hk6
 intro h13;obtain⟨hi1,hi2,hi3⟩:=hi;dsimp only at hi1 hi2 hi3;refine zk (hEL1 _ _ _ (hX0 _ _ (Zrs [4] (zb (hQ _ _ ?_)))));refine Zob ⟨3,[(2,ownNds ys),(0,z16 1 m at2)]⟩ ?_;exact⟨ys,at2,hi1,by omega,hi3,by trivial,by trivial⟩
def some_spec (ls:List Int)(m at_:Nat)(n:Int)(hx:ls.length<=9223372036854775807)(hm:m<=ls.length)(ha:at_<=m)(hn:1<=n/\n<=64):
  zj prog 56 [.ptr 0 0 0 0,.int .i64 n] ⟨2,[(0,z16 1 m at_),(1,z1a ls)]⟩
   (fun s H'=> ∃(xs:List Nd) (at':Nat),at'<=m/\0<xs.length/\xs.length<=n/\z1t xs=0/\s= .slc true 2 0 0 xs.length/\H'=⟨3,[(2,ownNds xs),(0,z16 1 m at')]⟩):=by
 refine Zf false 24 [.tmp 4] func56 ntmps56 results56 fun w0 own0 β0 Q hQ hQn=> ?_;refine Zrs [0,1] ?_;refine sg [0,1,5] rfl ?_;intro K hK;iterate 3 (refine Zo Zl ?_)
 refine Zca (roster_spec ls m at_ n hx hm ha hn) (id) ?_;rintro s0 H0 ⟨xs,at1,h1,h2,h3,rfl,rfl⟩ s1 H1 hs1 hH1;obtain⟨hs2,hH2⟩:=Zaf hs1 hH1;clear hs1 hH1;subst hs2 hH2;refine Zad ?_;refine Zkl hK ?_;clear hK K;refine z6 (Zrs [0,1,5,11] ?_);refine Zcn ?_ ?_
 ·intro h11;refine z3v [5] rfl ?_;intro K hK;iterate 4 (refine Zo Zl ?_)
  refine Zca (z2x ls m at1 (3*n) hx hm h1 (by omega)) (id) ?_;rintro s0 H0 ⟨u,at3,g1,g2,g3,g4,rfl,rfl⟩ s1 H1 hs1 hH1;obtain⟨hs2,hH2⟩:=Zaf hs1 hH1;clear hs1 hH1;subst hs2 hH2;refine Zad ?_;have hu:=g3 (by omega);iterate 3 (refine Zo Zl ?_)
  refine Zca (key_spec ls m at3 hx hm g1) (id) ?_;rintro s0 H0 ⟨key,at4,g5,g6,rfl,rfl⟩ s1 H1 hs1 hH1;obtain⟨hs2,hH2⟩:=Zaf hs1 hH1;clear hs1 hH1;subst hs2 hH2;refine Zad ?_;refine Zo Zl ?_;refine Zo Zl ?_;refine Zca (word_spec ls m at4 hx hm g5) (id) ?_;rintro s0 H0 ⟨w,at5,g7,g8,g9,rfl,rfl⟩ s1 H1 hs1 hH1;obtain⟨hs2,hH2⟩:=Zaf hs1 hH1;clear hs1 hH1;subst hs2 hH2;refine Zad ?_;refine Zkl hK ?_;clear hK K;refine Zrs [4] (zb (hQ _ _ ?_));refine Zor (fun i=>if i=2 then 3 else i) (.slc true 2 0 0 1) (⟨3,[(2,ownNds [⟨1+u,key,w⟩]),(0,z16 1 m at5)]⟩) ?_;refine⟨[⟨1+u,key,w⟩],at5,g7,by simp,by simp;omega,?_,by trivial,by trivial⟩
  have h1:badN ⟨1+u,key,w⟩=false:=by
   simp only[badN,okKey,okWord,qk,qg,qr,qm];omega
  rw[z1t,qc (by simp),z1q (fun i hi=> ?_),qc qh,z1q (fun i hi=> ?_),qc qh]
  ·simp only[Qn] at hi;have:i=0:=by omega
   subst this;exact z1q fun k hk=>by omega
  simp only[Qn] at hi;have:i=0:=by omega
  subst this;exact h1
 intro h11;refine z7 (Zrs [4] (zb (hQ _ _ ?_)));refine Zob ⟨3,[(2,ownNds xs),(0,z16 1 m at1)]⟩ ?_;exact⟨xs,at1,h1,by omega,h2,h3,by trivial,by trivial⟩
def id_spec (ls:List Int)(m at_:Nat)(hx:ls.length<=9223372036854775807)(hm:m<=ls.length)(ha:at_<=m)(xs:List Nd)(n:Nat)(hn:xs.length=n)(hnx:n<=1000000):
  zj prog 24 [.ptr 0 0 0 0,.slc false 2 0 0 n] ⟨3,[(0,z16 1 m at_),(1,z1a ls),(2,rI 62 3 n (nds xs))]⟩
   (fun s H'=> ∃(v:Int) (at':Nat),at'<=m/\s= .int .i64 v/\H'=⟨3,[(0,z16 1 m at')]⟩):=by
 refine Zf false 23 [.tmp 4] func24 ntmps24 results24 fun w0 own0 β0 Q hQ hQn=> ?_;refine Zrs [0,1] (z6 ?_);refine sg [0,1,11] rfl ?_;intro K hK
 have hk1:∀(B:Bool) (at1:Nat),at1<=m->(B=false->0<n)->K [(0,.ptr 0 0 0 0),(1,.slc false 2 0 0 n),(11,.bool B)] ⟨3,[(0,z16 1 m at1),(1,z1a ls),(2,rI 62 3 n (nds xs))]⟩:=by
  intro B at1 h1 hB;refine hK _ _ ?_;clear hK K;refine Zcm ?_ ?_
  ·intro h11;refine sg [4] rfl ?_;intro K hK;iterate 3 (refine Zo Zl ?_)
   refine Zca (pick_spec ls [0,-1,999,4611686018427387904,1] m at1 hx hm h1 (by simp) (by simp)) (fun i=>if i=2 then 3 else i) ?_;rintro s0 H0 ⟨i6,at6,p1,p2,rfl,rfl⟩ s1 H1 hs1 hH1;obtain⟨hs2,hH2⟩:=Zaf hs1 hH1;clear hs1 hH1;subst hs2 hH2;refine Zad ?_;refine Zkl hK ?_;clear hK K;refine zb (hQ _ _ ?_);refine Zob ⟨3,[(0,z16 1 m at6)]⟩ ?_;exact⟨_,at6,p1,rfl,by trivial⟩
  intro h11;have hpos:=hB h11;refine z7 (sg [4] rfl ?_);intro K hK;iterate 5 (refine Zo Zl ?_)
  refine Zca (z2x ls m at1 n hx hm h1 (by omega)) (id) ?_;rintro s0 H0 ⟨u,at3,g1,g2,g3,g4,rfl,rfl⟩ s1 H1 hs1 hH1;obtain⟨hs2,hH2⟩:=Zaf hs1 hH1;clear hs1 hH1;subst hs2 hH2;refine Zad ?_;have hu:=g3 (by omega);refine Zkl hK ?_;clear hK K;refine zb (hQ _ _ ?_);refine Zob ⟨3,[(0,z16 1 m at3)]⟩ ?_;exact⟨_,at3,g1,rfl,by trivial⟩
 iterate 5 (refine Zo Zl ?_)
 refine z13 ?_;refine z1b rfl rfl ?_;refine Zgr ?_;refine z15 ?_ ?_
 ·intro hg5
  first
   |(simp at hg5;done)
   |skip
    try replace hg5:=Znb hg5
    refine Zo id ?_;refine Zca (bool_spec ls m at_ 8 hx hm ha (by omega) (by omega)) (id) ?_;rintro s0 H0 ⟨b,at1,h1,rfl,rfl⟩ s1 H1 hs1 hH1;obtain⟨hs2,hH2⟩:=Zaf hs1 hH1;clear hs1 hH1;subst hs2 hH2;refine Zad ?_;refine Zo Zl ?_;refine zr ?_;refine Zpr ?_;refine hk1 _ at1 h1 ?_;intro hb;simp at hb;omega
 intro hg5;refine⟨.bool false,?_⟩
 first
  |(simp at hg5;done)
  |skip
   try replace hg5:=Znb hg5
   refine Zo Zl ?_;refine zr ?_;refine Zpr ?_;refine hk1 _ at_ ha ?_;intro hb;simp at hb hg5;omega
end
section
def sameNew_spec (ns:List Nd)(dn:List Int)(m n k:Nat)(ht:Int)(h:Fsh (z2n ns dn m ht))(hn:ns.length=n)(hk:(z2n ns dn m ht).ly.length=k)(hx:n<=1000000)(hy:m<=1000000):
  zj prog 18 [.agg [.slc false 0 0 0 n,.int .i64 ht,.slc false 1 0 0 k,.slc false 3 0 0 m],.agg [.slc false 4 0 0 n,.int .i64 ht,.slc false 5 0 0 k,.slc false 7 0 0 m]]
   ⟨8,[(0,rI 62 3 n (nds ns)),(1,rI 89 5 k (lyR 2 (z2n ns dn m ht).ly)),(2,(3*k+1,fam false 3 1 (lyF false (z2n ns dn m ht).ly))),(3,rI 58 3 m (cbs (List.replicate m noCb))),(4,rI 62 3 n (nds ns)),(5,rI 89 5 k (lyR 6 (z2n ns dn m ht).ly)),(6,(3*k+1,fam false 3 1 (lyF false (z2n ns dn m ht).ly))),(7,rI 58 3 m (cbs (List.replicate m noCb)))]⟩
   (fun s H1=>s= .bool true/\H1=⟨8,[]⟩):=by
 have hm:(z2n ns dn m ht).cb.length=m:=Qy;have g:=sameF_spec (z2n ns dn m ht) (z2n ns dn m ht) h.lyB h.lyB n k m n k m hn hk hm hn hk hm hx hy (by have:=h.lyB.1;omega);rw[qB rfl] at g;exact g
def findI_idL {xs:List Nd}{dn:List Int}(h:dn.Sublist (idL5 xs)):∀v∈dn,0<=findI xs v:=fun v hv=>by
 have:=h.subset hv;rw[idL5,Qs] at this;obtain⟨x,hx,rfl⟩:=this;exact findI_of hx
def JoQm.exE:=aj9 @z11 @zd @zf @zo @zh @zx @z10 ec2 (aj9 @zg @zp @zm @zi z58 @zn z3g z3w (aj9 @zq ec3 ec5 @z1a.eq_1 @zu.eq_1 @ints.eq_1 ec34 ec35 (aj4 ec36 ec0 @z16.eq_1 @z18)))
def JoQm.gxE:=aj9 @z11 z3g ec16 z3w ec3 ec7 ec8 @z1a.eq_1 (aj7 @zu.eq_1 @z20 @z1u ec37 ec26 ec29 @z16.eq_1)
def JoQm.axE:=aj9 @z11 @zd @zf @zo @zh @zx @z10 ec2 (aj9 @zg @zp @zm @zi z58 @zn z3g z3w (aj9 @zq ec3 ec5 @z1a.eq_1 @zu.eq_1 ec34 ec35 ec0 (aj8 @z16.eq_1 @z18 @z1p @z21 @z2j @z2r ec38 @z38)))
open JoQm (gxE axE exE)
open JnNm (oxE)
open D0 (sdE)
def made_spec (ls:List Int)(mm at_:Nat)(hx:ls.length<=9223372036854775807)(hm:mm<=ls.length)(ha:at_<=mm):
  zj prog 20 [.ptr 0 0 0 0] ⟨2,[(0,z16 1 mm at_),(1,z1a ls)]⟩
   (fun s H'=> ∃(ns:List Nd) (dn:List Int) (m:Nat) (ht:Int) (at':Nat),(MkF ns m ht/\at'<=mm)/\s= .tup [.agg [.slc true 2 0 0 ns.length,.int .i64 ht,.slc true 3 0 0 (z2n ns dn m ht).ly.length,.slc true 5 0 0 m],.bool true]/\
    H'=⟨6,[(0,z16 1 mm at'),(2,rO 62 3 ns.length (nds ns)),(3,rO 89 5 ((z2n ns dn m ht).ly.length) (lyR 4 (z2n ns dn m ht).ly)),(4,(3*(z2n ns dn m ht).ly.length+1,fam true 3 1 (lyF true (z2n ns dn m ht).ly))),(5,rO 58 3 m (cbs (List.replicate m noCb)))]⟩):=by
 refine Zf false 71 [.cell 2 34,.tmp 3] func20 ntmps20 results20 fun w0 own0 β0 Q hQ hQn=> ?_;refine Zrs [0,2] ?_;refine sg [0,2,4] rfl ?_;intro K hK;refine Zo Zl ?_;refine Zo Zl ?_;refine Zca (some_spec ls mm at_ 6 hx hm ha (by omega)) (id) ?_;rintro s0 H0 ⟨xs,at1,g1,g2,g3,g4,rfl,rfl⟩ s1 H1 hs1 hH1;obtain⟨hs2,hH2⟩:=Zaf hs1 hH1;clear hs1 hH1;subst hs2 hH2;refine Zad ?_;refine Zkl hK ?_;clear hK K;refine Zrs [0,2,4,5] (z6 ?_);refine Zrs [0,2,4,5,6] (z2f 5 3 1 (ints []) rfl ?_);dsimp only;refine z8 fun Q0 hN0 hX0 hR0 hE0=> ?_;refine zl (σ:=Nat×List Int×Nat) (fun σ=>σ.1<=xs.length/\σ.2.1.Sublist (idL5 (xs.take σ.1))/\σ.2.2<=mm) (fun σ=>xs.length-σ.1) (fun σ=>[(0,.ptr 0 0 0 0),(2,.ptr 2 0 0 0),(4,.slc true 3 0 0 xs.length),(5,.slc true 4 0 0 σ.2.1.length),(6,.int .i64 σ.1)]) (fun σ=>⟨5,[(4,rO 3 1 σ.2.1.length (ints σ.2.1)),(3,rO 62 3 xs.length (nds xs)),(2,rV 34 4 1 (fun _=>[.nils,.int .i64 0,.nils,.nils])),(0,z16 1 mm σ.2.2),(1,z1a ls)]⟩) (0,[],at1) ⟨ql _,by simp[idL5],g1⟩ (ρ:=id) (have xE:=@ownNds.eq_1;Zgx id) ?_;rintro⟨i,dn,at2⟩ hi QL1 hL1 hRL1 hEL1;obtain⟨hi1,hi2,hi3⟩:=hi;dsimp only at hi1 hi2 hi3
 have hdl:dn.length<=6:=by
  have:=hi2.length_le;rw[idL5,qx,qN] at this;omega
 refine z6 (Zrs [0,2,4,5,6,18] ?_);refine Zcn ?_ ?_
 ·intro h18;refine z7 (z6 ?_);refine z8 fun Q1 hN1 hX1 hR1 hE1=> ?_;refine sg [0,2,4,5,6,22] rfl ?_;intro K hK;refine Zo Zl ?_;refine Zo Zl ?_;refine Zca (bool_spec ls mm at2 2 hx hm hi3 (by omega) (by omega)) (id) ?_;rintro s0 H0 ⟨b,at3,k1,rfl,rfl⟩ s1 H1 hs1 hH1;obtain⟨hs2,hH2⟩:=Zaf hs1 hH1;clear hs1 hH1;subst hs2 hH2;refine Zad ?_;refine Zk hK ?_;clear hK K;refine Zcm ?_ ?_
  ·intro h22;refine Zrg [0,2,4,5,6] (za (hN1 _ _ ?_));refine Zrg [0,2,4,5,6] (za (hL1 _ _ ?_));rw[app_intsN rfl,iS i];refine⟨(i+1,dn++[(nd xs i).id],at3),⟨⟨by dsimp only;omega,?_,k1⟩,by dsimp only;omega⟩,fun q=>if q=4 then 6 else q,(Zg (fun q=>if q=4 then 6 else q))⟩;dsimp only;rw[idL5_take (by omega)];exact hi2.append (List.Sublist.refl _)
  intro h22;refine z7 (za (hN1 _ _ (Zrg [0,2,4,5,6] (za (hL1 _ _ ?_)))));rw[iS i];refine⟨(i+1,dn,at3),⟨⟨by dsimp only;omega,?_,k1⟩,by dsimp only;omega⟩,id,(Zg id)⟩;dsimp only;rw[idL5_take (by omega)];exact hi2.trans (List.sublist_append_left ..)
 intro h18;have hie:i=xs.length:=by omega
 subst hie;rw[Qj (qd _)] at hi2;have hnd:dn.Nodup:=hi2.nodup (ids_nodup g4);refine zk (hEL1 _ _ _ (hX0 _ _ (sg [2,4,5,7,8] rfl ?_)));intro K hK;refine Zo Zl ?_;refine Zo Zl ?_;refine Zca (z2x ls mm at2 2 hx hm hi3 (by omega)) (id) ?_;rintro s0 H0 ⟨v,at4,v1,v2,v3,v4,rfl,rfl⟩ s1 H1 hs1 hH1;obtain⟨hs2,hH2⟩:=Zaf hs1 hH1;clear hs1 hH1;subst hs2 hH2;refine Zad ?_;have v5:=v3 (by omega);obtain⟨m,hmv⟩:∃m:Nat,2+v=m:=⟨(2+v).toNat,by omega⟩;refine Zo Zl ?_;rw[hmv];refine Zad ?_;refine Zo Zl ?_;refine Zo Zl ?_;refine Zca (z2x ls mm at4 4 hx hm v1 (by omega)) (id) ?_;rintro s0 H0 ⟨u,at5,u1,u2,u3,u4,rfl,rfl⟩ s1 H1 hs1 hH1;obtain⟨hs2,hH2⟩:=Zaf hs1 hH1;clear hs1 hH1;subst hs2 hH2;refine Zad ?_;have u5:=u3 (by omega);have hsh:=newF_sh (dn:=dn) g4 (by omega) u2 (show u<=16 by omega) (m:=m) (by omega) (by omega);have hmk:MkF xs m u:=⟨g4,by omega,by omega,by omega,u2,by omega⟩;refine Zkl hK ?_;clear hK K;refine sg [2,4,5,7,8,9,10] rfl ?_;intro K hK;iterate 4 (refine Zo Zl ?_)
 refine Zd Zl (New_ok xs dn m xs.length dn.length u rfl rfl g4 (by omega) (by omega) (by omega) u2 (by omega) (by omega) (findI_idL hi2) hnd) (fun q=>if q=0 then 3 else if q=1 then 4 else q) ?_;refine Zkl hK ?_;clear hK K;refine sg [2,7,9,10,11,12] rfl ?_;intro K hK;iterate 4 (refine Zo Zl ?_)
 refine Zd Zl (refNewF_spec xs dn m xs.length dn.length u rfl rfl g4 (by omega) (by omega) u2 (by omega) (by omega) (findI_idL hi2) hnd) (fun q=>if q=0 then 3 else if q=1 then 4 else q) ?_;refine Zkl hK ?_;clear hK K;refine z6 ?_;refine Zrt [2,3] (.op 0 (.op 1 (.op 2 (.op 3 (.op 4 (.op 5 (.op 6 (.op 7 (.op 8 (.op 9 (.op 10 (.op 11 (.op 12 (.op 13 (.op 16 (.two 14 19 (.op 15 (.op 17 (.op 18 (.op 19 (.op 20 .done))))) (.op 14 (.op 15 (.op 17 (.op 18 (.op 20 .done))))))))))))))))))))) (ws 0 [(19,[2])]) (ws 0 [(13,[2]),(14,[2]),(15,[2]),(16,[2]),(17,[2]),(18,[2]),(19,[2]),(20,[2])]) ?_;intro K hK hG
 have hk11:K [(2,.ptr 2 0 0 0),(3,.bool true)] ⟨9,[(2,rV 34 4 1 (fun _=>[.slc true 5 0 0 xs.length,.int .i64 u,.slc true 6 0 0 (z2n xs dn m u).ly.length,.slc true 8 0 0 m])),(5,rO 62 3 xs.length (nds xs)),(6,rO 89 5 ((z2n xs dn m u).ly.length) (lyR 7 (z2n xs dn m u).ly)),(7,(3*(z2n xs dn m u).ly.length+1,fam true 3 1 (lyF true (z2n xs dn m u).ly))),(8,rO 58 3 m (cbs (List.replicate m noCb))),(0,z16 1 mm at5)]⟩:=by
  refine hK _ _ ?_;clear hG hK K;refine zb (hQ _ _ ?_);refine Zor (fun q=>if q=2 then 5 else if q=3 then 6 else if q=4 then 7 else if q=5 then 8 else q) (.tup [.agg [.slc true 2 0 0 xs.length,.int .i64 u,.slc true 3 0 0 (z2n xs dn m u).ly.length,.slc true 5 0 0 m],.bool true]) (⟨6,[(0,z16 1 mm at5),(2,rO 62 3 xs.length (nds xs)),(3,rO 89 5 ((z2n xs dn m u).ly.length) (lyR 4 (z2n xs dn m u).ly)),(4,(3*(z2n xs dn m u).ly.length+1,fam true 3 1 (lyF true (z2n xs dn m u).ly))),(5,rO 58 3 m (cbs (List.replicate m noCb)))]⟩) ?_;exact⟨xs,dn,m,u,at5,⟨hmk,u1⟩,by trivial,by trivial⟩
 iterate 10 (refine Zo (ZT [] [] []) ?_)
 refine runT_op _ [] [] [] rfl rfl rfl rfl ?_;refine z1b rfl rfl ?_;refine Zgr ?_;refine⟨fun _=> ?_,fun h=>(by cases h)⟩;refine Zo id ?_;refine Zc1 (sameNew_spec xs dn m xs.length (z2n xs dn m u).ly.length u hsh rfl rfl (by omega) (by omega)) (fun q=>if q=0 then 5 else if q=1 then 6 else if q=2 then 7 else if q=3 then 8 else q+6) ?_;refine Zo (ZT [] [] []) ?_;refine Zo (ZT [] [] []) ?_;refine Zo (ZT [] [2] []) ?_;refine Zo (ZT [] [2] []) ?_;refine z2e ?_ ?_
 ·skip
  iterate 4 (refine Zo (ZT [] [2] []) ?_)
  refine Zo (ZT [2] [2] []) ?_;refine Zo (ZT [] [2] []) ?_;refine z14 ?_;refine Zpr ?_;exact hG _ _ _ _ id (Zg id) hk11
 skip
 refine Zo (ZT [2] [2] []) ?_;iterate 5 (refine Zo (ZT [] [2] []) ?_)
 refine z14 ?_;refine Zpr ?_;exact hG _ _ _ _ id (Zg id) hk11
end
section
def Fsh.word {fo:Fo}(h:Fsh fo){i:Nat}(hi:i<fo.ly.length){v:Int}(hv:0<=idI (lyA fo.ly i).ids v):z4f (lyA fo.ly i).wd (z3s fo.ns v).word (lyA fo.ly i).lvl=true:=by
 have A:=h.at_ i hi;obtain⟨k,hk,_,hnt⟩:=idI_mem hv;obtain⟨n,hn,h1,h2⟩:=h.cls hi;have h16:=h.h16;rw[A.ids,qx] at hk;have hm:=nd_mem hk
 have he:(nd (shA (z37 fo.ns fo.ht.toNat) i).2 k).id=v:=by
  rw[<-hnt,A.ids,z30 (by rw[qx];exact hk),jA,z4z hk]
 rw[<-he,findN_at h.ck (h.mem hi hm),A.wd,A.lvl,h1];refine sameW_symm ?_
 generalize nd (shA (z37 fo.ns fo.ht.toNat) i).2 k=x at hm
 rw[(clsN_ok (show(n:Int)<=16 by omega) _).1.eq _ h2,grpW,jH] at hm;exact hm.2
open JnNm (gxE axE oxE exE)
open D0 (sdE)
def refAt_spec (fo:Fo)(h:Fsh fo)(n k m:Nat)(v lv:Int)(hn:fo.ns.length=n)(hk:fo.ly.length=k)(hm:fo.cb.length=m):
  zj prog 68 [.agg [.slc false 0 0 0 n,.int .i64 fo.ht,.slc false 1 0 0 k,.slc false 3 0 0 m],.int .i64 v,.int .i64 lv] ⟨4,[(0,rI 62 3 n (nds fo.ns)),(1,rI 89 5 k (lyR 2 fo.ly)),(2,(3*k+1,fam false 3 1 (lyF false fo.ly))),(3,rI 58 3 m (cbs fo.cb))]⟩
   (fun s H1=>s= .tup [.int .i64 (plI fo.ly v lv),.int .i64 (plK fo.ly v lv)]/\H1=⟨4,[]⟩):=by
 have hb:=h.lyB;have hlen:=hb.1;have h64:=h.few;subst hn hk hm;refine Zf false 72 [.tmp 6,.tmp 7] func68 ntmps68 results68 fun w0 own0 β0 Q hQ hQn=> ?_;refine Zrs [1,2,3] ?_;refine sg [1,2,3,8] rfl ?_;intro K hK;iterate 3 (refine Zo Zl ?_)
 refine Zd Zl (refFind_spec fo.ns v fo.ns.length rfl (by omega)) (id) ?_;refine Zkl hK ?_;clear hK K;refine z6 (Zrs [1,2,3,8,10] ?_);refine z8 fun Q0 hN0 hX0 hR0 hE0=> ?_;refine zl (σ:=Nat) (fun i=>i<=fo.ly.length/\∀q,q<i->plP fo.ly v lv q=false) (fun i=>fo.ly.length-i) (fun i=>[(1,.int .i64 v),(2,.int .i64 lv),(3,.ptr 4 0 0 0),(8,.ptr 5 0 0 0),(10,.int .i64 i)]) (fun _=>⟨6,[(5,rV 62 3 1 (fun _=>[.int .i64 (z3s fo.ns v).id,.str (z3s fo.ns v).key,.int .u32 (z3s fo.ns v).word])),(4,rV 34 4 1 (fun _=>[.slc false 0 0 0 fo.ns.length,.int .i64 fo.ht,.slc false 1 0 0 fo.ly.length,.slc false 3 0 0 fo.cb.length])),(0,rI 62 3 fo.ns.length (nds fo.ns)),(1,rI 89 5 fo.ly.length (lyR 2 fo.ly)),(2,(3*fo.ly.length+1,fam false 3 1 (lyF false fo.ly))),(3,rI 58 3 fo.cb.length (cbs fo.cb))]⟩) 0 ⟨ql _,fun q hq=>absurd hq (qI _)⟩ (ρ:=id) (Zg id) ?_;rintro i hi QL1 hL1 hRL1 hEL1;obtain⟨hi1,hi2⟩:=hi;refine z6 (Zrs [1,2,3,8,10,23] ?_);refine Zcn ?_ ?_
 ·intro h23;have hil:i<fo.ly.length:=by omega
  have hib:=(hb.2 i).1;refine z7 (z6 ?_);refine z8 fun Q1 hN1 hX1 hR1 hE1=> ?_;refine z6 (z6 ?_);refine Zrd [1,2,3,8,10,46] [0,1,2,3,4,5,6,7,8,9,10,11,12,13,14,15,16,17,18,19,20] [] [] ?_;intro K hK
  have hk5:∀B:Bool,(B=true->plP fo.ly v lv i=false)->(B=false->(lyA fo.ly i).lvl=lv)->K [(1,.int .i64 v),(2,.int .i64 lv),(3,.ptr 4 0 0 0),(8,.ptr 5 0 0 0),(10,.int .i64 i),(46,.bool B)] ⟨6,[(5,rV 62 3 1 (fun _=>[.int .i64 (z3s fo.ns v).id,.str (z3s fo.ns v).key,.int .u32 (z3s fo.ns v).word])),(4,rV 34 4 1 (fun _=>[.slc false 0 0 0 fo.ns.length,.int .i64 fo.ht,.slc false 1 0 0 fo.ly.length,.slc false 3 0 0 fo.cb.length])),(0,rI 62 3 fo.ns.length (nds fo.ns)),(1,rI 89 5 fo.ly.length (lyR 2 fo.ly)),(2,(3*fo.ly.length+1,fam false 3 1 (lyF false fo.ly))),(3,rI 58 3 fo.cb.length (cbs fo.cb))]⟩:=by
   intro B hB1 hB2;refine hK _ _ ?_;clear hK K;refine Zcm ?_ ?_
   ·intro h46;have hP:=hB1 h46;refine zk (hX1 _ _ (Zrg [1,2,3,8,10] (za (hL1 _ _ ?_))));rw[iS i];refine⟨i+1,⟨⟨by omega,fun q hq=> ?_⟩,by omega⟩,id,(Zg id)⟩
    by_cases e:q=i
    ·subst e;exact hP
    exact hi2 q (by omega)
   intro h46;have hL:=hB2 h46;refine z7 (Zrs [1,2,3,8,10,11] ?_);refine z8 fun Q2 hN2 hX2 hR2 hE2=> ?_;refine zl (σ:=Nat) (fun j=>j<=(lyA fo.ly i).ids.length/\∀q,q<j->decide (nth (lyA fo.ly i).ids q=v)=false) (fun j=>(lyA fo.ly i).ids.length-j) (fun j=>[(1,.int .i64 v),(2,.int .i64 lv),(3,.ptr 4 0 0 0),(8,.ptr 5 0 0 0),(10,.int .i64 i),(11,.int .i64 j)]) (fun _=>⟨6,[(5,rV 62 3 1 (fun _=>[.int .i64 (z3s fo.ns v).id,.str (z3s fo.ns v).key,.int .u32 (z3s fo.ns v).word])),(4,rV 34 4 1 (fun _=>[.slc false 0 0 0 fo.ns.length,.int .i64 fo.ht,.slc false 1 0 0 fo.ly.length,.slc false 3 0 0 fo.cb.length])),(0,rI 62 3 fo.ns.length (nds fo.ns)),(1,rI 89 5 fo.ly.length (lyR 2 fo.ly)),(2,(3*fo.ly.length+1,fam false 3 1 (lyF false fo.ly))),(3,rI 58 3 fo.cb.length (cbs fo.cb))]⟩) 0 ⟨ql _,fun q hq=>absurd hq (qI _)⟩ (ρ:=id) (Zg id) ?_;rintro j hj QL2 hL2 hRL2 hEL2;obtain⟨hj1,hj2⟩:=hj;refine z6 (Zrs [1,2,3,8,10,11,55] ?_);refine Zcn ?_ ?_
   ·intro h55;have hjl:j<(lyA fo.ly i).ids.length:=by omega
    refine z7 (z6 ?_);refine z8 fun Q3 hN3 hX3 hR3 hE3=> ?_;refine Zrs [1,2,3,8,10,11,68] ?_;refine Zcm ?_ ?_
    ·intro h68
     try replace h68:=Znb h68
     refine Zrs [6,7] (zb (hR3 _ _ (hRL2 _ _ (hR2 _ _ (hR1 _ _ (hRL1 _ _ (hR0 _ _ (hQ _ _ ?_))))))));have hid:idI (lyA fo.ly i).ids v=j:=idxB_at (qB (by simpa using h68)) hjl hj2;have hP:plP fo.ly v lv i=true:=by rw[plP,hid,hL,jD,qL];exact qB (by omega)
     have hI:plI fo.ly v lv=i:=idxB_at hP hil hi2;have hK:plK fo.ly v lv=j+2:=by rw[plK,hI,qc (by omega),qq,hid]
     refine Zob ⟨4,[]⟩ ?_;rw[hI,hK]
     all_goals first|trivial|exact⟨rfl,trivial⟩
    intro h68
    try replace h68:=Znb h68
    refine z7 (za (hN3 _ _ (Zrg [1,2,3,8,10,11] (za (hL2 _ _ ?_)))));rw[iS j];refine⟨j+1,⟨⟨by omega,fun q hq=> ?_⟩,by omega⟩,id,(Zg id)⟩
    by_cases e:q=j
    ·subst e;exact qG (by simpa using h68)
    exact hj2 q (by omega)
   intro h55;have hid:idI (lyA fo.ly i).ids v= -1:=z64 fun q hq=>hj2 q (by omega);have hP:plP fo.ly v lv i=false:=by rw[plP,hid,JB];exact .inr rfl
   refine zk (hEL2 _ _ _ (hX2 _ _ (za (hN1 _ _ (Zrg [1,2,3,8,10] (za (hL1 _ _ ?_)))))));rw[iS i];refine⟨i+1,⟨⟨by omega,fun q hq=> ?_⟩,by omega⟩,id,(Zg id)⟩
   by_cases e:q=i
   ·subst e;exact hP
   exact hi2 q (by omega)
  iterate 18 (refine Zo (Zi [] []) ?_)
  refine runI_cons _ [] [] rfl rfl rfl ?_;refine z1b rfl rfl ?_;refine Zgr ?_
  first|refine z15 ?_ ?_|refine(fun(h1:false=true->_) (h2:false=false->_)=>qi h1 fun _=>h2 rfl) ?_ ?_|refine qi ?_ ?_
  ·intro hg18
   first
    |(simp at hg18;done)
    |skip
     try replace hg18:=Znb hg18
     refine Zo id ?_;refine Zc1 (refSame_w_spec (lyA fo.ly i).wd (z3s fo.ns v).word lv) (id) ?_;iterate 2 (refine Zo (Zi [] []) ?_)
     refine zz ?_;refine Zpr ?_;refine hk5 _ ?_ ?_
     ·intro hb5;rw[plP,JB];refine Jm fun g=> ?_;rw[not_or,Bool.not_eq_false,Bool.not_eq_false,qD,qm] at g;have:=h.word hil g.2;rw[g.1] at this;simp[g.1,this] at hb5
     intro hb5;simp at hb5;exact hb5.1
  intro hg18;refine⟨.bool false,?_⟩
  first
   |(simp at hg18;done)
   |skip
    try replace hg18:=Znb hg18
    iterate 2 (refine Zo (Zi [] []) ?_)
    refine zz ?_;refine Zpr ?_;refine hk5 _ ?_ ?_
    ·intro hb5;have:(lyA fo.ly i).lvl≠lv:=by simpa using hg18
     rw[plP,qH.2 this];rfl
    intro hb5;simp at hb5
 intro h23;refine zk (hEL1 _ _ _ (hX0 _ _ (Zrs [6,7] (zb (hQ _ _ ?_)))));have hI:plI fo.ly v lv= -1:=z64 fun q hq=>hi2 q (by omega);refine Zob ⟨4,[]⟩ ?_;rw[show plK fo.ly v lv=0 by rw[plK,hI];rfl,hI]
 all_goals first|trivial|exact⟨rfl,trivial⟩
def refIn_spec (fo:Fo)(h:Fsh fo)(n k m:Nat)(v lv:Int)(hn:fo.ns.length=n)(hk:fo.ly.length=k)(hm:fo.cb.length=m):
  zj prog 65 [.agg [.slc false 0 0 0 n,.int .i64 fo.ht,.slc false 1 0 0 k,.slc false 3 0 0 m],.int .i64 v,.int .i64 lv] ⟨4,[(0,rI 62 3 n (nds fo.ns)),(1,rI 89 5 k (lyR 2 fo.ly)),(2,(3*k+1,fam false 3 1 (lyF false fo.ly))),(3,rI 58 3 m (cbs fo.cb))]⟩ (fun s H1=>s= .bool (memF fo.ly v lv)/\H1=⟨4,[]⟩):=by
 have hb:=h.lyB;have hc:=h.lyC;subst hn hk hm;have hlen:=hb.1;have hin:=plK_in (L:=fo.ly) hc (v:=v) (lv:=lv);have hI:=plI_lt fo.ly v lv;refine Zf false 32 [.tmp 6] func65 ntmps65 results65 fun w0 own0 β0 Q hQ hQn=> ?_;refine Zrs [1,2,3] ?_;refine sg [3,7,8] rfl ?_;intro K hK;iterate 3 (refine Zo Zl ?_)
 refine Zd Zl (refAt_spec fo h fo.ns.length fo.ly.length fo.cb.length v lv rfl rfl rfl) (id) ?_;refine Zkl hK ?_;clear hK K;refine z6 ?_;obtain⟨i,hi⟩:∃i,plI fo.ly v lv=i:=⟨_,rfl⟩;obtain⟨c,hcc⟩:∃c,plK fo.ly v lv=c:=⟨_,rfl⟩;rw[hi,hcc] at hin;rw[hi] at hI;rw[hi,hcc];refine Zrg [6] (zb (hQ _ _ ?_));refine Zob ⟨4,[]⟩ ?_;rw[memF,z5w,hi,hcc]
 first|trivial|exact⟨rfl,trivial⟩
end
section
def copyM_spec (L:List Ly)(hb:lyB L)(i k:Nat)(hi:i<k):
  zj prog 57 [.agg [.slc false 0 (3*i+2) 0 (lyA L i).cs.length,.slc false 0 (3*i+3) 0 (lyA L i).ps.length]] ⟨2,[(0,(3*k+1,fam false 3 1 (lyF false L)))]⟩
   (fun s H1=>s= .agg [.slc true 2 0 0 (lyA L i).cs.length,.slc true 3 0 0 (lyA L i).ps.length]/\H1=⟨4,[(3,z2p (lyA L i).ps),(2,z2c (lyA L i).cs)]⟩):=by
 refine(lyLs L i k hi (copy_spec (lyA L i).cs (lyA L i).ps _ _ rfl rfl (hb.2 i).2.1 (hb.2 i).2.2) trivial fun π=>rfl).imp ?_;rintro s H' ⟨s0,H0',⟨rfl,rfl⟩,rfl,rfl⟩;refine⟨by simp[SV.renP,SV.renPL,memP],?_⟩;simp only[renPOs,q8,QU,z2p,z2c,uQ,rO,rI,rV,Obj.renP,z51,z3n]
def JrBm.exE:=aj9 @z11 @zd @zf @zo @zh @zx @z10 ec2 (aj9 @zg @zp @zm @zi z58 @zn z3g z3w (aj9 @zq ec3 ec5 @z1a.eq_1 @zu.eq_1 @ints.eq_1 ec34 ec35 (aj ec36 @z18)))
def JrBm.axE:=aj9 @z11 @zd @zf @zo @zh @zx @z10 ec2 (aj9 @zg @zp @zm @zi z58 @zn z3g z3w (aj9 @zq ec3 ec5 @z1a.eq_1 @zu.eq_1 ec34 ec35 @z18 (aj6 @z1p @z21 @z2j @z2r ec38 @z38)))
open JnNm (gxE oxE)
open JrBm (axE exE)
open D0 (sdE)
def refCopy_specF (fo:Fo)(hb:lyB fo.ly)(n k m:Nat)(hn:fo.ns.length=n)(hk:fo.ly.length=k)(hm:fo.cb.length=m)(hn6:n<=1000000)(hm6:m<=1000000):
  zj prog 21 [.agg [.slc false 0 0 0 n,.int .i64 fo.ht,.slc false 1 0 0 k,.slc false 3 0 0 m]] ⟨4,[(0,rI 62 3 n (nds fo.ns)),(1,rI 89 5 k (lyR 2 fo.ly)),(2,(3*k+1,fam false 3 1 (lyF false fo.ly))),(3,rI 58 3 m (cbs fo.cb))]⟩
   (fun s H1=>s= .agg [.slc true 4 0 0 n,.int .i64 fo.ht,.slc true 5 0 0 k,.slc true 7 0 0 m]/\H1=⟨8,[(4,rO 62 3 n (nds fo.ns)),(5,rO 89 5 k (lyR 6 fo.ly)),(6,(3*k+1,fam true 3 1 (lyF true fo.ly))),(7,rO 58 3 m (cbs fo.cb))]⟩):=by
 obtain⟨ns,ht,L,C⟩:=fo;dsimp only at hb hn hk hm ⊢;subst hn hk hm;have hlen:=hb.1;refine Zf false 42 [.cell 2 34] func21 ntmps21 results21 fun w0 own0 β0 Q hQ hQn=> ?_;refine Zrs [1,2] (z6 ?_);refine Zrt [1,2,3] (.op 0 (.op 1 (.op 3 (.op 4 (.op 5 (.op 6 (.two 2 9 (.two 7 9 (.op 8 (.op 9 (.op 10 .done))) (.op 7 (.op 8 (.op 10 .done)))) (.op 2 (.op 7 (.op 8 (.op 10 .done))))))))))) [] [] ?_;intro K hK hG
 have hk1:K [(1,.ptr 4 0 0 0),(2,.ptr 5 0 0 0),(3,.ptr 8 0 0 0)] ⟨9,[(8,rV 34 4 1 (fun _=>[.slc true 6 0 0 ns.length,.int .i64 ht,.nils,.slc true 7 0 0 C.length])),(7,rO 58 3 C.length (cbs C)),(6,rO 62 3 ns.length (nds ns)),(5,rV 34 4 1 (fun _=>[.nils,.int .i64 0,.nils,.nils])),(4,rV 34 4 1 (fun _=>[.slc false 0 0 0 ns.length,.int .i64 ht,.slc false 1 0 0 L.length,.slc false 3 0 0 C.length])),(1,rI 89 5 L.length (lyR 2 L)),(2,(3*L.length+1,fam false 3 1 (lyF false L)))]⟩:=by
  refine hK _ _ ?_;clear hG hK K;refine z6 (Zrs [1,2,3,4] ?_);refine z2g 8 2 89 5 (lyR 10 (L.take 0)) rfl rfl rfl rfl rfl rfl rfl rfl (by dsimp only;omega) (by simp[SV.ltL,SV.lt]) ?_;simp only[setO,↓reduceIte,Nat.reduceEqDiff,Nat.reduceAdd,Qf,Qe,reduceCtorEq,uQ,rO,rI,rV];refine z29 3 1 (lyF true (L.take 0)) ?_;dsimp only;refine z8 fun Q0 hN0 hX0 hR0 hE0=> ?_;refine zl (σ:=Nat) (fun i=>i<=L.length) (fun i=>L.length-i) (fun i=>[(1,.ptr 4 0 0 0),(2,.ptr 5 0 0 0),(3,.ptr 8 0 0 0),(4,.int .i64 i)]) (fun i=>⟨11,[(8,rV 34 4 1 (fun _=>[.slc true 6 0 0 ns.length,.int .i64 ht,.slc true 9 0 0 (i),.slc true 7 0 0 C.length])),(9,rO 89 5 i (lyR 10 (L.take (i)))),(10,(3*(i)+1,fam true 3 1 (lyF true (L.take (i))))),(7,rO 58 3 C.length (cbs C)),(6,rO 62 3 ns.length (nds ns)),(5,rV 34 4 1 (fun _=>[.nils,.int .i64 0,.nils,.nils])),(4,rV 34 4 1 (fun _=>[.slc false 0 0 0 ns.length,.int .i64 ht,.slc false 1 0 0 L.length,.slc false 3 0 0 C.length])),(1,rI 89 5 L.length (lyR 2 L)),(2,(3*L.length+1,fam false 3 1 (lyF false L)))]⟩) 0 (ql _) (ρ:=id) (Zg id) ?_;rintro i hi QL1 hL1 hRL1 hEL1;refine z6 (Zrs [1,2,3,4,19] ?_);refine Zcn ?_ ?_
  ·intro h19;obtain⟨hb1,hb2,hb3⟩:=hb.2 i;refine z7 (z6 ?_);refine z8 fun Q1 hN1 hX1 hR1 hE1=> ?_;refine Zrs [1,2,3,4,5] ?_;refine Zrs [1,2,3,4,5] ?_;refine sg [1,2,3,4,5] rfl ?_;intro K hK;iterate 2 (refine Zo Zl ?_)
   refine Zd Zl (copyM_spec L hb i L.length (by omega)) (fun q=>if q=0 then 2 else q+11) ?_;refine Zkl hK ?_;clear hK K;refine Zrg [1,2,3,4] (za (hN1 _ _ ?_));have hT:∀q,q<i->lyA (L.take (i+1)) q=lyA (L.take i) q:=fun q hq=>by rw[z5m (by omega),z5m hq]
   have hx:lyA (L.take (i+1)) i=lyA L i:=z5m (by omega)
   have hout:∀q,q<i+1->app (lyR 10 (L.take i)) i (z3y 5 1 [SV.int .i64 (lyA L i).lvl,SV.int .u32 (lyA L i).wd,SV.slc true 12 0 0 (lyA L i).ids.length,SV.slc true 13 0 0 (lyA L i).cs.length,SV.slc true 14 0 0 (lyA L i).ps.length]) q=SV.renPL (mvM (fun q=>if q=9 then 16 else q) 10 (ms3 i 12 13 14)) (lyR 10 (L.take (i+1)) q):=fun q hq=>by
    rw[lyR_renM3]
    split
    ·rename_i e;subst e;rw[app,qc (by omega),QV,hx];rfl
    rename_i e;rw[app,qe (by omega),lyR,lyR,hT q (by omega)];rfl
   refine z2y (fr':=[(1,.ptr 4 0 0 0),(2,.ptr 5 0 0 0),(3,.ptr 8 0 0 0),(4,.int .i64 i)]) (H':=⟨11,[(8,rV 34 4 1 (fun _=>[.slc true 6 0 0 ns.length,.int .i64 ht,.slc true 9 0 0 (i+1),.slc true 7 0 0 C.length])),(9,rO 89 5 (i+1) (lyR 10 (L.take (i+1)))),(10,(3*(i+1)+1,fam true 3 1 (lyF true (L.take (i+1))))),(7,rO 58 3 C.length (cbs C)),(6,rO 62 3 ns.length (nds ns)),(5,rV 34 4 1 (fun _=>[.nils,.int .i64 0,.nils,.nils])),(4,rV 34 4 1 (fun _=>[.slc false 0 0 0 ns.length,.int .i64 ht,.slc false 1 0 0 L.length,.slc false 3 0 0 C.length])),(1,rI 89 5 L.length (lyR 2 L)),(2,(3*L.length+1,fam false 3 1 (lyF false L)))]⟩) _ (Zgm (fun q=>if q=9 then 16 else q) (10) (ms3 i 12 13 14) (ms3_ok i (by decide) ⟨rfl,rfl,rfl⟩ ⟨qb rfl,qb rfl,qb rfl⟩) ((zc (by decide) rfl qf (ze.of (fun _=>⟨rfl,rfl⟩) rfl (qd _) (fun _ _=>rfl)) (Obj.lt_row.2 fun q _=>by simp[SV.ltL,SV.lt]) (qb rfl) (zc (by decide) rfl qf (ze.of (fun _=>⟨rfl,rfl⟩) rfl (qd _) (hout)) (Obj.lt_row.2 fun q _=>(z67 _ _ _ q).2 (qb rfl)) (qb rfl) (lyF_cons3 (n:=i) (x:=lyA L i) rfl rfl rfl rfl hx (fun q hq hne=>⟨by omega,hT q (by omega)⟩) (qb rfl) (zc (by decide) rfl qf (ze.of (fun _=>⟨rfl,rfl⟩) rfl (qd _) (fun q _=>(z4j _ _ q).symm)) (Obj.lt_row.2 fun q _=>cbs_lt _ _ q) (qb rfl) (zc (by decide) rfl qf (ze.of (fun _=>⟨rfl,rfl⟩) rfl (qd _) (fun q _=>(z28 _ _ q).symm)) (Obj.lt_row.2 fun q _=>z4e _ _ q) (qb rfl) (zc (by decide) rfl qf (ze.of (fun _=>⟨rfl,rfl⟩) rfl (qd _) (fun _ _=>rfl)) (Obj.lt_row.2 fun q _=>by simp[SV.ltL,SV.lt]) (qb rfl) (zc (by decide) rfl qf (ze.of (fun _=>⟨rfl,rfl⟩) rfl (qd _) (fun _ _=>rfl)) (Obj.lt_row.2 fun q _=>by simp[SV.ltL,SV.lt]) (qb rfl) (zc (by decide) rfl qf (ze.of (fun h=>(by cases h)) rfl (qd _) (fun q _=>(show lyR 2 L q=SV.renPL _ (lyR 2 L q) by rw[lyR_renMO _ _ _ _ _ _ (by decide)];rfl))) (Obj.lt_row.2 fun q _=>(z67 _ _ _ q).2 (qb rfl)) (qb rfl) (zw.consO (by decide) rfl ⟨fun h=>(by cases h),rfl⟩ (by omega) (qd _) (fun q _=>⟨z5r _ _ _ _ _ _ (fun h=>(by cases h)) rfl,z4i _ _ _ _⟩) (qb rfl) trivial))))))))))) ?_
   refine Zrg [1,2,3,4] (za (hL1 _ _ ?_));rw[iS i];exact⟨i+1,⟨by omega,by omega⟩,id,(Zg id)⟩
  intro h19;refine zk (hEL1 _ _ _ (hX0 _ _ (Zrs [2] (zb (hQ _ _ ?_)))))
  have hi2:i=L.length:=by
   have:¬(i:Int)<L.length:=by simpa using h19
   omega
  subst hi2;rw[jf];exact Zos (fun q=>if q=4 then 6 else if q=5 then 9 else if q=6 then 10 else q) (.agg [.slc true 4 0 0 ns.length,.int .i64 ht,.slc true 5 0 0 L.length,.slc true 7 0 0 C.length]) (⟨8,[(4,rO 62 3 ns.length (nds ns)),(5,rO 89 5 L.length (lyR 6 L)),(6,(3*L.length+1,fam true 3 1 (lyF true L))),(7,rO 58 3 C.length (cbs C))]⟩)
 iterate 6 (refine Zo (ZT [] [] []) ?_)
 refine z2e ?_ ?_
 ·skip
  refine Zo (ZT [] [] []) ?_;refine z2e ?_ ?_
  ·skip
   refine Zo (ZT [] [] []) ?_;refine Zo (ZT [] [] []) ?_;refine Zo (ZT [] [] [8]) ?_;refine Zo (ZT [8] [] [8]) ?_;refine z14 ?_;refine Zpr ?_;exact hG _ _ _ _ id (Zg id) hk1
  skip
  refine Zo (ZT [] [] [7]) ?_;iterate 3 (refine Zo (ZT [7] [] [7]) ?_)
  refine z14 ?_;refine Zpr ?_;exact hG _ _ _ _ (fun q=>if q=7 then 8 else if q=8 then 7 else q) (Zg (fun q=>if q=7 then 8 else if q=8 then 7 else q)) hk1
 skip
 refine Zo (ZT [] [] [6]) ?_;iterate 4 (refine Zo (ZT [6] [] [6]) ?_)
 refine z14 ?_;refine Zpr ?_;exact hG _ _ _ _ (fun q=>if q=6 then 7 else if q=7 then 8 else if q=8 then 6 else q) (Zg (fun q=>if q=6 then 7 else if q=7 then 8 else if q=8 then 6 else q)) hk1
end
end Go.Proofs
