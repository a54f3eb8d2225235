/-
  Walks and plain facts, joined: part 5 of 12.
  Conditions: those that each statement names.
-/
import Derived.Test.YtpnefndionckaaaGreatDoorRod
import Derived.Test.YtpnefndionckaaaGreatDoorRoc
import Derived.Lib.ReflectliteSlice
import Derived.Lib.ReflectliteSwap
import Derived.Laws.Externs
set_option linter.unusedSimpArgs false
set_option linter.unusedVariables false
set_option linter.defProp false
set_option maxRecDepth 4000
set_option maxHeartbeats 8000000
namespace Go.Proofs
open Tryz
open Go.Sk
section
theorem Tryz.tyMc:z1m prog 165=⟨true,.struct,3,56,[(0,some true,2),(2,some false,1)]⟩:=by kernel_rfl
theorem Tryz.szMc:z28 prog 165=3:=by kernel_rfl
theorem cls_ap (l:List Cl)(i:Nat):z2m l i=[.str (cl l i).key,.int .i64 (cl l i).left,.int .i64 (cl l i).right,.int .i64 (cl l i).lock,.bool (cl l i).gone]:=rfl
theorem prs_ap (l:List Pr)(i:Nat):prs l i=[.int .i64 (pr l i).kind,.int .i64 (pr l i).cell,.int .i64 (pr l i).phase,.int .i64 (pr l i).pred,.int .i64 (pr l i).succ,.int .i64 (pr l i).next,.bool (pr l i).res]:=rfl
theorem put_F (l:List Cl)(c v:Int)(h:c.toNat<l.length):(fun i=>if i=c.toNat then [SV.str (cl l c.toNat).key,.int .i64 v,.int .i64 (cl l c.toNat).right,.int .i64 (cl l c.toNat).lock,.bool (cl l c.toNat).gone] else [SV.str (cl l i).key,.int .i64 (cl l i).left,.int .i64 (cl l i).right,.int .i64 (cl l i).lock,.bool (cl l i).gone])=z2m (z4g l c v):=cls_put' l c.toNat {cl l c.toNat with left:=v} h
theorem put_R (l:List Cl)(c v:Int)(h:c.toNat<l.length):(fun i=>if i=c.toNat then [SV.str (cl l c.toNat).key,.int .i64 (cl l c.toNat).left,.int .i64 v,.int .i64 (cl l c.toNat).lock,.bool (cl l c.toNat).gone] else [SV.str (cl l i).key,.int .i64 (cl l i).left,.int .i64 (cl l i).right,.int .i64 (cl l i).lock,.bool (cl l i).gone])=z2m (z2p l c v):=cls_put' l c.toNat {cl l c.toNat with right:=v} h
theorem put_K (l:List Cl)(c v:Int)(h:c.toNat<l.length):(fun i=>if i=c.toNat then [SV.str (cl l c.toNat).key,.int .i64 (cl l c.toNat).left,.int .i64 (cl l c.toNat).right,.int .i64 v,.bool (cl l c.toNat).gone] else [SV.str (cl l i).key,.int .i64 (cl l i).left,.int .i64 (cl l i).right,.int .i64 (cl l i).lock,.bool (cl l i).gone])=z2m (setK l c v):=cls_put' l c.toNat {cl l c.toNat with lock:=v} h
theorem put_U (l:List Cl)(c:Int)(h:c.toNat<l.length):(fun i=>if i=c.toNat then [SV.str (cl l c.toNat).key,.int .i64 (cl l c.toNat).left,.int .i64 (cl l c.toNat).right,.int .i64 (cl l c.toNat).lock,.bool false] else [SV.str (cl l i).key,.int .i64 (cl l i).left,.int .i64 (cl l i).right,.int .i64 (cl l i).lock,.bool (cl l i).gone])=z2m (setU l c):=cls_put' l c.toNat {cl l c.toNat with gone:=false} h
theorem put_G (l:List Cl)(c:Int)(h:c.toNat<l.length):(fun i=>if i=c.toNat then [SV.str (cl l c.toNat).key,.int .i64 (cl l c.toNat).left,.int .i64 (cl l c.toNat).right,.int .i64 (cl l c.toNat).lock,.bool true] else [SV.str (cl l i).key,.int .i64 (cl l i).left,.int .i64 (cl l i).right,.int .i64 (cl l i).lock,.bool (cl l i).gone])=z2m (setG l c):=cls_put' l c.toNat {cl l c.toNat with gone:=true} h
theorem put_Kn (l:List Cl)(c:Nat)(v:Int)(h:c<l.length):(fun i=>if i=c then [SV.str (cl l c).key,.int .i64 (cl l c).left,.int .i64 (cl l c).right,.int .i64 v,.bool (cl l c).gone] else [SV.str (cl l i).key,.int .i64 (cl l i).left,.int .i64 (cl l i).right,.int .i64 (cl l i).lock,.bool (cl l i).gone])=z2m (setK l (c:Int) v):=cls_put' l c {cl l c with lock:=v} h
def lockC (cs:List Cl)(c:Int)(p:Nat):List Cl:=if lkK cs c=0 then setK cs c (p+1) else cs
def lockP (cs:List Cl)(c:Int)(x:Pr)(ph:Int):Pr:=if lkK cs c=0 then {x with phase:=ph} else x
def ec9:=aj3 @Tryz.tyMc @Tryz.szMc @ite_two
def ec10:=aj3 @cls_ap @prs_ap @pAt.eq_1
def LlHm.exE:=aj9 @zg @zi @zn @zk ec1 ec2 @zj @zt (aj7 @zu ec9 ec3 ec4 ec10 @z1d.eq_1 @zz.eq_1)
def ec11:=aj3 @ltL_ite @z2p.eq_1 @setG.eq_1
def LlHm.gxE:=aj8 ec3 ec4 ec7 ec10 @renL_ite ec11 @z1d.eq_1 @zz.eq_1
def LlHm.axE:=aj9 @zg @zi @zn @zk ec1 ec2 @zj @zt (aj9 @zu ec9 ec3 ec4 ec10 @z1d.eq_1 @zz.eq_1 @z2n (aj @pAt_ren @renL_ite))
open LlHm (gxE axE exE)
open LlBm (oxE)
open D0 (sdE)
theorem lock_spec (cs:List Cl)(ps:List Pr)(p:Nat)(x:Pr)(n m:Nat)(hn:cs.length=n)(hp:p<m)(hm:m<=8)(c ph:Int)(hc:0<=c/\c<n):
  zf prog 174 [.agg [.slc true 0 0 0 n,.slc true 1 0 0 m,.int .i64 p],.int .i64 c,.int .i64 ph] ⟨2,[(0,uQ (.row ⟨true,false,117,5,n,z2m cs⟩)),(1,uQ (.row ⟨true,false,110,7,m,pAt ps p x⟩))]⟩
   (fun s H1=>s= .bool (lkK cs c==0)/\H1=⟨2,[(1,uQ (.row ⟨true,false,110,7,m,pAt ps p (lockP cs c x ph)⟩)),(0,uQ (.row ⟨true,false,117,5,n,z2m (lockC cs c p)⟩))]⟩):=by
 subst hn;refine zf.ofC false 32 [.tmp 6] func174 rfl rfl ntmps174 results174 rfl ?_;intro w0 own0 β0 Q hQ hQn;simp only[z18];refine Zrs [1,2,3] ?_;refine Zrs [2,3,7] ?_;refine z6 ?_;refine Zrs [2,3,7,17] ?_;refine z7 _ rfl ?_ ?_
 ·intro h17;replace h17:=Znb h17;refine Zrs [6] ?_;refine zd (hQ _ _ ?_);have h0:¬lkK cs c=0:=h17;rw[lockP,lockC,qb h0,qb h0,show(lkK cs c==0)=false by simpa using h0];refine zb (H':=⟨2,[(1,uQ (.row ⟨true,false,110,7,m,pAt ps p x⟩)),(0,uQ (.row ⟨true,false,117,5,cs.length,z2m cs⟩))]⟩) (.inl rfl) ?_;refine Zou ?_;refine⟨Zs,(Zg id),Zs,?_⟩
  all_goals(first|trivial|exact⟨rfl,trivial⟩)
 ·intro h17;replace h17:=Znb h17;refine za (z6 ?_);refine Zrd [] [0,1,2,3,4,5,6,7,8,9,10,11,12,13,14,15] [[],[],[],[],[],[],[],[],[],[],[],[],[0],[],[],[1]] [[],[0],[0],[0],[0],[0],[],[],[],[0],[],[],[0],[0],[0],[0,1]] ?_;intro K hK;refine Zo (Zi [] []) ?_;iterate 5 (refine Zo (Zi [] [0]) ?_)
  iterate 3 (refine Zo (Zi [] []) ?_)
  refine Zo (Zi [] [0]) ?_;iterate 2 (refine Zo (Zi [] []) ?_)
  refine Zo (Zi [0] [0]) ?_;rw[put_K cs c (p+1) (by omega)];repeat(with_reducible apply qe;exact sdE)
  iterate 2 (refine Zo (Zi [] [0]) ?_)
  refine Zo (Zi [1] [0,1]) ?_;refine z11 (Zpr (hK _ _ ?_));clear hK K;refine Zrs [6] ?_;refine zd (hQ _ _ ?_);have h0:lkK cs c=0:=h17;rw[lockP,lockC,qf h0,qf h0,show(lkK cs c==0)=true by simpa using h0];refine zb (H':=⟨2,[(1,uQ (.row ⟨true,false,110,7,m,pAt ps p ⟨x.kind,x.cell,ph,x.pred,x.succ,x.next,x.res⟩⟩)),(0,uQ (.row ⟨true,false,117,5,cs.length,z2m (setK cs c (p+1))⟩))]⟩) (.inl rfl) ?_;refine Zou ?_;refine⟨Zs,(Zg id),Zs,?_⟩
  all_goals(first|trivial|exact⟨rfl,trivial⟩)
def unlkN (cs:List Cl)(p:Nat):Nat->List Cl
 |0=>cs
 |i+1=>if lkK (unlkN cs p i) (i:Int)=(p:Int)+1 then setK (unlkN cs p i) (i:Int) 0 else unlkN cs p i
theorem unlkN_len (cs:List Cl)(p:Nat):∀i,(unlkN cs p i).length=cs.length
 |0=>rfl
 |i+1=>by
  rw[unlkN];split
  ·rw[setK_len,unlkN_len cs p i]
  ·exact unlkN_len cs p i
theorem cl_setK (cs:List Cl)(i q:Nat)(v:Int)(hi:i<cs.length):cl (setK cs (i:Int) v) q=if q=i then {cl cs i with lock:=v} else cl cs q:=by
 unfold setK;rw[qE]
 by_cases e:q=i
 ·subst e;rw[qf rfl,cl_set_eq hi]
 ·rw[qb e,cl_set_ne (Qv e)]
theorem unlkN_at (cs:List Cl)(p:Nat):∀i,i<=cs.length->∀q,cl (unlkN cs p i) q=if q<i then unlk1 p (cl cs q) else cl cs q
 |0,_,q=>by rw[qb (by omega)];rfl
 |i+1,hi,q=>by
  have ih:=unlkN_at cs p i (by omega);have hl:=unlkN_len cs p i
  have e1:lkK (unlkN cs p i) (i:Int)=(cl cs i).lock:=by
   simp only[lkK,qE];rw[ih i,qb (by omega)]
  rw[unlkN,e1]
  by_cases h:(cl cs i).lock=(p:Int)+1
  ·rw[qf h,cl_setK _ _ _ _ (by omega),ih i,qb (jQ i),ih q]
   by_cases e:q=i
   ·subst e;rw[qf rfl,qf (by omega),unlk1,qf h]
   ·rw[qb e]
    by_cases g:q<i
    ·rw[qf g,qf (by omega)]
    ·rw[qb g,qb (by omega)]
  ·rw[qb h,ih q]
   by_cases e:q=i
   ·subst e;rw[qb (jQ _),qf (by omega),unlk1,qb h]
   ·by_cases g:q<i
    ·rw[qf g,qf (by omega)]
    ·rw[qb g,qb (by omega)]
theorem unlkN_all (cs:List Cl)(p:Nat):unlkN cs p cs.length=unlk cs p:=by
 have hl:(unlkN cs p cs.length).length=(unlk cs p).length:=by rw[unlkN_len,unlk_len]
 apply Qz hl;intro i h1 h2;have h3:i<cs.length:=by rw[unlkN_len] at h1;exact h1
 have:=unlkN_at cs p cs.length (qd _) i;rw[qf h3,<-cl_unlk,cl_lt h1,cl_lt h2] at this;exact this
theorem unlock_spec (cs:List Cl)(ps:List Pr)(p:Nat)(x:Pr)(n m:Nat)(hn:cs.length=n)(hp:p<m)(hm:m<=8)(hx:n<=1000):
  zf prog 176 [.agg [.slc true 0 0 0 n,.slc false 1 0 0 m,.int .i64 p]] ⟨2,[(0,uQ (.row ⟨true,false,117,5,n,z2m cs⟩)),(1,uQ (.row ⟨false,false,110,7,m,pAt ps p x⟩))]⟩
   (fun s H1=>s= .tup []/\H1=⟨2,[(0,uQ (.row ⟨true,false,117,5,n,z2m (unlk cs p)⟩))]⟩):=by
 subst hn;refine zf.ofC false 28 [] func176 rfl rfl ntmps176 results176 rfl ?_;intro w0 own0 β0 Q hQ hQn;simp only[z18];refine Zrs [1] ?_;refine Zrs [1,6,7] ?_;refine zc fun Q0 hN0 hX0 hR0 hE0=> ?_;refine zx (σ:=Nat) (fun i=>i<=cs.length) (fun i=>cs.length-i) (fun i=>[(1,.ptr 2 0 0 0),(6,.int .i64 cs.length),(7,.int .i64 i)]) (fun i=>⟨3,[(2,uQ (.row ⟨true,true,165,3,1,fun _=>[.slc true 0 0 0 cs.length,.slc false 1 0 0 m,.int .i64 p]⟩)),(0,uQ (.row ⟨true,false,117,5,cs.length,z2m (unlkN cs p i)⟩)),(1,uQ (.row ⟨false,false,110,7,m,pAt ps p x⟩))]⟩) 0 (qp _) (ρ:=id) (have xE:=aj @unlkN.eq_1 @unlkN.eq_2;Zgx id) ?_;rintro i hi QL1 hL1 hRL1 hEL1;refine Zrs [1,6,7,8] ?_;refine z6 ?_;refine z7 _ rfl ?_ ?_
 ·intro h8;replace h8:=Znb h8;have hul:=unlkN_len cs p i;refine za (z6 (zc fun Q1 hN1 hX1 hR1 hE1=> ?_));refine Zrs [1,2,6,7] ?_;refine z6 ?_;refine Zrd [1,2,6,7,20] [0,1,2,3,4,5,6,7,8,9,10] [[],[],[],[],[],[],[],[],[],[],[]] [[],[],[],[],[],[],[],[],[],[],[]] ?_;intro K hK;iterate 11 (refine Zo (Zi [] []) ?_)
  refine z11 (Zpr (hK _ _ ?_));clear hK K;refine z7 _ rfl ?_ ?_
  ·intro h20;have h0:lkK (unlkN cs p i) (i:Int)=(p:Int)+1:=by simp only[qr,qh,qi,qv,qk,qq,qj,qg,qy,qz,qX,ne_eq,Qa,q9,qH,qu] at h20;exact h20
   refine z3c [1,6,7] rfl ?_;intro K hK;iterate 7 (refine Zo Zl ?_)
   rw[put_Kn (unlkN cs p i) i 0 (by omega)];repeat(with_reducible apply qe;exact sdE)
   refine z8 (Zpr (hK _ _ ?_));clear hK K;refine ze (hN1 _ _ ?_);refine Zrg [1,6,7] ?_;refine ze (hL1 _ _ ?_);rw[show(i:Int)+1=((i+1:Nat):Int) from by omega];refine⟨i+1,⟨by omega,by omega⟩,id,?_⟩;rw[unlkN,qf h0];exact(Zg id)
  ·intro h20;have h0:¬lkK (unlkN cs p i) (i:Int)=(p:Int)+1:=by simp only[qr,qh,qi,qv,qk,qq,qj,qg,qy,qz,qX,ne_eq,Qa,q9,qH,qu] at h20;exact h20
   refine za (ze (hN1 _ _ ?_));refine Zrg [1,6,7] ?_;refine ze (hL1 _ _ ?_);rw[show(i:Int)+1=((i+1:Nat):Int) from by omega];refine⟨i+1,⟨by omega,by omega⟩,id,?_⟩;rw[unlkN,qb h0];exact(Zg id)
 ·intro h8;replace h8:=Znb h8;have hi':i=cs.length:=by omega
  subst hi';refine zw (hEL1 _ _ _ (hX0 _ _ (ze (hQn _ _ ?_))));rw[unlkN_all];refine zb (H':=⟨2,[(0,uQ (.row ⟨true,false,117,5,cs.length,z2m (unlk cs p)⟩))]⟩) (.inl rfl) ?_;refine Zou ?_;refine⟨Zs,(Zg id),Zs,?_⟩
  all_goals(first|trivial|exact⟨rfl,trivial⟩)
theorem find_specK (cs:List Cl)(ps:List Pr)(p:Nat)(x:Pr)(n m:Nat)(hn:cs.length=n)(hp:p<m)(h1:0<=x.succ/\x.succ<n)(h2:0<=x.cell/\x.cell<n):
  zf prog 173 [.agg [.slc false 0 0 0 n,.slc true 1 0 0 m,.int .i64 p]] ⟨2,[(0,uQ (.row ⟨false,false,117,5,n,z2m cs⟩)),(1,uQ (.row ⟨true,false,110,7,m,pAt ps p x⟩))]⟩
   (fun s H1=>s= .tup []/\H1=⟨2,[(1,uQ (.row ⟨true,false,110,7,m,pAt ps p (findK cs x)⟩))]⟩):=by
 subst hn;refine zf.ofC false 53 [] func173 rfl rfl ntmps173 results173 rfl ?_;intro w0 own0 β0 Q hQ hQn;simp only[z18];refine Zrs [1] ?_;refine Zrs [1,2] ?_;refine zc fun Q0 hN0 hX0 hR0 hE0=> ?_;refine z6 ?_;refine Zrd [1,2,12] [0,1,2,3,4,5,6,7,8,9,10,11] [[],[],[],[],[],[],[],[],[],[],[],[]] [[],[],[],[],[],[],[],[],[],[],[],[]] ?_;intro K hK;iterate 10 (refine Zo (Zi [] []) ?_)
 refine Zo (Zi [] []) ?_;refine Zc1 (less_specK cs cs.length m rfl x.succ x.cell h1 h2) (id) ?_;refine Zo (Zi [] []) ?_;refine z11 (Zpr (hK _ _ ?_));clear hK K;refine z7 _ rfl ?_ ?_
 ·intro h12
  refine Zrd [] [0,1,2,3,4,5,6,7,8,9,10,11,12,13,14,15,16,17,18,19,20,21] [[],[],[],[],[],[],[],[],[],[],[],[],[],[],[],[],[],[],[1],[],[],[1]] [[],[1],[],[],[],[],[],[],[],[],[],[],[],[],[],[],[],[],[1],[1],[1],[1]] ?_;intro K hK;refine Zo (Zi [] []) ?_;refine Zo (Zi [] [1]) ?_;iterate 16 (refine Zo (Zi [] []) ?_)
  refine Zo (Zi [1] [1]) ?_;iterate 2 (refine Zo (Zi [] [1]) ?_)
  refine Zo (Zi [1] [1]) ?_;refine z11 (Zpr (hK _ _ ?_));clear hK K;refine ze (hN0 _ _ (ze (hQn _ _ ?_)));refine zb (H':=⟨2,[(1,uQ (.row ⟨true,false,110,7,m,pAt ps p ⟨x.kind,x.cell,x.phase,x.succ,(cl cs x.succ.toNat).right,x.next,x.res⟩⟩))]⟩) (.inl rfl) ?_;refine Zou ?_;refine⟨Zs,(Zg id),Zs,?_⟩;rw[findK,qf h12]
  all_goals(first|trivial|exact⟨rfl,trivial⟩)
 ·intro h12
  refine Zrs [2,44] ?_;refine z7 _ rfl ?_ ?_
  ·intro h44;replace h44:=Znb h44;refine Zrg [] ?_;refine ze (hN0 _ _ (ze (hQn _ _ ?_)));refine zb (H':=⟨2,[(1,uQ (.row ⟨true,false,110,7,m,pAt ps p ⟨x.kind,x.cell,4,x.pred,x.succ,x.next,x.res⟩⟩))]⟩) (.inl rfl) ?_;refine Zou ?_;refine⟨Zs,(Zg id),Zs,?_⟩;rw[findK,qb (by rw[h12];exact qn),qf h44]
   all_goals(first|trivial|exact⟨rfl,trivial⟩)
  ·intro h44;replace h44:=Znb h44;refine Zrg [] ?_;refine ze (hN0 _ _ (ze (hQn _ _ ?_)));refine zb (H':=⟨2,[(1,uQ (.row ⟨true,false,110,7,m,pAt ps p ⟨x.kind,x.cell,2,x.pred,x.succ,x.next,x.res⟩⟩))]⟩) (.inl rfl) ?_;refine Zou ?_;refine⟨Zs,(Zg id),Zs,?_⟩;rw[findK,qb (by rw[h12];exact qn),qb h44]
   all_goals(first|trivial|exact⟨rfl,trivial⟩)
theorem check_specK (cs:List Cl)(ps:List Pr)(p:Nat)(x:Pr)(n m:Nat)(hn:cs.length=n)(hp:p<m)(h:PrOk n x):
  zf prog 175 [.agg [.slc false 0 0 0 n,.slc true 1 0 0 m,.int .i64 p]] ⟨2,[(0,uQ (.row ⟨false,false,117,5,n,z2m cs⟩)),(1,uQ (.row ⟨true,false,110,7,m,pAt ps p x⟩))]⟩
   (fun s H1=>s= .tup []/\H1=⟨2,[(1,uQ (.row ⟨true,false,110,7,m,pAt ps p (checkK cs x)⟩))]⟩):=by
 subst hn;obtain⟨hc1,hc2,hc3,hc4⟩:=h;refine zf.ofC false 116 [] func175 rfl rfl ntmps175 results175 rfl ?_;intro w0 own0 β0 Q hQ hQn;simp only[z18];refine Zrs [1] ?_;refine Zrs [1,2] ?_;refine z6 ?_;refine Zrd [1,2,3] [0,1,2,3,4,5,6,7,8,9] [[],[],[],[],[],[],[],[],[],[]] [[],[],[],[],[],[],[],[],[],[]] ?_;intro K hK;iterate 10 (refine Zo (Zi [] []) ?_)
 refine z11 (Zpr (hK _ _ ?_));clear hK K;refine zc fun Q0 hN0 hX0 hR0 hE0=> ?_;refine Zrs [1,2,3,22] ?_;refine z7 _ rfl ?_ ?_
 ·intro h22;replace h22:=Znb h22;refine Zrd [] [0,1,2,3,4,5,6,7,8,9,10,11,12,13,14,15,16,17,18,19,20,21] [[],[],[],[],[],[],[],[],[],[],[],[],[],[],[],[],[],[],[1],[],[],[1]] [[],[1],[],[],[],[],[],[],[],[],[],[],[],[],[],[],[],[],[1],[1],[1],[1]] ?_;intro K hK;refine Zo (Zi [] []) ?_;refine Zo (Zi [] [1]) ?_;iterate 16 (refine Zo (Zi [] []) ?_)
  refine Zo (Zi [1] [1]) ?_;iterate 2 (refine Zo (Zi [] [1]) ?_)
  refine Zo (Zi [1] [1]) ?_;refine z11 (Zpr (hK _ _ ?_));clear hK K;refine ze (hN0 _ _ (ze (hQn _ _ ?_)));refine zb (H':=⟨2,[(1,uQ (.row ⟨true,false,110,7,m,pAt ps p ⟨x.kind,x.cell,18,x.pred,x.succ,x.next,x.succ==x.cell && !(cl cs x.cell.toNat).gone⟩⟩))]⟩) (.inl rfl) ?_;refine Zou ?_;refine⟨Zs,(Zg id),Zs,?_⟩;rw[checkK,qf h22]
  all_goals(first|trivial|exact⟨rfl,trivial⟩)
 ·intro h22;replace h22:=Znb h22;refine z6 ?_;refine Zrd [2,3,48] [0,1,2,3,4,5,6,7,8,9,10,11,12,13,14,15,16,17,18,19,20,21,22,23,24,25,26,27,28,29,30,31,32,33,34,35,36,37,38,39] [[],[],[],[],[],[],[],[],[],[],[],[],[],[],[],[],[],[],[],[],[],[],[],[],[],[],[],[],[],[],[],[],[],[],[],[],[],[],[],[]] [[],[],[],[],[],[],[],[],[],[],[],[],[],[],[],[],[],[],[],[],[],[],[],[],[],[],[],[],[],[],[],[],[],[],[],[],[],[],[],[]] ?_;intro K hK;iterate 40 (refine Zo (Zi [] []) ?_)
  refine z11 (Zpr (hK _ _ ?_));clear hK K;refine z7 _ rfl ?_ ?_
  ·intro h48
   refine Zrg [] ?_;refine ze (hN0 _ _ (ze (hQn _ _ ?_)));have hf:failK cs x=true:=h48;refine zb (H':=⟨2,[(1,uQ (.row ⟨true,false,110,7,m,pAt ps p ⟨x.kind,x.cell,5,x.pred,x.succ,x.next,x.res⟩⟩))]⟩) (.inl rfl) ?_;refine Zou ?_;refine⟨Zs,(Zg id),Zs,?_⟩;rw[checkK,qb h22,qf hf]
   all_goals(first|trivial|exact⟨rfl,trivial⟩)
  ·intro h48
   refine Zrs [2,3,91] ?_;refine z7 _ rfl ?_ ?_
   ·intro h91
    refine Zrg [] ?_;refine ze (hN0 _ _ (ze (hQn _ _ ?_)));have hf:failK cs x=false:=h48;refine zb (H':=⟨2,[(1,uQ (.row ⟨true,false,110,7,m,pAt ps p ⟨x.kind,x.cell,6,x.pred,x.succ,x.next,x.res⟩⟩))]⟩) (.inl rfl) ?_;refine Zou ?_;refine⟨Zs,(Zg id),Zs,?_⟩;rw[checkK,qb h22,qb (by rw[hf];exact qn),qf h91]
    all_goals(first|trivial|exact⟨rfl,trivial⟩)
   ·intro h91
    refine Zrs [2,104] ?_;refine z7 _ rfl ?_ ?_
    ·intro h104
     refine Zrg [] ?_;refine ze (hN0 _ _ (ze (hQn _ _ ?_)));have hf:failK cs x=false:=h48;refine zb (H':=⟨2,[(1,uQ (.row ⟨true,false,110,7,m,pAt ps p ⟨x.kind,x.cell,9,x.pred,x.succ,x.next,x.res⟩⟩))]⟩) (.inl rfl) ?_;refine Zou ?_;refine⟨Zs,(Zg id),Zs,?_⟩;rw[checkK,qb h22,qb (by rw[hf];exact qn),qb (by rw[h91];exact qn),qf h104]
     all_goals(first|trivial|exact⟨rfl,trivial⟩)
    ·intro h104
     refine Zrg [] ?_;refine ze (hN0 _ _ (ze (hQn _ _ ?_)));have hf:failK cs x=false:=h48;refine zb (H':=⟨2,[(1,uQ (.row ⟨true,false,110,7,m,pAt ps p ⟨x.kind,x.cell,13,x.pred,x.succ,x.next,x.res⟩⟩))]⟩) (.inl rfl) ?_;refine Zou ?_;refine⟨Zs,(Zg id),Zs,?_⟩;rw[checkK,qb h22,qb (by rw[hf];exact qn),qb (by rw[h91];exact qn),qb (by rw[h104];exact qn)]
     all_goals(first|trivial|exact⟨rfl,trivial⟩)
end
section
open LlHm (gxE axE exE)
open LlBm (oxE)
open D0 (sdE)
theorem step_spec (cs:List Cl)(ps:List Pr)(p:Nat)(x:Pr)(n m:Nat)(hn:cs.length=n)(hp:p<m)(hm8:m<=8)(hn0:0<n)(hn1:n<=1000)(h:PrOk n x)(hr:0<=rt cs x.cell/\rt cs x.cell<n):
  zf prog 142 [.agg [.slc true 0 0 0 n,.slc true 1 0 0 m,.int .i64 p]] ⟨2,[(0,uQ (.row ⟨true,false,117,5,n,z2m cs⟩)),(1,uQ (.row ⟨true,false,110,7,m,pAt ps p x⟩))]⟩
   (fun s H1=>s= .bool (z3v cs x)/\H1=⟨2,[(1,uQ (.row ⟨true,false,110,7,m,pAt ps p (z20 cs x)⟩)),(0,uQ (.row ⟨true,false,117,5,n,z2m (z1z cs p x)⟩))]⟩):=by
 subst hn;obtain⟨hc1,hc2,hc3,hc4⟩:=h;refine zf.ofC false 196 [.tmp 2] func142 rfl rfl ntmps142 results142 rfl ?_;intro w0 own0 β0 Q hQ hQn;simp only[z18];refine Zrs [1] ?_;refine Zrs [1,3] ?_;refine z6 ?_;refine Zrd [1,3,4] [0,1,2,3,4,5,6,7,8] [[],[],[],[],[],[],[],[],[]] [[],[],[],[],[],[],[],[],[]] ?_;intro K hK;iterate 9 (refine Zo (Zi [] []) ?_)
 refine z11 (Zpr (hK _ _ ?_));clear hK K;refine z6 ?_;refine Zrs [1,3,4,23] ?_;refine zc fun Q0 hN0 hX0 hR0 hE0=> ?_;refine Zrs [1,3,4,23,24] ?_;refine z7 _ rfl ?_ ?_
 ·intro h24;replace h24:=Znb h24;refine z3c [] rfl ?_;intro K hK;refine Zo Zl ?_;refine Zo Zl ?_;refine Zc1 (find_specK cs ps p x cs.length m rfl hp hc3 hc1) (id) ?_;refine z8 (Zpr (hK _ _ ?_));clear hK K;refine ze (hN0 _ _ ?_);refine Zrs [2] ?_;refine zd (hQ _ _ ?_);rw[show z20 cs x=findK cs x from by simp[z20,h24],show z1z cs p x=cs from by simp[z1z,h24],show z3v cs x=true from by simp[z3v,waitK,h24]];refine zb (H':=⟨2,[(1,uQ (.row ⟨true,false,110,7,m,pAt ps p (findK cs x)⟩)),(0,uQ (.row ⟨true,false,117,5,cs.length,z2m (cs)⟩))]⟩) (.inl rfl) ?_;refine Zou ?_;refine⟨Zs,(Zg id),Zs,?_⟩
  all_goals(first|trivial|exact⟨rfl,trivial⟩)
 ·intro h24;replace h24:=Znb h24;refine Zrs [1,3,4,23,28] ?_;refine z7 _ rfl ?_ ?_
  ·intro h28;replace h28:=Znb h28;refine z6 ?_;refine Zrd [2] [0,1,2,3,4,5,6] [[],[],[],[],[],[0,1],[]] [[],[],[],[],[],[0,1],[0,1]] ?_;intro K hK;iterate 5 (refine Zo (Zi [] []) ?_)
   refine Zo (Zi [0,1] [0,1]) ?_;refine Zc1 (lock_spec cs ps p x cs.length m rfl hp hm8 x.pred 3 hc2) (id) ?_;refine Zo (Zi [] [0,1]) ?_;refine z11 (Zpr (hK _ _ ?_));clear hK K;refine zd (hR0 _ _ (hQ _ _ ?_));rw[show z20 cs x=lockP cs x.pred x 3 from by simp[z20,h28,lockP],show z1z cs p x=lockC cs x.pred p from by simp[z1z,h28,lockC],show z3v cs x=(lkK cs x.pred==0) from by simp[z3v,waitK,h28,bne]];refine zb (H':=⟨2,[(1,uQ (.row ⟨true,false,110,7,m,pAt ps p (lockP cs x.pred x 3)⟩)),(0,uQ (.row ⟨true,false,117,5,cs.length,z2m (lockC cs x.pred p)⟩))]⟩) (.inl rfl) ?_;refine Zou ?_;refine⟨Zs,(Zg id),Zs,?_⟩
   all_goals(first|trivial|exact⟨rfl,trivial⟩)
  ·intro h28;replace h28:=Znb h28;refine Zrs [1,3,4,23,36] ?_;refine z7 _ rfl ?_ ?_
   ·intro h36;replace h36:=Znb h36;refine z6 ?_;refine Zrd [2] [0,1,2,3,4,5,6] [[],[],[],[],[],[0,1],[]] [[],[],[],[],[],[0,1],[0,1]] ?_;intro K hK;iterate 5 (refine Zo (Zi [] []) ?_)
    refine Zo (Zi [0,1] [0,1]) ?_;refine Zc1 (lock_spec cs ps p x cs.length m rfl hp hm8 x.succ 4 hc3) (id) ?_;refine Zo (Zi [] [0,1]) ?_;refine z11 (Zpr (hK _ _ ?_));clear hK K;refine zd (hR0 _ _ (hQ _ _ ?_));rw[show z20 cs x=lockP cs x.succ x 4 from by simp[z20,h36,lockP],show z1z cs p x=lockC cs x.succ p from by simp[z1z,h36,lockC],show z3v cs x=(lkK cs x.succ==0) from by simp[z3v,waitK,h36,bne]];refine zb (H':=⟨2,[(1,uQ (.row ⟨true,false,110,7,m,pAt ps p (lockP cs x.succ x 4)⟩)),(0,uQ (.row ⟨true,false,117,5,cs.length,z2m (lockC cs x.succ p)⟩))]⟩) (.inl rfl) ?_;refine Zou ?_;refine⟨Zs,(Zg id),Zs,?_⟩
    all_goals(first|trivial|exact⟨rfl,trivial⟩)
   ·intro h36;replace h36:=Znb h36;refine Zrs [1,3,4,23,44] ?_;refine z7 _ rfl ?_ ?_
    ·intro h44;replace h44:=Znb h44;refine z3c [] rfl ?_;intro K hK;refine Zo Zl ?_;refine Zo Zl ?_;refine Zc1 (check_specK cs ps p x cs.length m rfl hp ⟨hc1,hc2,hc3,hc4⟩) (id) ?_;refine z8 (Zpr (hK _ _ ?_));clear hK K;refine ze (hN0 _ _ ?_);refine Zrs [2] ?_;refine zd (hQ _ _ ?_);rw[show z20 cs x=checkK cs x from by simp[z20,h44],show z1z cs p x=cs from by simp[z1z,h44],show z3v cs x=true from by simp[z3v,waitK,h44]];refine zb (H':=⟨2,[(1,uQ (.row ⟨true,false,110,7,m,pAt ps p (checkK cs x)⟩)),(0,uQ (.row ⟨true,false,117,5,cs.length,z2m (cs)⟩))]⟩) (.inl rfl) ?_;refine Zou ?_;refine⟨Zs,(Zg id),Zs,?_⟩
     all_goals(first|trivial|exact⟨rfl,trivial⟩)
    ·intro h44;replace h44:=Znb h44;refine Zrs [1,3,4,23,48] ?_;refine z7 _ rfl ?_ ?_
     ·intro h48;replace h48:=Znb h48;refine sg [1,3] rfl ?_;intro K hK;refine Zo Zl ?_;refine Zo Zl ?_;refine Zc1 (unlock_spec cs ps p x cs.length m rfl hp hm8 hn1) (id) ?_;refine z8 (Zpr (hK _ _ ?_));clear hK K;refine Zrg [] ?_;refine ze (hN0 _ _ ?_);refine Zrs [2] ?_;refine zd (hQ _ _ ?_);rw[show z20 cs x=⟨x.kind,x.cell,1,0,rt cs 0,x.next,x.res⟩ from by simp[z20,h48],show z1z cs p x=unlk cs p from by simp[z1z,h48],show z3v cs x=true from by simp[z3v,waitK,h48]];rw[show rt cs 0=(cl (unlk cs p) 0).right from(rt_unlk cs p 0).symm];refine zb (H':=⟨2,[(1,uQ (.row ⟨true,false,110,7,m,pAt ps p (⟨x.kind,x.cell,1,0,(cl (unlk cs p) 0).right,x.next,x.res⟩)⟩)),(0,uQ (.row ⟨true,false,117,5,cs.length,z2m (unlk cs p)⟩))]⟩) (.inl rfl) ?_;refine Zou ?_;refine⟨Zs,(Zg id),Zs,?_⟩
      all_goals(first|trivial|exact⟨rfl,trivial⟩)
     ·intro h48;replace h48:=Znb h48;refine Zrs [1,3,4,23,67] ?_;refine z7 _ rfl ?_ ?_
      ·intro h67;replace h67:=Znb h67;refine Zrd [] [0,1,2,3,4,5,6,7,8,9,10,11,12,13,14,15,16,17,18,19] [[],[],[],[],[],[],[],[],[],[],[],[],[],[0],[],[],[0],[],[],[1]] [[],[0],[0],[],[],[],[],[],[],[],[],[],[],[0],[0],[0],[0],[0],[0],[0,1]] ?_;intro K hK;refine Zo (Zi [] []) ?_;iterate 2 (refine Zo (Zi [] [0]) ?_)
       iterate 10 (refine Zo (Zi [] []) ?_)
       refine Zo (Zi [0] [0]) ?_;rw[put_F cs x.cell x.pred (by omega)];repeat(with_reducible apply qe;exact sdE)
       iterate 2 (refine Zo (Zi [] [0]) ?_)
       refine Zo (Zi [0] [0]) ?_;rw[put_R (z4g cs x.cell x.pred) x.cell x.succ (by rw[z5a];omega)];repeat(with_reducible apply qe;exact sdE)
       iterate 2 (refine Zo (Zi [] [0]) ?_)
       refine Zo (Zi [1] [0,1]) ?_;refine z11 (Zpr (hK _ _ ?_));clear hK K;refine ze (hN0 _ _ ?_);refine Zrs [2] ?_;refine zd (hQ _ _ ?_);rw[show z20 cs x=⟨x.kind,x.cell,7,x.pred,x.succ,x.next,x.res⟩ from by simp[z20,h67],show z1z cs p x=z2p (z4g cs x.cell x.pred) x.cell x.succ from by simp[z1z,h67],show z3v cs x=true from by simp[z3v,waitK,h67]];refine zb (H':=⟨2,[(1,uQ (.row ⟨true,false,110,7,m,pAt ps p (⟨x.kind,x.cell,7,x.pred,x.succ,x.next,x.res⟩)⟩)),(0,uQ (.row ⟨true,false,117,5,cs.length,z2m (z2p (z4g cs x.cell x.pred) x.cell x.succ)⟩))]⟩) (.inl rfl) ?_;refine Zou ?_;refine⟨Zs,(Zg id),Zs,?_⟩
       all_goals(first|trivial|exact⟨rfl,trivial⟩)
      ·intro h67;replace h67:=Znb h67;refine Zrs [1,3,4,23,86] ?_;refine z7 _ rfl ?_ ?_
       ·intro h86;replace h86:=Znb h86;refine Zrd [] [0,1,2,3,4,5,6,7,8,9,10,11,12,13,14,15,16,17,18,19,20,21] [[],[],[],[],[],[],[],[],[],[],[],[],[],[],[],[0],[],[],[0],[],[],[1]] [[],[],[],[],[],[],[],[0],[0],[],[],[],[],[],[],[0],[0],[0],[0],[0],[0],[0,1]] ?_;intro K hK;iterate 7 (refine Zo (Zi [] []) ?_)
        iterate 2 (refine Zo (Zi [] [0]) ?_)
        iterate 6 (refine Zo (Zi [] []) ?_)
        refine Zo (Zi [0] [0]) ?_;rw[put_R cs x.pred x.cell (by omega)];repeat(with_reducible apply qe;exact sdE)
        iterate 2 (refine Zo (Zi [] [0]) ?_)
        refine Zo (Zi [0] [0]) ?_;rw[put_U (z2p cs x.pred x.cell) x.cell (by rw[z2s];omega)];repeat(with_reducible apply qe;exact sdE)
        iterate 2 (refine Zo (Zi [] [0]) ?_)
        refine Zo (Zi [1] [0,1]) ?_;refine z11 (Zpr (hK _ _ ?_));clear hK K;refine ze (hN0 _ _ ?_);refine Zrs [2] ?_;refine zd (hQ _ _ ?_);rw[show z20 cs x=⟨x.kind,x.cell,8,x.pred,x.succ,x.next,x.res⟩ from by simp[z20,h86],show z1z cs p x=setU (z2p cs x.pred x.cell) x.cell from by simp[z1z,h86],show z3v cs x=true from by simp[z3v,waitK,h86]];refine zb (H':=⟨2,[(1,uQ (.row ⟨true,false,110,7,m,pAt ps p (⟨x.kind,x.cell,8,x.pred,x.succ,x.next,x.res⟩)⟩)),(0,uQ (.row ⟨true,false,117,5,cs.length,z2m (setU (z2p cs x.pred x.cell) x.cell)⟩))]⟩) (.inl rfl) ?_;refine Zou ?_;refine⟨Zs,(Zg id),Zs,?_⟩
        all_goals(first|trivial|exact⟨rfl,trivial⟩)
       ·intro h86;replace h86:=Znb h86;refine Zrs [1,3,4,23,107] ?_;refine z7 _ rfl ?_ ?_
        ·intro h107;replace h107:=Znb h107;refine Zrd [] [0,1,2,3,4,5,6,7,8,9,10,11,12,13,14,15,16,17,18,19,20,21] [[],[],[],[],[],[],[],[],[],[],[],[],[],[],[],[0],[],[],[1],[],[],[1]] [[],[],[],[],[],[],[],[0],[0,1],[],[],[],[],[],[],[0],[0],[0],[0,1],[0,1],[0,1],[0,1]] ?_;intro K hK;iterate 7 (refine Zo (Zi [] []) ?_)
         refine Zo (Zi [] [0]) ?_;refine Zo (Zi [] [0,1]) ?_;iterate 6 (refine Zo (Zi [] []) ?_)
         refine Zo (Zi [0] [0]) ?_;rw[put_F cs x.succ x.cell (by omega)];repeat(with_reducible apply qe;exact sdE)
         iterate 2 (refine Zo (Zi [] [0]) ?_)
         refine Zo (Zi [1] [0,1]) ?_;iterate 2 (refine Zo (Zi [] [0,1]) ?_)
         refine Zo (Zi [1] [0,1]) ?_;refine z11 (Zpr (hK _ _ ?_));clear hK K;refine ze (hN0 _ _ ?_);refine Zrs [2] ?_;refine zd (hQ _ _ ?_);rw[show z20 cs x=⟨x.kind,x.cell,13,x.pred,x.succ,x.next,true⟩ from by simp[z20,h107],show z1z cs p x=z4g cs x.succ x.cell from by simp[z1z,h107],show z3v cs x=true from by simp[z3v,waitK,h107]];refine zb (H':=⟨2,[(1,uQ (.row ⟨true,false,110,7,m,pAt ps p (⟨x.kind,x.cell,13,x.pred,x.succ,x.next,true⟩)⟩)),(0,uQ (.row ⟨true,false,117,5,cs.length,z2m (z4g cs x.succ x.cell)⟩))]⟩) (.inl rfl) ?_;refine Zou ?_;refine⟨Zs,(Zg id),Zs,?_⟩
         all_goals(first|trivial|exact⟨rfl,trivial⟩)
        ·intro h107;replace h107:=Znb h107;refine Zrs [1,3,4,23,128] ?_;refine z7 _ rfl ?_ ?_
         ·intro h128;replace h128:=Znb h128;refine Zrs [1,3,5] ?_;refine z6 ?_;refine sg [3,5,137] rfl ?_;intro K hK;iterate 2 (refine Zo Zl ?_)
          refine Zo Zl ?_;refine Zc1 (lock_spec cs ps p x cs.length m rfl hp hm8 (cl cs x.cell.toNat).right 10 hr) (id) ?_;refine Zo Zl ?_;refine z8 (Zpr (hK _ _ ?_));clear hK K;refine z7 _ rfl ?_ ?_
          ·intro h137;have h0:¬lkK cs (cl cs x.cell.toNat).right=0:=by simpa using h137
           simp only[lockP,lockC,qb h0];have h0:¬lkK cs (rt cs x.cell)=0:=h0;refine Zrs [2] ?_;refine zd (hR0 _ _ (hQ _ _ ?_));rw[show z20 cs x=x from by simp[z20,h128,h0],show z1z cs p x=cs from by simp[z1z,h128,h0],show z3v cs x=false from by simp[z3v,waitK,h128,h0]];refine zb (H':=⟨2,[(1,uQ (.row ⟨true,false,110,7,m,pAt ps p (x)⟩)),(0,uQ (.row ⟨true,false,117,5,cs.length,z2m (cs)⟩))]⟩) (.inl rfl) ?_;refine Zou ?_;refine⟨Zs,(Zg id),Zs,?_⟩
           all_goals(first|trivial|exact⟨rfl,trivial⟩)
          ·intro h137;have h0:lkK cs (cl cs x.cell.toNat).right=0:=by simpa using h137
           simp only[lockP,lockC,qf h0];have h0:lkK cs (rt cs x.cell)=0:=h0;refine za ?_;refine Zrg [] ?_;refine ze (hN0 _ _ ?_);refine Zrs [2] ?_;refine zd (hQ _ _ ?_);rw[show z20 cs x=⟨x.kind,x.cell,10,x.pred,x.succ,(cl cs x.cell.toNat).right,x.res⟩ from by simp[z20,h128,h0];rfl,show z1z cs p x=setK cs (cl cs x.cell.toNat).right (p+1) from by simp[z1z,h128,h0]<;>rfl,show z3v cs x=true from by simp[z3v,waitK,h128,h0]];refine zb (H':=⟨2,[(1,uQ (.row ⟨true,false,110,7,m,pAt ps p (⟨x.kind,x.cell,10,x.pred,x.succ,(cl cs x.cell.toNat).right,x.res⟩)⟩)),(0,uQ (.row ⟨true,false,117,5,cs.length,z2m (setK cs (cl cs x.cell.toNat).right (p+1))⟩))]⟩) (.inl rfl) ?_;refine Zou ?_;refine⟨Zs,(Zg id),Zs,?_⟩
           all_goals(first|trivial|exact⟨rfl,trivial⟩)
         ·intro h128;replace h128:=Znb h128;refine Zrs [1,3,4,23,142] ?_;refine z7 _ rfl ?_ ?_
          ·intro h142;replace h142:=Znb h142;refine z3c [] rfl ?_;intro K hK;iterate 5 (refine Zo Zl ?_)
           rw[put_G cs x.cell (by omega)];repeat(with_reducible apply qe;exact sdE)
           iterate 3 (refine Zo Zl ?_)
           refine z8 (Zpr (hK _ _ ?_));clear hK K;refine ze (hN0 _ _ ?_);refine Zrs [2] ?_;refine zd (hQ _ _ ?_);rw[show z20 cs x=⟨x.kind,x.cell,11,x.pred,x.succ,x.next,x.res⟩ from by simp[z20,h142],show z1z cs p x=setG cs x.cell from by simp[z1z,h142],show z3v cs x=true from by simp[z3v,waitK,h142]];refine zb (H':=⟨2,[(1,uQ (.row ⟨true,false,110,7,m,pAt ps p (⟨x.kind,x.cell,11,x.pred,x.succ,x.next,x.res⟩)⟩)),(0,uQ (.row ⟨true,false,117,5,cs.length,z2m (setG cs x.cell)⟩))]⟩) (.inl rfl) ?_;refine Zou ?_;refine⟨Zs,(Zg id),Zs,?_⟩
           all_goals(first|trivial|exact⟨rfl,trivial⟩)
          ·intro h142;replace h142:=Znb h142;refine Zrs [1,3,23,150] ?_;refine z7 _ rfl ?_ ?_
           ·intro h150;replace h150:=Znb h150;refine Zrd [] [0,1,2,3,4,5,6,7,8,9,10,11,12,13,14,15,16,17] [[],[],[],[],[],[],[],[],[],[],[],[],[],[],[0],[],[],[1]] [[],[],[],[],[],[],[],[0],[],[],[],[],[],[],[0],[0],[0],[0,1]] ?_;intro K hK;iterate 7 (refine Zo (Zi [] []) ?_)
            refine Zo (Zi [] [0]) ?_;iterate 6 (refine Zo (Zi [] []) ?_)
            refine Zo (Zi [0] [0]) ?_;rw[put_R cs x.pred x.next (by omega)];repeat(with_reducible apply qe;exact sdE)
            iterate 2 (refine Zo (Zi [] [0]) ?_)
            refine Zo (Zi [1] [0,1]) ?_;refine z11 (Zpr (hK _ _ ?_));clear hK K;refine ze (hN0 _ _ ?_);refine Zrs [2] ?_;refine zd (hQ _ _ ?_);rw[show z20 cs x=⟨x.kind,x.cell,12,x.pred,x.succ,x.next,x.res⟩ from by simp[z20,h150],show z1z cs p x=z2p cs x.pred x.next from by simp[z1z,h150],show z3v cs x=true from by simp[z3v,waitK,h150]];refine zb (H':=⟨2,[(1,uQ (.row ⟨true,false,110,7,m,pAt ps p (⟨x.kind,x.cell,12,x.pred,x.succ,x.next,x.res⟩)⟩)),(0,uQ (.row ⟨true,false,117,5,cs.length,z2m (z2p cs x.pred x.next)⟩))]⟩) (.inl rfl) ?_;refine Zou ?_;refine⟨Zs,(Zg id),Zs,?_⟩
            all_goals(first|trivial|exact⟨rfl,trivial⟩)
           ·intro h150;replace h150:=Znb h150;refine Zrs [1,3,23,168] ?_;refine z7 _ rfl ?_ ?_
            ·intro h168;replace h168:=Znb h168;refine Zrd [] [0,1,2,3,4,5,6,7,8,9,10,11,12,13,14,15,16,17,18,19,20,21] [[],[],[],[],[],[],[],[],[],[],[],[],[],[],[],[0],[],[],[1],[],[],[1]] [[],[],[],[],[],[],[],[0],[0,1],[],[],[],[],[],[],[0],[0],[0],[0,1],[0,1],[0,1],[0,1]] ?_;intro K hK;iterate 7 (refine Zo (Zi [] []) ?_)
             refine Zo (Zi [] [0]) ?_;refine Zo (Zi [] [0,1]) ?_;iterate 6 (refine Zo (Zi [] []) ?_)
             refine Zo (Zi [0] [0]) ?_;rw[put_F cs x.next x.pred (by omega)];repeat(with_reducible apply qe;exact sdE)
             iterate 2 (refine Zo (Zi [] [0]) ?_)
             refine Zo (Zi [1] [0,1]) ?_;iterate 2 (refine Zo (Zi [] [0,1]) ?_)
             refine Zo (Zi [1] [0,1]) ?_;refine z11 (Zpr (hK _ _ ?_));clear hK K;refine ze (hN0 _ _ ?_);refine Zrs [2] ?_;refine zd (hQ _ _ ?_);rw[show z20 cs x=⟨x.kind,x.cell,13,x.pred,x.succ,x.next,true⟩ from by simp[z20,h168],show z1z cs p x=z4g cs x.next x.pred from by simp[z1z,h168],show z3v cs x=true from by simp[z3v,waitK,h168]];refine zb (H':=⟨2,[(1,uQ (.row ⟨true,false,110,7,m,pAt ps p (⟨x.kind,x.cell,13,x.pred,x.succ,x.next,true⟩)⟩)),(0,uQ (.row ⟨true,false,117,5,cs.length,z2m (z4g cs x.next x.pred)⟩))]⟩) (.inl rfl) ?_;refine Zou ?_;refine⟨Zs,(Zg id),Zs,?_⟩
             all_goals(first|trivial|exact⟨rfl,trivial⟩)
            ·intro h168;replace h168:=Znb h168;refine Zrs [1,3,189] ?_;refine z7 _ rfl ?_ ?_
             ·intro h189;replace h189:=Znb h189;refine sg [3] rfl ?_;intro K hK;refine Zo Zl ?_;refine Zo Zl ?_;refine Zc1 (unlock_spec cs ps p x cs.length m rfl hp hm8 hn1) (id) ?_;refine z8 (Zpr (hK _ _ ?_));clear hK K;refine Zrg [] ?_;refine ze (hN0 _ _ ?_);refine Zrs [2] ?_;refine zd (hQ _ _ ?_);rw[show z20 cs x=⟨x.kind,x.cell,18,x.pred,x.succ,x.next,x.res⟩ from by simp[z20,h189],show z1z cs p x=unlk cs p from by simp[z1z,h189],show z3v cs x=true from by simp[z3v,waitK,h189]];refine zb (H':=⟨2,[(1,uQ (.row ⟨true,false,110,7,m,pAt ps p (⟨x.kind,x.cell,18,x.pred,x.succ,x.next,x.res⟩)⟩)),(0,uQ (.row ⟨true,false,117,5,cs.length,z2m (unlk cs p)⟩))]⟩) (.inl rfl) ?_;refine Zou ?_;refine⟨Zs,(Zg id),Zs,?_⟩
              all_goals(first|trivial|exact⟨rfl,trivial⟩)
             ·intro h189;replace h189:=Znb h189;refine Zrs [2] ?_;refine zd (hR0 _ _ (hQ _ _ ?_));rw[show z20 cs x=x from by simp[z20,h24,h28,h36,h44,h48,h67,h86,h107,h128,h142,h150,h168,h189],show z1z cs p x=cs from by simp[z1z,h24,h28,h36,h44,h48,h67,h86,h107,h128,h142,h150,h168,h189],show z3v cs x=false from by rw[z3v,qJ (by omega)];rfl];refine zb (H':=⟨2,[(1,uQ (.row ⟨true,false,110,7,m,pAt ps p (x)⟩)),(0,uQ (.row ⟨true,false,117,5,cs.length,z2m (cs)⟩))]⟩) (.inl rfl) ?_;refine Zou ?_;refine⟨Zs,(Zg id),Zs,?_⟩
              all_goals(first|trivial|exact⟨rfl,trivial⟩)
end
section
open LlHm (gxE axE exE)
open LlBm (oxE)
open D0 (sdE)
end
section
theorem prs_put' (l:List Pr)(k:Nat)(c:Pr)(h:k<l.length):(fun i=>if i=k then [SV.int .i64 c.kind,.int .i64 c.cell,.int .i64 c.phase,.int .i64 c.pred,.int .i64 c.succ,.int .i64 c.next,.bool c.res] else [SV.int .i64 (pr l i).kind,.int .i64 (pr l i).cell,.int .i64 (pr l i).phase,.int .i64 (pr l i).pred,.int .i64 (pr l i).succ,.int .i64 (pr l i).next,.bool (pr l i).res])=prs (l.set k c):=by
 funext i
 simp only[prs]
 split
 ·rename_i e;subst e;rw[z3i h];rfl
 ·rename_i e;rw[z2b (Qv e)];rfl
theorem Vld.rts {cs:List Cl}{ps:List Pr}(h:Vld cs ps):Rts cs:=⟨h.two,by have:=h.big;omega,fun i hi=>(h.cell i hi).2.1⟩
noncomputable def lsH (r:List Cl×List Pr):AH:=⟨4,[(3,z3h r.2),(2,z2x r.1)]⟩
def lsS (r:List Cl×List Pr):SV:= .agg [.slc true 2 0 0 r.1.length,.slc true 3 0 0 r.2.length]
open LlHm (gxE axE exE)
open LlBm (oxE)
open D0 (sdE)
theorem start_spec (cs:List Cl)(ps:List Pr)(n m:Nat)(hn:cs.length=n)(hm:ps.length=m)(hx:n<=9223372036854775807)(hy:m<=9223372036854775807)(p kind cell:Int):
  zf prog 101 [.agg [.slc false 0 0 0 n,.slc false 1 0 0 m],.int .i64 p,.int .i64 kind,.int .i64 cell] ⟨2,[(0,inCl cs),(1,inPr ps)]⟩
   (fun s H1=>s= .tup [lsS (z5i cs ps p kind cell),.int .i64 (z4v cs ps p kind cell)]/\H1=lsH (z5i cs ps p kind cell)):=by
 subst hn hm;refine zf.ofC false 73 [.cell 8 85,.tmp 9] func101 rfl rfl ntmps101 results101 rfl ?_;intro w0 own0 β0 Q hQ hQn;simp only[z18];refine Zrs [1,2,3,4,8] ?_;refine z6 (zc fun Q0 hN0 hX0 hR0 hE0=> ?_);refine sg [1,2,3,4,8,11] rfl ?_;intro K hK;refine Zo Zl ?_;refine Zo Zl ?_;refine Zc1 (valid_specK cs ps cs.length ps.length rfl rfl hx hy) (id) ?_;iterate 2 (refine Zo Zl ?_)
 refine z8 (Zpr (hK _ _ ?_));clear hK K;refine z7 _ rfl ?_ ?_
 ·intro h11
  refine Zrs [8,9] ?_;refine z4w 3 0 117 5 (z2m []) rfl rfl rfl rfl rfl rfl rfl rfl (by dsimp only;omega) (by simp[SV.ltL,SV.lt]) ?_;dsimp only;refine z4w 3 1 110 7 (prs []) rfl rfl rfl rfl rfl rfl rfl rfl (by dsimp only;omega) (by simp[SV.ltL,SV.lt]) ?_;simp only[setO,↓reduceIte,Nat.reduceEqDiff,Nat.reduceAdd,QN,QM,reduceCtorEq,uQ];refine zd (hR0 _ _ (hQ _ _ ?_));have he:z4v cs ps p kind cell=1:=by rw[z4v,qf h11]
  rw[z5i,he,qb (by omega)];unfold lsH lsS;refine zm (fun q=>if q=2 then 4 else if q=3 then 5 else q) (.tup [.agg [.slc true 2 0 0 ([]:List Cl).length,.slc true 3 0 0 ([]:List Pr).length],.int .i64 1]) (⟨4,[(3,z3h []),(2,z2x [])]⟩) (.inl rfl) ?_;refine Zou ?_;refine⟨Zs,Zs,(Zg (fun q=>if q=2 then 4 else if q=3 then 5 else q)),Zs,?_⟩
  all_goals(first|trivial|exact⟨rfl,trivial⟩)
 ·intro h11;have hv:z2w cs ps=true:=by simpa using h11
  have hV:=vld_of hv;obtain⟨hV1,hV2,hV3,hV4,hV5,hV6,hV7,hV8⟩:=hV;refine Zrs [1,2,3,4,8,16] ?_;refine z7 _ rfl ?_ ?_
  ·intro h16
   refine Zrs [8,9] ?_;refine z4w 3 0 117 5 (z2m []) rfl rfl rfl rfl rfl rfl rfl rfl (by dsimp only;omega) (by simp[SV.ltL,SV.lt]) ?_;dsimp only;refine z4w 3 1 110 7 (prs []) rfl rfl rfl rfl rfl rfl rfl rfl (by dsimp only;omega) (by simp[SV.ltL,SV.lt]) ?_;simp only[setO,↓reduceIte,Nat.reduceEqDiff,Nat.reduceAdd,QN,QM,reduceCtorEq,uQ];refine zd (hR0 _ _ (hQ _ _ ?_));have he:z4v cs ps p kind cell=2:=by rw[z4v,qb (by rw[h11];exact qn),qf h16]
   rw[z5i,he,qb (by omega)];unfold lsH lsS;refine zm (fun q=>if q=2 then 4 else if q=3 then 5 else q) (.tup [.agg [.slc true 2 0 0 ([]:List Cl).length,.slc true 3 0 0 ([]:List Pr).length],.int .i64 2]) (⟨4,[(3,z3h []),(2,z2x [])]⟩) (.inl rfl) ?_;refine Zou ?_;refine⟨Zs,Zs,(Zg (fun q=>if q=2 then 4 else if q=3 then 5 else q)),Zs,?_⟩
   all_goals(first|trivial|exact⟨rfl,trivial⟩)
  ·intro h16;have hpr:0<=p/\p<ps.length:=by simp only[qr,qh,qi,qv,qk,qq,qj,qg,qy,qz,qX,ne_eq,Qa,q9,qH,qu] at h16;omega
   refine Zrs [1,2,3,4,8,27] ?_;refine z7 _ rfl ?_ ?_
   ·intro h27
    refine Zrs [8,9] ?_;refine z4w 3 0 117 5 (z2m []) rfl rfl rfl rfl rfl rfl rfl rfl (by dsimp only;omega) (by simp[SV.ltL,SV.lt]) ?_;dsimp only;refine z4w 3 1 110 7 (prs []) rfl rfl rfl rfl rfl rfl rfl rfl (by dsimp only;omega) (by simp[SV.ltL,SV.lt]) ?_;simp only[setO,↓reduceIte,Nat.reduceEqDiff,Nat.reduceAdd,QN,QM,reduceCtorEq,uQ];refine zd (hR0 _ _ (hQ _ _ ?_));have he:z4v cs ps p kind cell=6:=by rw[z4v,qb (by rw[h11];exact qn),qb (by rw[h16];exact qn),qf h27]
    rw[z5i,he,qb (by omega)];unfold lsH lsS;refine zm (fun q=>if q=2 then 4 else if q=3 then 5 else q) (.tup [.agg [.slc true 2 0 0 ([]:List Cl).length,.slc true 3 0 0 ([]:List Pr).length],.int .i64 6]) (⟨4,[(3,z3h []),(2,z2x [])]⟩) (.inl rfl) ?_;refine Zou ?_;refine⟨Zs,Zs,(Zg (fun q=>if q=2 then 4 else if q=3 then 5 else q)),Zs,?_⟩
    all_goals(first|trivial|exact⟨rfl,trivial⟩)
   ·intro h27;have hcr:2<=cell/\cell<cs.length:=by simp only[qr,qh,qi,qv,qk,qq,qj,qg,qy,qz,qX,ne_eq,Qa,q9,qH,qu] at h27;omega
    refine Zrs [1,2,3,4,8,38] ?_;refine z7 _ rfl ?_ ?_
    ·intro h38;rw[kindBad_eq] at h38;refine Zrs [8,9] ?_;refine z4w 3 0 117 5 (z2m []) rfl rfl rfl rfl rfl rfl rfl rfl (by dsimp only;omega) (by simp[SV.ltL,SV.lt]) ?_;dsimp only;refine z4w 3 1 110 7 (prs []) rfl rfl rfl rfl rfl rfl rfl rfl (by dsimp only;omega) (by simp[SV.ltL,SV.lt]) ?_;simp only[setO,↓reduceIte,Nat.reduceEqDiff,Nat.reduceAdd,QN,QM,reduceCtorEq,uQ];refine zd (hR0 _ _ (hQ _ _ ?_));have he:z4v cs ps p kind cell=1:=by rw[z4v,qb (by rw[h11];exact qn),qb (by rw[h16];exact qn),qb (by rw[h27];exact qn),qf h38]
     rw[z5i,he,qb (by omega)];unfold lsH lsS;refine zm (fun q=>if q=2 then 4 else if q=3 then 5 else q) (.tup [.agg [.slc true 2 0 0 ([]:List Cl).length,.slc true 3 0 0 ([]:List Pr).length],.int .i64 1]) (⟨4,[(3,z3h []),(2,z2x [])]⟩) (.inl rfl) ?_;refine Zou ?_;refine⟨Zs,Zs,(Zg (fun q=>if q=2 then 4 else if q=3 then 5 else q)),Zs,?_⟩
     all_goals(first|trivial|exact⟨rfl,trivial⟩)
    ·intro h38;rw[kindBad_eq] at h38;refine sg [1,2,3,4,8,50] rfl ?_;intro K hK;iterate 5 (refine Zo Zl ?_)
     refine Zo Zl ?_;refine Zc1 (active_spec (pr ps p.toNat)) (id) ?_;refine Zo Zl ?_;refine z8 (Zpr (hK _ _ ?_));clear hK K;refine z7 _ rfl ?_ ?_
     ·intro h50
      refine Zrs [8,9] ?_;refine z4w 3 0 117 5 (z2m []) rfl rfl rfl rfl rfl rfl rfl rfl (by dsimp only;omega) (by simp[SV.ltL,SV.lt]) ?_;dsimp only;refine z4w 3 1 110 7 (prs []) rfl rfl rfl rfl rfl rfl rfl rfl (by dsimp only;omega) (by simp[SV.ltL,SV.lt]) ?_;simp only[setO,↓reduceIte,Nat.reduceEqDiff,Nat.reduceAdd,QN,QM,reduceCtorEq,uQ];refine zd (hR0 _ _ (hQ _ _ ?_));have he:z4v cs ps p kind cell=7:=by rw[z4v,qb (by rw[h11];exact qn),qb (by rw[h16];exact qn),qb (by rw[h27];exact qn),qb (by rw[h38];exact qn),qf h50]
      rw[z5i,he,qb (by omega)];unfold lsH lsS;refine zm (fun q=>if q=2 then 4 else if q=3 then 5 else q) (.tup [.agg [.slc true 2 0 0 ([]:List Cl).length,.slc true 3 0 0 ([]:List Pr).length],.int .i64 7]) (⟨4,[(3,z3h []),(2,z2x [])]⟩) (.inl rfl) ?_;refine Zou ?_;refine⟨Zs,Zs,(Zg (fun q=>if q=2 then 4 else if q=3 then 5 else q)),Zs,?_⟩
      all_goals(first|trivial|exact⟨rfl,trivial⟩)
     ·intro h50
      refine za (ze (hN0 _ _ ?_));refine sg [1,2,3,4,8,10] rfl ?_;intro K hK;refine Zo Zl ?_;refine Zo Zl ?_;refine Zc1 (clone_specK cs ps cs.length ps.length rfl rfl (by omega) (by omega)) (id) ?_;iterate 2 (refine Zo Zl ?_)
      refine z8 (Zpr (hK _ _ ?_));clear hK K;refine z6 ?_;refine Zrd [8,10] [0,1,2,3,4,5,6,7,8,9,10,11,12] [[],[],[],[],[],[],[],[],[],[],[],[],[5]] [[],[],[],[],[],[],[],[],[],[],[],[],[5]] ?_;intro K hK;iterate 12 (refine Zo (Zi [] []) ?_)
      refine Zo (Zi [5] [5]) ?_;rw[prs_put' ps p.toNat ⟨kind,cell,1,0,(cl cs 0).right,0,false⟩ (by omega)];repeat(with_reducible apply qe;exact sdE)
      refine z11 (Zpr (hK _ _ ?_));clear hK K;refine Zrs [8,9] ?_;refine zd (hQ _ _ ?_);have he:z4v cs ps p kind cell=0:=by rw[z4v,qb (by rw[h11];exact qn),qb (by rw[h16];exact qn),qb (by rw[h27];exact qn),qb (by rw[h38];exact qn),qb (by rw[h50];exact qn)]
      have hl2:=startP_length cs ps p kind cell;rw[z5i,he,qf rfl];unfold lsH lsS;dsimp only;rw[hl2];refine zm (fun q=>if q=2 then 4 else if q=3 then 5 else q) (.tup [.agg [.slc true 2 0 0 cs.length,.slc true 3 0 0 ps.length],.int .i64 0]) (⟨4,[(3,uQ (.row ⟨true,false,110,7,ps.length,prs (ps.set p.toNat ⟨kind,cell,1,0,(cl cs 0).right,0,false⟩)⟩)),(2,z2x cs)]⟩) (.inl rfl) ?_;refine Zou ?_;refine⟨Zs,Zs,(Zg (fun q=>if q=2 then 4 else if q=3 then 5 else q)),Zs,?_⟩
      all_goals first|trivial|(simp only[z3h,z2x,startP,qC];done)|(exact⟨rfl,by simp only[z3h,z2x,startP,qC]⟩)
end
section
theorem Tryz.zMc:z32 prog 165=some [.nils,.nils,.int .i64 0]:=by kernel_rfl
def LlLm.exE:=aj9 @zg @zi @zn @zk ec1 ec2 @zj @zt (aj8 @zu ec9 @Tryz.zMc ec3 ec4 ec10 @z1d.eq_1 @zz.eq_1)
def LlLm.axE:=aj9 @zg @zi @zn @zk ec1 ec2 @zj @zt (aj9 @zu ec9 @Tryz.zMc ec3 ec4 ec10 @z1d.eq_1 @zz.eq_1 (aj3 @z2n @pAt_ren @renL_ite))
open LlHm (gxE)
open LlLm (axE exE)
open LlBm (oxE)
open D0 (sdE)
theorem stepL_spec (cs:List Cl)(ps:List Pr)(n m:Nat)(hn:cs.length=n)(hm:ps.length=m)(hx:n<=9223372036854775807)(hy:m<=9223372036854775807)(p:Int):
  zf prog 106 [.agg [.slc false 0 0 0 n,.slc false 1 0 0 m],.int .i64 p] ⟨2,[(0,inCl cs),(1,inPr ps)]⟩
   (fun s H1=>s= .tup [lsS (stepR cs ps p),.bool (stepOk cs ps p)]/\H1=lsH (stepR cs ps p)):=by
 subst hn hm;refine zf.ofC false 32 [.cell 4 85,.tmp 5] func106 rfl rfl ntmps106 results106 rfl ?_;intro w0 own0 β0 Q hQ hQn;simp only[z18];refine Zrs [1,2,4] ?_;refine z6 ?_;refine sg [1,2,4,9] rfl ?_;intro K hK;refine Zo Zl ?_;refine Zo Zl ?_;refine Zc1 (valid_specK cs ps cs.length ps.length rfl rfl hx hy) (id) ?_;refine Zo Zl ?_;refine z8 (Zpr (hK _ _ ?_));clear hK K;refine z7 _ rfl ?_ ?_
 ·intro h9;have hv:z2w cs ps=false:=by simpa using h9
  refine Zrs [4,5] ?_;refine z4w 3 0 117 5 (z2m []) rfl rfl rfl rfl rfl rfl rfl rfl (by dsimp only;omega) (by simp[SV.ltL,SV.lt]) ?_;dsimp only;refine z4w 3 1 110 7 (prs []) rfl rfl rfl rfl rfl rfl rfl rfl (by dsimp only;omega) (by simp[SV.ltL,SV.lt]) ?_;simp only[setO,↓reduceIte,Nat.reduceEqDiff,Nat.reduceAdd,QN,QM,reduceCtorEq,uQ];refine zd (hQ _ _ ?_);rw[stepR,stepOk,hv];unfold lsH lsS;refine zm (fun q=>if q=2 then 4 else if q=3 then 5 else q) (.tup [.agg [.slc true 2 0 0 ([]:List Cl).length,.slc true 3 0 0 ([]:List Pr).length],.bool false]) (⟨4,[(3,z3h []),(2,z2x [])]⟩) (.inl rfl) ?_;refine Zou ?_;refine⟨Zs,Zs,(Zg (fun q=>if q=2 then 4 else if q=3 then 5 else q)),Zs,?_⟩
  all_goals(first|trivial|exact⟨rfl,trivial⟩|exact⟨rfl,rfl⟩)
 ·intro h9;have hv:z2w cs ps=true:=by simpa using h9
  have hV:=vld_of hv;obtain⟨hV1,hV2,hV3,hV4,hV5,hV6,hV7,hV8⟩:=hV;refine za ?_;refine sg [1,2,4,6] rfl ?_;intro K hK;refine Zo Zl ?_;refine Zo Zl ?_;refine Zc1 (clone_specK cs ps cs.length ps.length rfl rfl (by omega) (by omega)) (id) ?_;iterate 2 (refine Zo Zl ?_)
  refine z8 (Zpr (hK _ _ ?_));clear hK K;refine z6 ?_;refine sg [2,4,6,28] rfl ?_;intro K hK
  have hk4:∀(B:Bool) (r:List Cl×List Pr) (os:List (Nat×Nat×(Nat->Sk.Obj))),B= !(goesB ps p && z3v cs (pr ps p.toNat))->(B=false->r=(z1z cs p.toNat (pr ps p.toNat),ps.set p.toNat (z20 cs (pr ps p.toNat))))->(os=[(6,lsOwn 4 cs.length 5 ps.length),(5,uQ (.row ⟨true,false,110,7,ps.length,prs r.2⟩)),(4,uQ (.row ⟨true,false,117,5,cs.length,z2m r.1⟩)),(3,uQ (.row ⟨true,true,85,2,1,fun _=>[.nils,.nils]⟩)),(2,lsBox 0 cs.length 1 ps.length),(0,inCl cs),(1,inPr ps)]\/os=[(5,uQ (.row ⟨true,false,110,7,ps.length,prs r.2⟩)),(4,uQ (.row ⟨true,false,117,5,cs.length,z2m r.1⟩)),(6,lsOwn 4 cs.length 5 ps.length),(3,uQ (.row ⟨true,true,85,2,1,fun _=>[.nils,.nils]⟩)),(2,lsBox 0 cs.length 1 ps.length),(0,inCl cs),(1,inPr ps)])->K [(2,.ptr 2 0 0 0),(4,.ptr 3 0 0 0),(6,.ptr 6 0 0 0),(28,.bool B)] ⟨7,os⟩:=by
   intro B r os hB hr hos;subst hB;refine hK _ _ ?_;clear hK K;refine Cs.give (H':=⟨7,[(6,lsOwn 4 cs.length 5 ps.length),(5,uQ (.row ⟨true,false,110,7,ps.length,prs r.2⟩)),(4,uQ (.row ⟨true,false,117,5,cs.length,z2m r.1⟩)),(3,uQ (.row ⟨true,true,85,2,1,fun _=>[.nils,.nils]⟩)),(2,lsBox 0 cs.length 1 ps.length),(0,inCl cs),(1,inPr ps)]⟩) (fr':=[(2,.ptr 2 0 0 0),(4,.ptr 3 0 0 0),(6,.ptr 6 0 0 0),(28,.bool !(goesB ps p && z3v cs (pr ps p.toNat)))]) id (by rcases hos with rfl|rfl<;>exact(Zg id)) ?_;refine z7 _ rfl ?_ ?_
   ·intro h28;have hg:(goesB ps p && z3v cs (pr ps p.toNat))=false:=by rw[qk] at h28;exact h28
    refine sg [4,5] rfl ?_;intro K hK;refine Zo Zl ?_;refine Zo Zl ?_;refine Zc1 (clone_specK cs ps cs.length ps.length rfl rfl (by omega) (by omega)) (id) ?_;iterate 2 (refine Zo Zl ?_)
    refine z8 (Zpr (hK _ _ ?_));clear hK K;refine zd (hQ _ _ ?_);rw[stepR,stepOk,hv,hg];unfold lsH lsS;refine zm (fun q=>if q=2 then 7 else if q=3 then 8 else q) (.tup [.agg [.slc true 2 0 0 cs.length,.slc true 3 0 0 ps.length],.bool false]) (⟨4,[(3,z3h ps),(2,z2x cs)]⟩) (.inl rfl) ?_;refine Zou ?_;refine⟨Zs,Zs,(Zg (fun q=>if q=2 then 7 else if q=3 then 8 else q)),Zs,?_⟩
    all_goals(first|trivial|exact⟨rfl,trivial⟩|exact⟨rfl,rfl⟩)
   ·intro h28;have hg:(goesB ps p && z3v cs (pr ps p.toNat))=true:=by rw[qq] at h28;exact h28
    have hr2:=hr h28;subst hr2;refine za ?_;refine Zrs [4,5] ?_;refine zd (hQ _ _ ?_);have hl1:=stepC_length cs p.toNat (pr ps p.toNat);rw[stepR,stepOk,hv,hg];unfold lsH lsS;simp only[Qn,qF,Qw,Qh,Bool.and_self,hl1,qC,z3h,z2x];refine zm (fun q=>if q=2 then 4 else if q=3 then 5 else q) (.tup [.agg [.slc true 2 0 0 cs.length,.slc true 3 0 0 ps.length],.bool true]) (⟨4,[(3,uQ (.row ⟨true,false,110,7,ps.length,prs (ps.set p.toNat (z20 cs (pr ps p.toNat)))⟩)),(2,uQ (.row ⟨true,false,117,5,cs.length,z2m (z1z cs p.toNat (pr ps p.toNat))⟩))]⟩) (.inl rfl) ?_;refine Zou ?_;refine⟨Zs,Zs,(Zg (fun q=>if q=2 then 4 else if q=3 then 5 else q)),Zs,?_⟩
    all_goals(first|trivial|exact⟨rfl,trivial⟩|exact⟨rfl,rfl⟩)
  iterate 13 (refine Zo Zl ?_)
  refine z16 ?_;refine z2e rfl rfl ?_;refine Zgr ?_
  first|refine z1r ?_ ?_|refine(fun(h1:false=true->_) (h2:false=false->_)=>qe h1 fun _=>h2 rfl) ?_ ?_|refine qe ?_ ?_
  ·intro hg13
   first
    |(simp at hg13;done)
    |skip
     try replace hg13:=Znb hg13
     refine Zo id ?_;have hst:=step_spec cs ps p.toNat (pr ps p.toNat) cs.length ps.length rfl (by omega) (by omega) (by omega) (by omega) (hV6 p.toNat (by omega)) (rt_in (vld_of hv) (hV6 p.toNat (by omega)).cell.1 (hV6 p.toNat (by omega)).cell.2);rw[pAt_self,show((p.toNat:Nat):Int)=p by omega] at hst;refine Zc1 (hst) (fun q=>q+4) ?_;rw[prs_put' ps p.toNat (z20 cs (pr ps p.toNat)) (by omega)];refine Zo Zl ?_
     try with_reducible refine qe (by clear hk4 hV5 hV6 hV7 hV8;simp_all;done) ?_
     repeat(with_reducible apply qe;exact sdE)
     refine Zo Zl ?_
     try with_reducible refine qe (by clear hk4 hV5 hV6 hV7 hV8;simp_all;done) ?_
     repeat(with_reducible apply qe;exact sdE)
     refine z8 ?_;refine Zpr ?_;refine hk4 _ (z1z cs p.toNat (pr ps p.toNat),ps.set p.toNat (z20 cs (pr ps p.toNat))) _ ?_ (fun _=>rfl) (.inr rfl);clear hk4 hV5 hV6 hV7 hV8
     first|(simp_all[goesB];done)|(simp_all[goesB];rfl)
  ·intro hg13;refine⟨.bool false,?_⟩
   first
    |(simp at hg13;done)
    |skip
     try replace hg13:=Znb hg13
     refine Zo Zl ?_
     try with_reducible refine qe (by clear hk4 hV5 hV6 hV7 hV8;simp_all;done) ?_
     repeat(with_reducible apply qe;exact sdE)
     refine Zo Zl ?_
     try with_reducible refine qe (by clear hk4 hV5 hV6 hV7 hV8;simp_all;done) ?_
     repeat(with_reducible apply qe;exact sdE)
     refine z8 ?_;refine Zpr ?_;refine hk4 _ (cs,ps) _ ?_ ?_ (.inl rfl)
     ·clear hk4 hV5 hV6 hV7 hV8
      first|(simp_all[goesB];done)|(simp_all[goesB];rfl)
     ·clear hk4 hV5 hV6 hV7 hV8;intro hbb
      exfalso
      simp_all
end
section
def idleB (x:Pr):Bool:=x.kind==3|| !z48 x||x.phase==1||x.phase==2
def unlB (x:Pr):Bool:=x.phase==10||x.phase==11||x.phase==12||x.phase==13
def holdL (x:Pr):List Int:=if idleB x then [] else [x.pred]++(if x.phase !=3 then [x.succ] else [])++(if unlB x && x.next !=0 then [x.next] else [])
theorem unlB_eq (x:Pr):unlB x=decide (10<=x.phase/\x.phase<=13):=by
 rw[Qj];simp only[unlB,qr,qy,qj];omega
theorem holdL_has (x:Pr)(i:Int):hasB (holdL x) i=hol x i:=by
 rw[Qj,hasB_iff,holdL,hol,<-unlB_eq]
 show i∈_↔(!idleB x && _)=true
 cases idleB x with
 |true=>simp
 |false=>
  cases h3:x.phase !=3<;>cases hu:unlB x<;>cases hn:x.next !=0<;>simp
  all_goals(try exact or_assoc.symm)
theorem holdL_len (x:Pr):(holdL x).length<=3:=by
 unfold holdL;repeat' split
 all_goals simp
theorem app1 (a b:Int):app (ints [a]) 1 (ints [b])=ints [a,b]:=z21 [a] [b]
theorem app2 (a b c:Int):app (ints [a,b]) 2 (ints [c])=ints [a,b,c]:=z21 [a,b] [c]
def LlRm.exE:=aj9 @zg @zi @zn @zk ec1 ec2 @zj @zt (aj9 @zu ec3 ec4 @clCap.eq_1 @z47.eq_1 ec5 ec6 @z1d.eq_1 (aj5 @zz.eq_1 @z1c @z21 @app1 @app2))
def LlRm.axE:=aj9 @zg @zi @zn @zk ec1 ec2 @zj @zt (aj9 @zu ec3 ec4 @clCap.eq_1 @z47.eq_1 ec5 ec6 @z1d.eq_1 (aj8 @zz.eq_1 @z1c @z21 @app1 @app2 @z2n @z31 @z1q))
open LlBm (gxE oxE)
open LlRm (axE exE)
open D0 (sdE)
theorem holds_spec (x:Pr):zf prog 153 [.agg x.sv] ⟨0,[]⟩ (fun s H1=>s= .slc true 0 0 0 (holdL x).length/\H1=⟨1,[(0,zz (holdL x))]⟩):=by
 refine zf.ofC false 66 [.tmp 2] func153 rfl rfl ntmps153 results153 rfl ?_;intro w0 own0 β0 Q hQ hQn;simp only[z18];refine Zrs [1] ?_;refine Zrs [1,3] ?_;refine z6 ?_;refine sg [1,3,22] rfl ?_;intro K hK
 have hk2:∀B:Bool,B=idleB x->K [(1,.ptr 0 0 0 0),(3,.nils),(22,.bool B)] ⟨1,[(0,uQ (.row ⟨true,true,110,7,1,fun _=>x.sv⟩))]⟩:=by
  intro B hB;subst hB;refine hK _ _ ?_;clear hK K;refine z7 _ rfl ?_ ?_
  ·intro h22
   refine Zrs [2] ?_;refine z2d 2 3 1 (ints []) rfl ?_;dsimp only;refine zd (hQ _ _ ?_);rw[holdL,qf h22];refine zm (fun q=>if q=0 then 1 else q) (.slc true 0 0 0 ([]:List Int).length) (⟨1,[(0,zz [])]⟩) (.inl rfl) ?_;refine Zou ?_;refine⟨Zs,Zs,(Zg (fun q=>if q=0 then 1 else q)),Zs,?_⟩
   all_goals(first|trivial|exact⟨rfl,trivial⟩|exact⟨rfl,rfl⟩)
  ·intro h22
   refine za (z6 ?_);refine z2d 3 3 1 (ints []) rfl ?_;dsimp only;refine Zrg [1,3] ?_;refine z6 ?_;refine Zrs [1,3,30] ?_;refine z7 _ rfl ?_ ?_
   ·intro h30
    refine Zrg [1,3] ?_;refine Zrs [1,3,4] ?_;refine z6 ?_;refine Zrs [1,3,59] ?_;refine z7 _ rfl ?_ ?_
    ·intro h59;have hn:(unlB x && x.next !=0)=true:=h59;refine Zrg [3] ?_;refine Zrs [2] ?_;refine zd (hQ _ _ ?_);rw[holdL,qb (by rw[h22];exact qn),qf h30,qf hn];refine zm (fun q=>if q=0 then 7 else q) (.slc true 0 0 0 ([x.pred]++[x.succ]++[x.next]).length) (⟨1,[(0,zz ([x.pred]++[x.succ]++[x.next]))]⟩) (.inl rfl) ?_;refine Zou ?_;refine⟨Zs,Zs,(Zg (fun q=>if q=0 then 7 else q)),Zs,?_⟩
     all_goals(first|trivial|exact⟨rfl,trivial⟩|exact⟨rfl,rfl⟩)
    ·intro h59;have hn:(unlB x && x.next !=0)=false:=h59;refine za ?_;refine Zrs [2] ?_;refine zd (hQ _ _ ?_);rw[holdL,qb (by rw[h22];exact qn),qf h30,qb (by rw[hn];exact qn)];refine zm (fun q=>if q=0 then 5 else q) (.slc true 0 0 0 ([x.pred]++[x.succ]++[]).length) (⟨1,[(0,zz ([x.pred]++[x.succ]++[]))]⟩) (.inl rfl) ?_;refine Zou ?_;refine⟨Zs,Zs,(Zg (fun q=>if q=0 then 5 else q)),Zs,?_⟩
     all_goals(first|trivial|exact⟨rfl,trivial⟩|exact⟨rfl,rfl⟩)
   ·intro h30
    refine za ?_;refine Zrs [1,3,4] ?_;refine z6 ?_;refine Zrs [1,3,59] ?_;refine z7 _ rfl ?_ ?_
    ·intro h59;have hn:(unlB x && x.next !=0)=true:=h59;refine Zrg [3] ?_;refine Zrs [2] ?_;refine zd (hQ _ _ ?_)
     exfalso
     simp only[qr,qh,qi,qv,qk,qq,qj,qg,qy,qz,qX,ne_eq,Qa,q9,qH,qu] at h30 h59;omega
    ·intro h59;have hn:(unlB x && x.next !=0)=false:=h59;refine za ?_;refine Zrs [2] ?_;refine zd (hQ _ _ ?_);rw[holdL,qb (by rw[h22];exact qn),qb (by rw[h30];exact qn),qb (by rw[hn];exact qn)];refine zm (fun q=>if q=0 then 3 else q) (.slc true 0 0 0 ([x.pred]++[]++[]).length) (⟨1,[(0,zz ([x.pred]++[]++[]))]⟩) (.inl rfl) ?_;refine Zou ?_;refine⟨Zs,Zs,(Zg (fun q=>if q=0 then 3 else q)),Zs,?_⟩
     all_goals(first|trivial|exact⟨rfl,trivial⟩|exact⟨rfl,rfl⟩)
 iterate 5 (refine Zo Zl ?_)
 refine z16 ?_;refine z2e rfl rfl ?_;refine Zgr ?_
 first|refine z1r ?_ ?_|refine(fun(h1:false=true->_) (h2:false=false->_)=>qe h1 fun _=>h2 rfl) ?_ ?_|refine qe ?_ ?_
 ·intro hg5
  first
   |(simp at hg5;done)
   |skip
    try replace hg5:=Znb hg5
    refine Zo id ?_;refine Zc1 (active_spec x) (id) ?_;refine Zo Zl ?_
    try with_reducible refine qe (by clear hk2;simp_all;done) ?_
    repeat(with_reducible apply qe;exact sdE)
    refine Zo Zl ?_
    try with_reducible refine qe (by clear hk2;simp_all;done) ?_
    repeat(with_reducible apply qe;exact sdE)
    iterate 10 (refine Zo Zl ?_)
    refine z8 ?_;refine Zpr ?_;refine hk2 _ ?_;clear hk2
    first|(simp_all[idleB];done)|(simp_all[idleB];rfl)
 ·intro hg5;refine⟨.bool false,?_⟩
  first
   |(simp at hg5;done)
   |skip
    try replace hg5:=Znb hg5
    refine Zo Zl ?_
    try with_reducible refine qe (by clear hk2;simp_all;done) ?_
    repeat(with_reducible apply qe;exact sdE)
    refine Zo Zl ?_
    try with_reducible refine qe (by clear hk2;simp_all;done) ?_
    repeat(with_reducible apply qe;exact sdE)
    iterate 10 (refine Zo Zl ?_)
    refine z8 ?_;refine Zpr ?_;refine hk2 _ ?_;clear hk2
    first|(simp_all[idleB];done)|(simp_all[idleB];rfl)
def lkBad (cs:List Cl)(ps:List Pr)(i q:Nat):Bool:=(lkK cs i==(q:Int)+1) !=hol (pr ps q) i
theorem locks_spec (cs:List Cl)(ps:List Pr)(n m:Nat)(hn:cs.length=n)(hm:ps.length=m)(hx:n<=1000)(hy:m<=8):
  zf prog 114 [.agg [.slc false 0 0 0 n,.slc false 1 0 0 m]] ⟨2,[(0,inCl cs),(1,inPr ps)]⟩ (fun s H1=>s= .bool (locksB cs ps)/\H1=⟨2,[]⟩):=by
 subst hn hm;refine zf.ofC false 35 [.tmp 2] func114 rfl rfl ntmps114 results114 rfl ?_;intro w0 own0 β0 Q hQ hQn;simp only[z18];refine Zrs [1] ?_;refine z6 ?_;refine Zrs [1,8,9,10] ?_;refine zc fun Q0 hN0 hX0 hR0 hE0=> ?_;refine zx (σ:=Nat) (fun i=>i<=cs.length/\∀i',i'<i->z57 ps.length (fun q=>lkBad cs ps i' q)=false) (fun i=>cs.length-i) (fun i=>[(1,.ptr 2 0 0 0),(8,.slc false 0 0 0 cs.length),(9,.int .i64 cs.length),(10,.int .i64 i)]) (fun _=>⟨3,[(2,lsBox 0 cs.length 1 ps.length),(0,inCl cs),(1,inPr ps)]⟩) 0 ⟨qp _,fun q h=>by omega⟩ (ρ:=id) (Zg id) ?_;rintro i hi QL1 hL1 hRL1 hEL1;refine Zrs [1,8,9,10,11] ?_;refine z6 ?_;refine z7 _ rfl ?_ ?_
 ·intro h11;replace h11:=Znb h11;obtain⟨hi1,hi2⟩:=hi;have hil:i<cs.length:=by omega
  refine za (z6 (zc fun Q1 hN1 hX1 hR1 hE1=> ?_));refine Zrs [1,3,4,8,9,10] ?_;refine Zrs [1,3,4,8,9,10,16,17,18] ?_;refine zc fun Q2 hN2 hX2 hR2 hE2=> ?_;refine zx (σ:=Nat) (fun q=>q<=ps.length/\∀q',q'<q->lkBad cs ps i q'=false) (fun q=>ps.length-q) (fun q=>[(1,.ptr 2 0 0 0),(3,.int .i64 i),(4,.ptr 3 0 0 0),(8,.slc false 0 0 0 cs.length),(9,.int .i64 cs.length),(10,.int .i64 i),(16,.slc false 1 0 0 ps.length),(17,.int .i64 ps.length),(18,.int .i64 q)]) (fun _=>⟨4,[(3,uQ (.row ⟨true,true,117,5,1,fun _=>(cl cs i).sv⟩)),(2,lsBox 0 cs.length 1 ps.length),(0,inCl cs),(1,inPr ps)]⟩) 0 ⟨qp _,fun q h=>by omega⟩ (ρ:=id) (Zg id) ?_;rintro q hq QL2 hL2 hRL2 hEL2;refine Zrs [1,3,4,8,9,10,16,17,18,19] ?_;refine z6 ?_;refine z7 _ rfl ?_ ?_
  ·intro h19;replace h19:=Znb h19;obtain⟨hq1,hq2⟩:=hq;have hql:q<ps.length:=by omega
   have hhl:=holdL_len (pr ps q);refine za (z6 (zc fun Q3 hN3 hX3 hR3 hE3=> ?_));refine Zrs [1,3,4,5,6,8,9,10,16,17,18] ?_;refine z6 ?_;refine Zrd [1,3,4,8,9,10,16,17,18,32] [0,1,2,3,4,5,7,6,8,9] [[],[],[],[],[],[],[],[],[],[]] [[],[],[],[],[],[],[],[],[],[]] ?_;intro K hK;iterate 7 (refine Zo (Zi [] []) ?_)
   refine Zo (Zi [] []) ?_;refine Zc1 (holds_spec (pr ps q)) (id) ?_;refine Zo (Zi [] []) ?_;refine Zc1 (contains2_spec (holdL (pr ps q)) (i:Int) (holdL (pr ps q)).length rfl (by omega)) (fun _=>5) ?_;refine Zo (Zi [] []) ?_;refine z11 (Zpr (hK _ _ ?_));clear hK K;refine z7 _ rfl ?_ ?_
   ·intro h32;have hb:lkBad cs ps i q=true:=by rw[lkBad,<-holdL_has];exact h32
    refine Zrs [2] ?_;refine zd (hR3 _ _ (hRL2 _ _ (hR2 _ _ (hR1 _ _ (hRL1 _ _ (hR0 _ _ (hQ _ _ ?_)))))));refine zb (H':=⟨2,[]⟩) (.inl rfl) ?_;refine Zou ?_;refine⟨Zs,(Zg id),Zs,?_⟩;rw[locksB,z3s (p:=fun i=>z57 ps.length fun q=>(lkK cs i==(q:Int)+1) !=hol (pr ps q) i) hil (z3s hql hb)]
    first|trivial|exact⟨rfl,trivial⟩
   ·intro h32;have hb:lkBad cs ps i q=false:=by rw[lkBad,<-holdL_has];exact h32
    refine za (ze (hN3 _ _ ?_));refine Zrg [1,3,4,8,9,10,16,17,18] ?_;refine ze (hL2 _ _ ?_);rw[show(q:Int)+1=((q+1:Nat):Int) from by omega];refine⟨q+1,⟨⟨by omega,fun q' hq'=> ?_⟩,by omega⟩,id,(Zg id)⟩
    by_cases e:q'=q
    ·subst e;exact hb
    ·exact hq2 q' (by omega)
  ·intro h19;replace h19:=Znb h19;obtain⟨hq1,hq2⟩:=hq;refine zw (hEL2 _ _ _ (hX2 _ _ (ze (hN1 _ _ ?_))));refine Zrg [1,8,9,10] ?_;refine ze (hL1 _ _ ?_);rw[show(i:Int)+1=((i+1:Nat):Int) from by omega];refine⟨i+1,⟨⟨by omega,fun i' hi'=> ?_⟩,by omega⟩,id,(Zg id)⟩
   by_cases e:i'=i
   ·subst e;exact z3z fun q' hq'=>hq2 q' (by omega)
   ·exact hi2 i' (by omega)
 ·intro h11;replace h11:=Znb h11;obtain⟨hi1,hi2⟩:=hi;refine zw (hEL1 _ _ _ (hX0 _ _ ?_));refine Zrs [2] ?_;refine zd (hQ _ _ ?_);refine zb (H':=⟨2,[]⟩) (.inl rfl) ?_;refine Zou ?_;refine⟨Zs,(Zg id),Zs,?_⟩;rw[locksB,z3z (p:=fun i=>z57 ps.length fun q=>(lkK cs i==(q:Int)+1) !=hol (pr ps q) i) fun i' hi'=>hi2 i' (by omega)]
  first|trivial|exact⟨rfl,trivial⟩
end
section
theorem chkL_some {cs:List Cl}{ps:List Pr}{path:List Int}(hv:z2w cs ps=true)(h0:gn cs 0=false)(h1:gn cs 1=false)(hl:locksB cs ps=true)(hc:chainL cs 0=some path):
  chkL cs ps=(!z57 cs.length (fun i=>cellBad cs ps path i) && (!freeB cs|| !z57 (path.length-1) (fun i=>leftBad cs path i))):=by
 rw[chkL,hv,h0,h1,hc];simp only[hl,Jl,Qb]
theorem chkL_head {cs:List Cl}{ps:List Pr}(h:(!(chainL cs 0).isSome|| !locksB cs ps||gn cs 0||gn cs 1)=true):chkL cs ps=false:=by
 simp only[qr] at h;rw[chkL];rcases h with((h|h)|h)|h
 ·cases hc:chainL cs 0 with
  |none=>simp
  |some p=>rw[hc] at h;cases h
 ·have hl:locksB cs ps=false:=by simpa using h
  cases chainL cs 0 with
  |none=>simp
  |some p=>simp[hl]
 ·rw[h];simp
 ·rw[h];simp
theorem chkL_no {cs:List Cl}{ps:List Pr}(hv:z2w cs ps=false):chkL cs ps=false:=by rw[chkL,hv];rfl
theorem chainF_rng {cs:List Cl}(h:Rts cs):∀{k:Nat} {a:Int} {l:List Int},(0<=a/\a<cs.length)->chainF cs k a=some l->∀x∈l,0<=x/\x<cs.length
 |0,_,_,_,e,_,_=>by cases e
 |k+1,a,l,ha,e,x,hx=>by
  rw[chainF] at e
  split at e
  ·cases e
   have:x=a:=by simpa using hx
   rw[this];exact ha
  ·split at e
   ·cases hc:chainF cs k (cl cs a.toNat).right with
    |none=>rw[hc] at e;cases e
    |some m=>
     rw[hc] at e
     cases e
     rcases qw.1 hx with g|g
     ·rw[g];exact ha
     ·exact chainF_rng h (h.rt a.toNat (by omega)) hc x g
   ·cases e
def freeN (cs:List Cl)(i:Nat):Bool:= !z57 i fun j=>lkK cs j !=0
theorem freeN_zero (cs:List Cl):freeN cs 0=true:=rfl
theorem freeN_succ (cs:List Cl)(i:Nat):freeN cs (i+1)=(freeN cs i && (cl cs i).lock==0):=by
 have:lkK cs (i:Int)=(cl cs i).lock:=rfl;simp only[freeN,z57,JD,List.any_append,List.any_cons,List.any_nil,ji,Bool.not_or,this,bne,JA]
open LlBm (gxE oxE exE)
open LlCm (axE)
open D0 (sdE)
theorem check_specL (cs:List Cl)(ps:List Pr)(n m:Nat)(hn:cs.length=n)(hm:ps.length=m)(hx:n<=9223372036854775807)(hy:m<=9223372036854775807):
  zf prog 75 [.agg [.slc false 0 0 0 n,.slc false 1 0 0 m]] ⟨2,[(0,inCl cs),(1,inPr ps)]⟩ (fun s H1=>s= .bool (chkL cs ps)/\H1=⟨2,[]⟩):=by
 subst hn hm;refine zf.ofC false 108 [.tmp 2] func75 rfl rfl ntmps75 results75 rfl ?_;intro w0 own0 β0 Q hQ hQn;simp only[z18];refine Zrs [1] ?_;refine z6 ?_;refine sg [1,13] rfl ?_;intro K hK;refine Zo Zl ?_;refine Zo Zl ?_;refine Zc1 (valid_specK cs ps cs.length ps.length rfl rfl hx hy) (id) ?_;refine Zo Zl ?_;refine z8 (Zpr (hK _ _ ?_));clear hK K;refine z7 _ rfl ?_ ?_
 ·intro h13;have hv:z2w cs ps=false:=by simpa using h13
  refine Zrs [2] ?_;refine zd (hQ _ _ ?_);rw[chkL_no hv];refine zb (H':=⟨2,[]⟩) (.inl rfl) ?_;refine Zou ?_;refine⟨Zs,(Zg id),Zs,?_⟩
  all_goals(first|trivial|exact⟨rfl,trivial⟩|exact⟨rfl,rfl⟩)
 ·intro h13;have hv:z2w cs ps=true:=by simpa using h13
  have hV:=vld_of hv;have hR:=hV.rts;obtain⟨hV1,hV2,hV3,hV4,hV5,hV6,hV7,hV8⟩:=hV;refine za ?_;refine sg [1,3,4] rfl ?_;intro K hK;refine Zo Zl ?_;refine Zo Zl ?_;refine Zca (chain_spec cs ps cs.length ps.length rfl rfl hR) (id) ?_;rintro s0 H0 ⟨out,ho1,ho2,rfl,rfl⟩ s1 H1 hs1 hH1;obtain⟨hs2,hH2⟩:=Zaf hs1 hH1;clear hs1 hH1;subst hs2 hH2;repeat(with_reducible apply qe;exact sdE)
  iterate 5 (refine Zo Zl ?_)
  refine z8 (Zpr (hK _ _ ?_));clear hK K;refine z6 ?_;refine sg [1,3,39] rfl ?_;intro K hK
  have hk4:∀B:Bool,B=(!(chainL cs 0).isSome|| !locksB cs ps||gn cs 0||gn cs 1)->K [(1,.ptr 2 0 0 0),(3,.slc true 3 0 0 out.length),(39,.bool B)] ⟨4,[(3,zz out),(2,lsBox 0 cs.length 1 ps.length),(0,inCl cs),(1,inPr ps)]⟩:=by
   intro B hB;subst hB;refine hK _ _ ?_;clear hK K;refine z7 _ rfl ?_ ?_
   ·intro h39
    refine Zrs [2] ?_;refine zd (hQ _ _ ?_);rw[chkL_head h39];refine zb (H':=⟨2,[]⟩) (.inl rfl) ?_;refine Zou ?_;refine⟨Zs,(Zg id),Zs,?_⟩
    all_goals(first|trivial|exact⟨rfl,trivial⟩|exact⟨rfl,rfl⟩)
   ·intro h39;obtain⟨⟨⟨g1,gl⟩,g2⟩,g3⟩:((((!(chainL cs 0).isSome)=false/\(!locksB cs ps)=false)/\gn cs 0=false)/\gn cs 1=false):=by simpa only[qi] using h39
    obtain⟨path,hpath⟩:∃path,chainL cs 0=some path:=by
     cases hc:chainL cs 0 with
     |none=>rw[hc] at g1;cases g1
     |some p=>exact⟨p,rfl⟩
    have hop:=ho1 path hpath;subst hop;have hck:=chkL_some hv g2 g3 (by simpa using gl) hpath;have hrng:=chainF_rng hR (by omega:(0:Int)<=0/\(0:Int)<cs.length) hpath;clear ho1 hV5 hV6 hV7 hV8;refine za ?_;refine Zrs [1,3,5] ?_;refine z6 ?_;refine Zrs [1,3,5,41,42,43] ?_;refine zc fun Q0 hN0 hX0 hR0 hE0=> ?_;refine zx (σ:=Nat) (fun i=>i<=cs.length/\∀q,q<i->cellBad cs ps out q=false) (fun i=>cs.length-i) (fun i=>[(1,.ptr 2 0 0 0),(3,.slc true 3 0 0 out.length),(5,.bool (freeN cs i)),(41,.slc false 0 0 0 cs.length),(42,.int .i64 cs.length),(43,.int .i64 i)]) (fun _=>⟨4,[(3,zz out),(2,lsBox 0 cs.length 1 ps.length),(0,inCl cs),(1,inPr ps)]⟩) 0 ⟨qp _,fun q h=>by omega⟩ (ρ:=id) (have xE:=@freeN_zero;Zgx id) ?_;rintro i hi QL1 hL1 hRL1 hEL1;refine Zrs [1,3,5,41,42,43,44] ?_;refine z6 ?_;refine z7 _ rfl ?_ ?_
    ·intro h44;replace h44:=Znb h44;obtain⟨hi1,hi2⟩:=hi;have hil:i<cs.length:=by omega
     refine za (z6 (zc fun Q1 hN1 hX1 hR1 hE1=> ?_));refine Zrs [1,3,5,6,7,41,42,43] ?_;refine sg [1,3,5,6,7,41,42,43] rfl ?_;intro K hK
     have hk10:∀B:Bool,B=freeN cs (i+1)->K [(1,.ptr 2 0 0 0),(3,.slc true 3 0 0 out.length),(5,.bool B),(6,.ptr 4 0 0 0),(7,.ptr 5 0 0 0),(41,.slc false 0 0 0 cs.length),(42,.int .i64 cs.length),(43,.int .i64 i)] ⟨6,[(5,uQ (.row ⟨true,true,117,5,1,fun _=>(cl cs i).sv⟩)),(4,uQ (.row ⟨true,true,3,1,1,fun _=>[.int .i64 i]⟩)),(3,zz out),(2,lsBox 0 cs.length 1 ps.length),(0,inCl cs),(1,inPr ps)]⟩:=by
      intro B hB;subst hB;refine hK _ _ ?_;clear hK K;refine sg [1,3,5,6,7,8,41,42,43] rfl ?_;intro K hK;iterate 2 (refine Zo Zl ?_)
      refine Zo Zl ?_;refine Zc1 (contains2_spec out i out.length rfl (by omega)) (fun _=>3) ?_;refine Zo Zl ?_;refine z8 (Zpr (hK _ _ ?_));clear hK K;refine sg [1,3,5,6,7,8,9,41,42,43] rfl ?_;intro K hK;iterate 3 (refine Zo Zl ?_)
      refine Zo Zl ?_;refine Zc1 (prContains_spec i ps ps.length 0 ps.length rfl (by omega) (by omega)) (fun q=>if q=0 then 1 else 4) ?_;simp only[QE];rw[show(z57 ps.length fun j=>insP (i:Int) (pr ps j))=leavB ps i from rfl];refine Zo Zl ?_;refine z8 (Zpr (hK _ _ ?_));clear hK K;refine sg [1,3,5,41,42,43,82] rfl ?_;intro K hK
      have hk13:∀B:Bool,B=cellBad cs ps out i->K [(1,.ptr 2 0 0 0),(3,.slc true 3 0 0 out.length),(5,.bool (freeN cs (i+1))),(41,.slc false 0 0 0 cs.length),(42,.int .i64 cs.length),(43,.int .i64 i),(82,.bool B)] ⟨6,[(5,uQ (.row ⟨true,true,117,5,1,fun _=>(cl cs i).sv⟩)),(4,uQ (.row ⟨true,true,3,1,1,fun _=>[.int .i64 i]⟩)),(3,zz out),(2,lsBox 0 cs.length 1 ps.length),(0,inCl cs),(1,inPr ps)]⟩:=by
       intro B hB;subst hB;refine hK _ _ ?_;clear hK K;refine z7 _ rfl ?_ ?_
       ·intro h82
        refine Zrs [2] ?_;refine zd (hR1 _ _ (hRL1 _ _ (hR0 _ _ (hQ _ _ ?_))));rw[hck,z3s (p:=fun i=>cellBad cs ps out i) hil h82,Qn,QH];refine zb (H':=⟨2,[]⟩) (.inl rfl) ?_;refine Zou ?_;refine⟨Zs,(Zg id),Zs,?_⟩
        all_goals(first|trivial|exact⟨rfl,trivial⟩|exact⟨rfl,rfl⟩)
       ·intro h82
        refine za (ze (hN1 _ _ ?_));refine Zrg [1,3,5,41,42,43] ?_;refine ze (hL1 _ _ ?_);rw[show(i:Int)+1=((i+1:Nat):Int) from by omega];refine⟨i+1,⟨⟨by omega,fun q hq=> ?_⟩,by omega⟩,id,(Zg id)⟩
        by_cases e:q=i
        ·subst e;exact h82
        ·exact hi2 q (by omega)
      iterate 22 (refine Zo Zl ?_)
      refine z8 ?_;refine Zpr ?_;refine hk13 _ ?_;rw[cellBad,show gn cs (i:Int)=(cl cs i).gone from rfl]
     iterate 7 (refine Zo Zl ?_)
     refine z8 ?_;refine Zpr ?_;refine hk10 _ ?_;rw[freeN_succ]
    ·intro h44;replace h44:=Znb h44;obtain⟨hi1,hi2⟩:=hi;have hin:i=cs.length:=by omega
     subst hin;have hall:z57 cs.length (fun i=>cellBad cs ps out i)=false:=z3z fun q hq=>hi2 q (by omega);rw[hall] at hck;refine zw (hEL1 _ _ _ (hX0 _ _ (z6 ?_)));refine Zrs [1,3,5,10] ?_;refine zc fun Q2 hN2 hX2 hR2 hE2=> ?_;refine zx (σ:=Nat) (fun j=>1<=j/\(j<=out.length\/j=1)/\∀q,q+1<j->leftBad cs out q=false) (fun j=>out.length-j) (fun j=>[(1,.ptr 2 0 0 0),(3,.slc true 3 0 0 out.length),(5,.bool (freeN cs cs.length)),(10,.int .i64 j)]) (fun _=>⟨4,[(3,zz out),(2,lsBox 0 cs.length 1 ps.length),(0,inCl cs),(1,inPr ps)]⟩) 1 ⟨qd _,.inr rfl,fun q h=>by omega⟩ (ρ:=id) (Zg id) ?_;rintro j hj QL2 hL2 hRL2 hEL2;refine z6 ?_;refine sg [1,3,5,10,90] rfl ?_;intro K hK
     have hk17:(1<=j/\(j<=out.length\/j=1)/\∀q,q+1<j->leftBad cs out q=false)->∀B:Bool,B=(decide (j<out.length) && freeN cs cs.length)->K [(1,.ptr 2 0 0 0),(3,.slc true 3 0 0 out.length),(5,.bool (freeN cs cs.length)),(10,.int .i64 j),(90,.bool B)] ⟨4,[(3,zz out),(2,lsBox 0 cs.length 1 ps.length),(0,inCl cs),(1,inPr ps)]⟩:=by
      intro hj B hB;subst hB;refine hK _ _ ?_;clear hK K;refine z7 _ rfl ?_ ?_
      ·intro h90;obtain⟨hj1,hj2,hj3⟩:=hj;obtain⟨hjl,hfr⟩:j<out.length/\freeN cs cs.length=true:=by simpa using h90
       have hr1:=hrng _ (nth_mem' hjl);have hr2:=hrng _ (nth_mem' (show j-1<out.length by omega));refine za (z6 (zc fun Q3 hN3 hX3 hR3 hE3=> ?_));refine z6 ?_;refine Zrd [1,3,5,10,107] [0,1,2,3,4,5,6,7,8,9,10,11,12,13,14] [[],[],[],[],[],[],[],[],[],[],[],[],[],[],[]] [[],[],[],[],[],[],[],[],[],[],[],[],[],[],[]] ?_;intro K hK;iterate 13 (refine Zo (Zi [] []) ?_)
       rw[show(j:Int)-1=((j-1:Nat):Int) from by omega];repeat(with_reducible apply qe;exact sdE)
       iterate 2 (refine Zo (Zi [] []) ?_)
       refine z11 (Zpr (hK _ _ ?_));clear hK K;refine z7 _ rfl ?_ ?_
       ·intro h107
        have hb:leftBad cs out (j-1)=true:=by
         rw[leftBad,show j-1+1=j by omega];exact h107
        refine Zrs [2] ?_;refine zd (hR3 _ _ (hRL2 _ _ (hR2 _ _ (hQ _ _ ?_))));have hf:freeB cs=true:=hfr;rw[hck,z3s (p:=fun i=>leftBad cs out i) (i:=j-1) (by omega) hb,hf];refine zb (H':=⟨2,[]⟩) (.inl rfl) ?_;refine Zou ?_;refine⟨Zs,(Zg id),Zs,?_⟩
        all_goals(first|trivial|exact⟨rfl,trivial⟩|exact⟨rfl,rfl⟩)
       ·intro h107
        have hb:leftBad cs out (j-1)=false:=by
         rw[leftBad,show j-1+1=j by omega];exact h107
        refine za (ze (hN3 _ _ ?_));refine Zrg [1,3,5,10] ?_;refine ze (hL2 _ _ ?_);rw[show(j:Int)+1=((j+1:Nat):Int) from by omega];refine⟨j+1,⟨⟨by omega,.inl (by omega),fun q hq=> ?_⟩,by omega⟩,id,(Zg id)⟩
        by_cases e:q=j-1
        ·subst e;exact hb
        ·exact hj3 q (by omega)
      ·intro h90;obtain⟨hj1,hj2,hj3⟩:=hj;refine zw (hEL2 _ _ _ (hX2 _ _ ?_));refine Zrs [2] ?_;refine zd (hQ _ _ ?_)
       have hend:(!freeB cs|| !z57 (out.length-1) (fun i=>leftBad cs out i))=true:=by
        have hfe:freeB cs=freeN cs cs.length:=rfl;rw[hfe]
        cases hfr:freeN cs cs.length with
        |false=>rfl
        |true=>
         rw[hfr,Ju,qg] at h90;rw[z3z fun q hq=>hj3 q (by omega)];rfl
       rw[hck,hend];refine zb (H':=⟨2,[]⟩) (.inl rfl) ?_;refine Zou ?_;refine⟨Zs,(Zg id),Zs,?_⟩
       all_goals(first|trivial|exact⟨rfl,trivial⟩|exact⟨rfl,rfl⟩)
     iterate 7 (refine Zo Zl ?_)
     refine z8 ?_;refine Zpr ?_;refine hk17 hj _ ?_
     first|(simp;done)|rfl|(congr 1;simp;done)
  iterate 4 (refine Zo Zl ?_)
  refine z16 ?_;refine z2e rfl rfl ?_;refine Zgr ?_
  first|refine z1r ?_ ?_|refine(fun(h1:false=true->_) (h2:false=false->_)=>qe h1 fun _=>h2 rfl) ?_ ?_|refine qe ?_ ?_
  ·intro hg4
   first
    |(simp at hg4;done)
    |skip
     try replace hg4:=Znb hg4
     refine Zo id ?_;refine Zc1 (locks_spec cs ps cs.length ps.length rfl rfl (by omega) (by omega)) (id) ?_;refine Zo Zl ?_
     try with_reducible refine qe (by clear hk4 ho1 hV5 hV6 hV7 hV8;simp_all;done) ?_
     repeat(with_reducible apply qe;exact sdE)
     refine Zo Zl ?_
     try with_reducible refine qe (by clear hk4 ho1 hV5 hV6 hV7 hV8;simp_all;done) ?_
     repeat(with_reducible apply qe;exact sdE)
     iterate 14 (refine Zo Zl ?_)
     refine z8 ?_;refine Zpr ?_;refine hk4 _ ?_;clear hk4 ho1 hV5 hV6 hV7 hV8
     first|(simp_all[gn];done)|(simp_all[gn];rfl)
  ·intro hg4;refine⟨.bool false,?_⟩
   first
    |(simp at hg4;done)
    |skip
     try replace hg4:=Znb hg4
     refine Zo Zl ?_
     try with_reducible refine qe (by clear hk4 ho1 hV5 hV6 hV7 hV8;simp_all;done) ?_
     repeat(with_reducible apply qe;exact sdE)
     refine Zo Zl ?_
     try with_reducible refine qe (by clear hk4 ho1 hV5 hV6 hV7 hV8;simp_all;done) ?_
     repeat(with_reducible apply qe;exact sdE)
     iterate 14 (refine Zo Zl ?_)
     refine z8 ?_;refine Zpr ?_;refine hk4 _ ?_;clear hk4 ho1 hV5 hV6 hV7 hV8
     first|(simp_all[gn];done)|(simp_all[gn];rfl)
end
section
open LlBm (gxE oxE exE)
open LlCm (axE)
open D0 (sdE)
end
section
theorem kAt_lt' {l:List ByteArray}{i:Nat}(h:i<l.length):kAt l i=l[i]:=by simp[kAt,List.getD,h]
theorem kAt_inj {l:List ByteArray}(hd:l.Nodup){i j:Nat}(hi:i<l.length)(hj:j<i):kAt l i≠kAt l j:=by
 rw[kAt_lt' hi,kAt_lt' (by omega)];intro e;exact Qc.1 hd j i (by omega) hi hj e.symm
theorem ltK_trans (keys:List ByteArray)(a b c:Int)(h:ltK keys a b=true)(h':ltK keys b c=true):ltK keys a c=true:=bl_trans' h h'
theorem kAt_inj2 {keys:List ByteArray}(h:keys.Nodup){i j:Nat}(hi:i<keys.length)(hj:j<keys.length)(e:kAt keys i=kAt keys j):i=j:=by
 rcases jf i j with h1|h1|h1
 ·exact absurd e.symm (kAt_inj h hj h1)
 ·exact h1
 ·exact absurd e (kAt_inj h hi h1)
theorem srt_pw {keys:List ByteArray}{inn:List Bool}(h:keys.Nodup):∀i,i<=keys.length->(srtR (ltK keys) (mems inn i)).Pairwise (fun a b=>ltK keys a b=true)
 |0,_=>by simp[mems,srtR]
 |i+1,hi=>by
  simp only[mems]
  split
  ·rw[srtR_snoc];refine insR_pw (ltK_trans keys) (srt_pw h i (by omega)) fun y hy hlt=> ?_;obtain⟨j,hj,_,rfl⟩:=z59.1 ((srtR_mem _).1 hy)
   cases hb:ltK keys ((j:Int)+2) ((i:Int)+2) with
   |true=>rfl
   |false=>
    have e:=sLt_totalK hlt hb;have e1:((i:Int)+2).toNat-2=i:=by omega
    have e2:((j:Int)+2).toNat-2=j:=by omega
    rw[e1,e2] at e;have:=kAt_inj2 h (by omega) (by omega) e;omega
  ·exact srt_pw h i (by omega)
theorem noPr_at (p q:Nat):pr (List.replicate p noPr) q=noPr:=by
 simp only[pr,List.getD,jO]
 split<;>rfl
structure Mk (keys:List ByteArray) (inn:List Bool) (p:Nat):Prop where
 len:keys.length<=6
 inn:inn.length=keys.length
 ok:∀i,i<keys.length->okKey (kAt keys i)=true
 nodup:keys.Nodup
 two:2<=p
 four:p<=4
theorem cl_ext {xs ys:List Cl}(hl:xs.length=ys.length)(h:∀q,q<xs.length->cl xs q=cl ys q):xs=ys:=by
 apply Qz hl;intro i h1 h2;have:=h i h1;rwa [cl_lt h1,cl_lt h2] at this
def z3o (keys:List ByteArray)(inn:List Bool)(i:Nat):List Cl:=[noCl,noCl]++(List.range i).map fun j=>⟨kAt keys j,0,0,0,!bAt inn j⟩
theorem z3e (keys:List ByteArray)(inn:List Bool)(i:Nat):(z3o keys inn i).length=i+2:=by simp[z3o]
theorem cellK_succ (keys:List ByteArray)(inn:List Bool)(i:Nat):z3o keys inn (i+1)=z3o keys inn i++[⟨kAt keys i,0,0,0,!bAt inn i⟩]:=by simp[z3o,JD]
theorem cellK_at (keys:List ByteArray)(inn:List Bool)(i:Nat){q:Nat}(hq:q<i+2):cl (z3o keys inn i) q=if q<2 then noCl else⟨kAt keys (q-2),0,0,0,!bAt inn (q-2)⟩:=by
 unfold z3o
 by_cases c:q<2
 ·rw[qf c,cl_append_lt (by simpa using c)];rcases(show q=0\/q=1 by omega) with rfl|rfl<;>rfl
 ·rw[qb c,cl_append_ge (by simpa using c),cl_lt (by simp;omega)];simp
theorem lessC_cellK {keys:List ByteArray}{inn:List Bool}{i:Nat}{a b:Int}(ha:2<=a/\a<i+2)(hb:2<=b/\b<i+2):z1l (z3o keys inn i) a b=ltK keys a b:=by
 have e1:(a==1)=false:=by simp;omega
 have e2:(b==0)=false:=by simp;omega
 have e3:(a==0)=false:=by simp;omega
 have e4:(b==1)=false:=by simp;omega
 unfold z1l ltK;rw[e1,e2,e3,e4,cellK_at _ _ _ (by omega),cellK_at _ _ _ (by omega),qb (show¬a.toNat<2 by omega),qb (show¬b.toNat<2 by omega)];simp only[ji,qF,Qw]
 split
 ·rename_i e;have:a=b:=by simpa using e
  subst this;simp[sLt,bl_irr']
 ·rfl
theorem srt_memsK (keys:List ByteArray)(inn:List Bool)(n:Nat):∀i,i<=n->srtR (z1l (z3o keys inn n)) (mems inn i)=srtR (ltK keys) (mems inn i)
 |0,_=>rfl
 |i+1,hi=>by
  simp only[mems]
  split
  ·rw[srtR_snoc,srtR_snoc,srt_memsK keys inn n i (by omega)];refine insR_congr fun y hy=> ?_;obtain⟨j,hj,_,rfl⟩:=z59.1 ((srtR_mem _).1 hy);exact lessC_cellK (by omega) (by omega)
  ·exact srt_memsK keys inn n i (by omega)
def ordN (keys:List ByteArray)(inn:List Bool)(n:Nat):List Int:=srtR (ltK keys) (mems inn n)++[1]
theorem ordN_mem {keys:List ByteArray}{inn:List Bool}{n:Nat}{z:Int}(h:z∈ordN keys inn n):1<=z/\z<n+2:=by
 rw[ordN,qR,srtR_mem,qL] at h;rcases h with h|rfl
 ·obtain⟨j,hj,_,rfl⟩:=z59.1 h;omega
 ·omega
def lnk2 (cs:List Cl)(last:Int):List Int->List Cl
 |[]=>cs
 |c::l=>lnk2 (z4g (z2p cs last c) c last) c l
theorem lnk2_length:∀(l:List Int) (cs:List Cl) (a:Int),(lnk2 cs a l).length=cs.length
 |[],_,_=>rfl
 |c::l,cs,a=>by rw[lnk2,lnk2_length l,z5a,z2s]
def newK (keys:List ByteArray)(inn:List Bool)(n:Nat):List Cl:=lnk2 (z3o keys inn n) 0 (ordN keys inn n)
theorem newK_length (keys:List ByteArray)(inn:List Bool)(n:Nat):(newK keys inn n).length=n+2:=by rw[newK,lnk2_length,z3e]
theorem lnk2_cell:∀(l:List Int) (cs:List Cl) (a:Int),(0<=a/\a<cs.length)->(∀x∈l,0<=x/\x<cs.length)->∀i:Nat,∃r f:Int,cl (lnk2 cs a l) i={cl cs i with right:=r,left:=f}/\(r=(cl cs i).right\/r∈l)/\(f=(cl cs i).left\/f∈a::l)
 |[],cs,a,_,_,i=>⟨(cl cs i).right,(cl cs i).left,rfl,.inl rfl,.inl rfl⟩
 |c::l,cs,a,ha,hl,i=>by
  have hc:=hl c (qm ..);have hlen:(z4g (z2p cs a c) c a).length=cs.length:=by rw[z5a,z2s]
  have hcR:0<=c/\c<(z2p cs a c).length:=by rw[z2s];exact hc
  obtain⟨r,f,h1,h2,h3⟩:=lnk2_cell l (z4g (z2p cs a c) c a) c (by rw[hlen];exact hc) (fun x hx=>by rw[hlen];exact hl x (qo _ hx)) i;have e1:=cl_up (cs:=cs) (c:=a) (i:=(i:Int)) (y:={cl cs a.toNat with right:=c}) ha (by omega);have e2:=cl_up (cs:=z2p cs a c) (c:=c) (i:=(i:Int)) (y:={cl (z2p cs a c) c.toNat with left:=a}) hcR (by omega);rw[qE] at e1 e2
  have g1:∃r,cl (z2p cs a c) i={cl cs i with right:=r}/\(r=(cl cs i).right\/r=c):=by
   have e1':cl (z2p cs a c) i=_:=e1
   by_cases hia:(i:Int)=a
   ·rw[qf hia] at e1';have:a.toNat=i:=by omega
    rw[this] at e1';exact⟨c,e1',.inr rfl⟩
   ·rw[qb hia] at e1';exact⟨_,e1',.inl rfl⟩
  have g2:∃f,cl (z4g (z2p cs a c) c a) i={cl (z2p cs a c) i with left:=f}/\(f=(cl (z2p cs a c) i).left\/f=a):=by
   have e2':cl (z4g (z2p cs a c) c a) i=_:=e2
   by_cases hic:(i:Int)=c
   ·rw[qf hic] at e2';have:c.toNat=i:=by omega
    rw[this] at e2';exact⟨a,e2',.inr rfl⟩
   ·rw[qb hic] at e2';exact⟨_,e2',.inl rfl⟩
  obtain⟨r1,k1,k2⟩:=g1;obtain⟨f1,k3,k4⟩:=g2;rw[lnk2];rw[k3,k1] at h1 h2 h3;rw[k1] at k4;refine⟨r,f,h1,?_,?_⟩
  ·rcases h2 with h2|h2
   ·dsimp only at h2;rw[h2];rcases k2 with k2|k2
    ·exact .inl k2
    ·exact .inr (k2 ▸ qm ..)
   ·exact .inr (qo _ h2)
  ·rcases h3 with h3|h3
   ·dsimp only at h3 k4;rw[h3];rcases k4 with k4|k4
    ·exact .inl k4
    ·exact .inr (k4 ▸ qm ..)
   ·exact .inr (qo _ h3)
theorem lnk2_key {l:List Int}{cs:List Cl}{a:Int}(ha:0<=a/\a<cs.length)(hl:∀x∈l,0<=x/\x<cs.length):z3w cs (lnk2 cs a l):=
 ⟨lnk2_length ..,fun i=>by obtain⟨r,f,h,_⟩:=lnk2_cell l cs a ha hl i;rw[h]⟩
theorem lnk2_off:∀(l:List Int) (cs:List Cl) (a i:Int),(0<=a/\a<cs.length)->(∀x∈l,0<=x/\x<cs.length)->0<=i->(i∉a::l->rt (lnk2 cs a l) i=rt cs i)/\(i∉l->lf (lnk2 cs a l) i=lf cs i)
 |[],cs,a,i,_,_,_=>⟨fun _=>rfl,fun _=>rfl⟩
 |c::l,cs,a,i,ha,hl,hi=>by
  have hc:=hl c (qm ..);have hlen:(z4g (z2p cs a c) c a).length=cs.length:=by rw[z5a,z2s]
  have hcR:0<=c/\c<(z2p cs a c).length:=by rw[z2s];exact hc
  obtain⟨h1,h2⟩:=lnk2_off l (z4g (z2p cs a c) c a) c i (by rw[hlen];exact hc) (fun x hx=>by rw[hlen];exact hl x (qo _ hx)) hi;rw[lnk2];refine⟨fun hn=> ?_,fun hn=> ?_⟩
  ·rw[h1 fun h=>hn (qo _ h),z37 hcR hi,rt_setR ha hi,qb];intro e;exact hn (e ▸ qm ..)
  ·rw[h2 fun h=>hn (qo _ h),lf_setF hcR hi,lf_setR ha hi,qb];intro e;exact hn (e ▸ qm ..)
theorem lnk2_seg:∀(m:List Int) (cs:List Cl) (a:Int),(∀x∈a::(m++[1]),0<=x/\x<cs.length)->(a::(m++[1])).Pairwise (fun x y=>z1l cs x y=true)->Seg (lnk2 cs a (m++[1])) a (m++[1]) 1/\∀i∈a::m,lf (lnk2 cs a (m++[1])) (rt (lnk2 cs a (m++[1])) i)=i
 |[],cs,a,hr,hp=>by
  have ha:=hr a (qm ..);have h1r:=hr 1 (by simp);have h1:=(Qu.1 hp).1 1 (by simp);have hcR:0<=(1:Int)/\(1:Int)<(z2p cs a 1).length:=by rw[z2s];exact h1r
  have e:rt (z4g (z2p cs a 1) 1 a) a=1:=by rw[z37 hcR ha.1,rt_setR ha ha.1,qf rfl]
  refine⟨⟨(z1p.1 h1).2.1,e,?_,rfl⟩,fun i hi=> ?_⟩
  ·show z1l (z4g (z2p cs a 1) 1 a) a 1=true
   rw[((z4c ..).trans (z58 ..)).less];exact h1
  ·have:i=a:=by simpa using hi
   subst this
   show lf (z4g (z2p cs i 1) 1 i) (rt (z4g (z2p cs i 1) 1 i) i)=i
   rw[e,lf_setF hcR (by omega),qf rfl]
 |c::m,cs,a,hr,hp=>by
  have ha:=hr a (qm ..);have hc:=hr c (by simp);obtain⟨hp1,hp2⟩:=Qu.1 hp;have hk:z3w cs (z4g (z2p cs a c) c a):=(z4c ..).trans (z58 ..);have hlen:=hk.len;have hcR:0<=c/\c<(z2p cs a c).length:=by rw[z2s];exact hc
  have hr2:∀x∈c::(m++[1]),0<=x/\x<(z4g (z2p cs a c) c a).length:=fun x hx=>by rw[hlen];exact hr x (qo _ hx)
  obtain⟨ih1,ih2⟩:=lnk2_seg m (z4g (z2p cs a c) c a) c hr2 (hp2.imp fun {x y} h=>by rw[hk.less];exact h);have hk2:z3w (z4g (z2p cs a c) c a) (lnk2 (z4g (z2p cs a c) c a) c (m++[1])):=lnk2_key (hr2 c (qm ..)) fun x hx=>hr2 x (qo _ hx);have hac:=hp1 c (qm ..);have hne:a∉c::(m++[1]):=fun h=>absurd rfl (z4z (hp1 a h));have hcn:c∉m++[1]:=fun h=>absurd rfl (z4z ((Qu.1 hp2).1 c h));have hoff:=fun i=>lnk2_off (m++[1]) (z4g (z2p cs a c) c a) c i (hr2 c (qm ..)) (fun x hx=>hr2 x (qo _ hx))
  have e:rt (lnk2 (z4g (z2p cs a c) c a) c (m++[1])) a=c:=by
   rw[(hoff a ha.1).1 hne,z37 hcR ha.1,rt_setR ha ha.1,qf rfl]
  show Seg (lnk2 (z4g (z2p cs a c) c a) c (m++[1])) a (c::(m++[1])) 1/\∀i∈a::c::m,lf (lnk2 (z4g (z2p cs a c) c a) c (m++[1])) (rt (lnk2 (z4g (z2p cs a c) c a) c (m++[1])) i)=i
  refine⟨⟨(z1p.1 hac).2.1,e,?_,ih1⟩,fun i hi=> ?_⟩
  ·rw[hk2.less,hk.less];exact hac
  ·rcases qw.1 hi with g|g
   ·subst g;rw[e,(hoff c hc.1).2 hcn,lf_setF hcR hc.1,qf rfl]
   ·exact ih2 i g
theorem inv_made {keys:List ByteArray}{inn:List Bool}{p:Nat}(h:Mk keys inn p):Inv (newK keys inn keys.length) (List.replicate p noPr) (ordN keys inn keys.length):=by
 have hlen:=newK_length keys inn keys.length;have hlP:(z3o keys inn keys.length).length=keys.length+2:=z3e ..;have h0:0<=(0:Int)/\(0:Int)<(z3o keys inn keys.length).length:=by omega
 have hor:∀x∈ordN keys inn keys.length,0<=x/\x<(z3o keys inn keys.length).length:=fun x hx=>by have:=ordN_mem hx;omega
 have hkey:z3w (z3o keys inn keys.length) (newK keys inn keys.length):=lnk2_key h0 hor
 have hcell:∀i:Nat,i<keys.length+2->∃r f:Int,cl (newK keys inn keys.length) i={(if i<2 then noCl else⟨kAt keys (i-2),0,0,0,!bAt inn (i-2)⟩:Cl) with right:=r,left:=f}/\(0<=r/\r<keys.length+2)/\0<=f/\f<keys.length+2:=fun i hi=>by
  obtain⟨r,f,h1,h2,h3⟩:=lnk2_cell (ordN keys inn keys.length) (z3o keys inn keys.length) 0 h0 hor i;have h4:=cellK_at keys inn keys.length hi;rw[h4] at h1 h2 h3;have hz:(if i<2 then noCl else(⟨kAt keys (i-2),0,0,0,!bAt inn (i-2)⟩:Cl)).right=0/\(if i<2 then noCl else(⟨kAt keys (i-2),0,0,0,!bAt inn (i-2)⟩:Cl)).left=0:=by split<;>exact⟨rfl,rfl⟩
  rw[hz.1] at h2;rw[hz.2] at h3;refine⟨r,f,h1,?_,?_⟩
  ·rcases h2 with h2|h2
   ·omega
   ·have:=ordN_mem h2;omega
  ·rcases h3 with h3|h3
   ·omega
   ·rcases qw.1 h3 with h3|h3
    ·omega
    ·have:=ordN_mem h3;omega
 have hl6:=h.len
 have hin:∀i:Int,0<=i->i<keys.length+2->(gn (newK keys inn keys.length) i=if i<2 then false else !bAt inn (i.toNat-2))/\lkK (newK keys inn keys.length) i=0:=fun i hi hi2=>by
  obtain⟨r,f,h1,_⟩:=hcell i.toNat (by omega);simp only[gn,lkK];rw[h1]
  by_cases c:i<2
  ·rw[qf (show i.toNat<2 by omega),qf c];exact⟨rfl,rfl⟩
  ·rw[qb (show¬i.toNat<2 by omega),qb c];exact⟨rfl,rfl⟩
 have hvb:z2w (newK keys inn keys.length) (List.replicate p noPr)=true:=by
  have hk0:∀i:Nat,i<2->(cl (newK keys inn keys.length) i).key=⟨#[]⟩:=fun i hi=>by
   obtain⟨r,f,h1,_⟩:=hcell i (by omega);rw[h1,qf hi];rfl
  have h2:=h.two;have h4:=h.four;simp only[z2w,cellsK,qh,qk];refine⟨z3d.2 fun i hi=> ?_,⟨?_,z3d.2 fun i hi=> ?_⟩,z3d.2 fun i hi=> ?_⟩
  ·rw[noPr_at];decide
  ·simp only[headBad,hlen,Qk,hk0 0 (by omega),hk0 1 (by omega),sEq_iff,Ja,Qn,ji,qi,qg];omega
  ·rw[hlen] at hi;obtain⟨r,f,h1,h3,h5⟩:=hcell i hi;rw[qi];refine⟨?_,?_⟩
   ·have hok:okKey (cl (newK keys inn keys.length) i).key=true:=by
     by_cases c:i<2
     ·rw[hk0 i c];decide
     ·rw[h1,qb c];exact h.ok _ (by omega)
    simp only[badK,hok,qi,qg,Qn,hlen,Qk];rw[h1];have hz:(if i<2 then noCl else(⟨kAt keys (i-2),0,0,0,!bAt inn (i-2)⟩:Cl)).lock=0:=by split<;>rfl
    dsimp only;rw[hz];refine⟨⟨⟨⟨⟨⟨by omega,by omega⟩,by omega⟩,by omega⟩,by omega⟩,by omega⟩,trivial⟩
   ·rw[dupC]
    by_cases c:1<(i:Int)
    ·rw[qG c,Qb,z3d];intro q hq;rw[sameKey,sEq_iff,qg];obtain⟨r',f',g1,_⟩:=hcell (2+q) (by omega);have c1:¬i<2:=by omega
     have c2:¬2+q<2:=by omega
     rw[h1,g1,qb c1,qb c2];intro e;have:=kAt_inj2 h.nodup (by omega) (by omega) e;omega
    ·rw[qJ c,QH]
  ·rw[noPr_at,hlen];simp only[badQ,noPr,qi,qg];have e0:max (max (max (0:Int) 0) 0) 0=0:=by decide
   exact⟨⟨⟨by decide,qJ (show¬((keys.length+2:Nat):Int)<=max (max (max (0:Int) 0) 0) 0 by rw[e0];omega)⟩,by decide⟩,by decide⟩
 have hpw:(0::ordN keys inn keys.length).Pairwise fun x y=>z1l (z3o keys inn keys.length) x y=true:=by
  have hm:∀x∈srtR (ltK keys) (mems inn keys.length),2<=x/\x<keys.length+2:=fun x hx=>by
   obtain⟨j,hj,_,rfl⟩:=z59.1 ((srtR_mem _).1 hx);omega
  rw[Qu];refine⟨fun x hx=> ?_,?_⟩
  ·have:=ordN_mem hx;rw[z1p];exact⟨by omega,by omega,by omega,.inl rfl⟩
  ·rw[ordN,List.pairwise_append];refine⟨(srt_pw h.nodup keys.length (qd _)).imp_of_mem fun {x y} hx hy g=> ?_,List.pairwise_singleton ..,fun x hx y hy=> ?_⟩
   ·rw[lessC_cellK (hm x hx) (hm y hy)];exact g
   ·have:=hm x hx;rw[qL] at hy;subst hy;rw[z1p];exact⟨by omega,by omega,by decide,.inr (.inl rfl)⟩
 obtain⟨hseg,hlef⟩:=lnk2_seg (srtR (ltK keys) (mems inn keys.length)) (z3o keys inn keys.length) 0 (fun x hx=>by
  rcases qw.1 hx with e|e
  ·rw[e];exact h0
  ·exact hor x e) hpw
 have hseg':Seg (newK keys inn keys.length) 0 (ordN keys inn keys.length) 1:=hseg
 have hin2:∀i:Int,2<=i->i<keys.length+2->gn (newK keys inn keys.length) i=false->i∈ordN keys inn keys.length:=fun i h2 h3 hg=>by
  rw[(hin i (by omega) h3).1,qb (by omega),qq] at hg;rw[ordN,qR,srtR_mem];exact .inl (z59.2 ⟨i.toNat-2,by omega,hg,by omega⟩)
 have hng:∀i,i∈ordN keys inn keys.length->gn (newK keys inn keys.length) i=false:=fun i hi=>by
  have:=ordN_mem hi;rw[(hin i (by omega) (by omega)).1]
  split
  ·rfl
  ·rw[ordN,qR,srtR_mem,qL] at hi;rcases hi with hi|hi
   ·obtain⟨j,hj,hb,e⟩:=z59.1 hi;rw[show i.toNat-2=j by omega,hb];rfl
   ·omega
 have hTm:∀i,TT (newK keys inn keys.length) i->i∈0::ordN keys inn keys.length:=fun i hi=>by
  obtain⟨g1,g2,g3⟩:=hi;rw[hlen] at g2
  by_cases hm:i∈0::ordN keys inn keys.length
  ·exact hm
  ·exfalso
   have e:=(lnk2_off (ordN keys inn keys.length) (z3o keys inn keys.length) 0 i h0 hor g1).1 hm
   have e2:rt (z3o keys inn keys.length) i=0:=by
    simp only[rt];rw[cellK_at _ _ _ (by omega)]
    split<;>rfl
   rcases g3 with g3|g3
   ·subst g3;exact hm hseg'.ends
   ·have e3:rt (newK keys inn keys.length) i=0:=e.trans e2;rw[e3] at g3;exact(z1p.1 g3).2.2.1 rfl
 have hl2:2<=(newK keys inn keys.length).length:=by omega
 have hc0:Core (newK keys inn keys.length) (ordN keys inn keys.length):=by
  have hrng:∀i,i∈ordN keys inn keys.length->0<=i/\i<(newK keys inn keys.length).length:=fun i hi=>by have:=ordN_mem hi;omega
  refine⟨hseg',hl2,by rw[(hin 0 (by omega) (by omega)).1];rfl,by rw[(hin 1 (by omega) (by omega)).1];rfl,hrng,fun i hi h1=> ?_,fun i g1 g2 g3=>hin2 i g1 (by omega) g3⟩;have hm:=hTm i hi;obtain⟨A,B,e,hA,hB⟩:=hseg'.split hm
  cases B with
  |nil=>exact absurd hB h1
  |cons y B=>
   have hy:=hB.2.1;have hyl:y∈ordN keys inn keys.length:=by rw[e];exact Qg _ (qm ..)
   rw[hy];refine⟨(hrng y hyl).1,(hrng y hyl).2,?_⟩
   cases B with
   |nil=>exact .inl hB.2.2.2
   |cons z B=>exact .inr (by rw[hB.2.2.2.2.1];exact hB.2.2.2.2.2.1)
 refine⟨hvb,hc0,fun i hi hg=> ?_,fun i g0 gl q hq=> ?_,fun q hq ha=> ?_,fun i hi h1=> ?_⟩
 ·rw[hng i hi] at hg;cases hg
 ·rw[(hin i g0 (by omega)).2,noPr_at]
  constructor
  ·intro g;omega
  ·intro g;exact absurd g (by simp[hol,noPr,z48])
 ·rw[noPr_at] at ha;exact absurd ha (by decide)
 ·refine .inl (hlef i ?_);rcases qw.1 hi with e|e
  ·rw[e];exact qm ..
  ·rw[ordN,qR,qL] at e;rcases e with e|e
   ·exact qo _ e
   ·exact absurd e h1
end
section
theorem z3a:Tryz.prog.underlying 3=some (.int .i64):=by kernel_rfl
theorem Tryz.strUK:Tryz.prog.underlying 9=some .string:=by kernel_rfl
theorem Tryz.boolU:Tryz.prog.underlying 4=some .bool:=by kernel_rfl
theorem eqCl (a b:Cl):EqT prog 117 [.str a.key,.int .i64 a.left,.int .i64 a.right,.int .i64 a.lock,.bool a.gone] [.str b.key,.int .i64 b.left,.int .i64 b.right,.int .i64 b.lock,.bool b.gone]:=
 EqT.of [(false,9,0),(false,3,1),(false,3,2),(false,3,3),(false,4,4)] (by kernel_rfl) (by kernel_rfl) (by kernel_rfl) (by kernel_rfl)
  ⟨⟨rfl,rfl,by kernel_rfl,Tryz.strUK⟩,⟨rfl,rfl,by kernel_rfl,rfl,_,z3a⟩,⟨rfl,rfl,by kernel_rfl,rfl,_,z3a⟩,⟨rfl,rfl,by kernel_rfl,rfl,_,z3a⟩,⟨rfl,rfl,by kernel_rfl,Tryz.boolU⟩,trivial⟩
theorem eqPr (a b:Pr):EqT prog 110 [.int .i64 a.kind,.int .i64 a.cell,.int .i64 a.phase,.int .i64 a.pred,.int .i64 a.succ,.int .i64 a.next,.bool a.res] [.int .i64 b.kind,.int .i64 b.cell,.int .i64 b.phase,.int .i64 b.pred,.int .i64 b.succ,.int .i64 b.next,.bool b.res]:=
 EqT.of [(false,3,0),(false,3,1),(false,3,2),(false,3,3),(false,3,4),(false,3,5),(false,4,6)] (by kernel_rfl) (by kernel_rfl) (by kernel_rfl) (by kernel_rfl)
  ⟨⟨rfl,rfl,by kernel_rfl,rfl,_,z3a⟩,⟨rfl,rfl,by kernel_rfl,rfl,_,z3a⟩,⟨rfl,rfl,by kernel_rfl,rfl,_,z3a⟩,⟨rfl,rfl,by kernel_rfl,rfl,_,z3a⟩,⟨rfl,rfl,by kernel_rfl,rfl,_,z3a⟩,⟨rfl,rfl,by kernel_rfl,rfl,_,z3a⟩,⟨rfl,rfl,by kernel_rfl,Tryz.boolU⟩,trivial⟩
theorem ba_beqK (x y:ByteArray):(x==y)=decide (x=y):=by
 rw[<-sEq_iff,sEq,<-beq_toListBytes]
theorem eqL_cl (a b:Cl):eqL [.str a.key,.int .i64 a.left,.int .i64 a.right,.int .i64 a.lock,.bool a.gone] [.str b.key,.int .i64 b.left,.int .i64 b.right,.int .i64 b.lock,.bool b.gone]=decide (a=b):=by
 cases a;cases b
 rw[Qj];simp[eqL,eqS,ba_beqK]
theorem eqL_pr (a b:Pr):eqL [.int .i64 a.kind,.int .i64 a.cell,.int .i64 a.phase,.int .i64 a.pred,.int .i64 a.succ,.int .i64 a.next,.bool a.res] [.int .i64 b.kind,.int .i64 b.cell,.int .i64 b.phase,.int .i64 b.pred,.int .i64 b.succ,.int .i64 b.next,.bool b.res]=decide (a=b):=by
 cases a;cases b
 rw[Qj];simp[eqL,eqS]
theorem pr_ext {xs ys:List Pr}(hl:xs.length=ys.length)(h:∀q,q<xs.length->pr xs q=pr ys q):xs=ys:=by
 apply Qz hl;intro i h1 h2;have:=h i h1;rwa [pr_lt h1,pr_lt h2] at this
theorem LlUm.sdE {a:Prop}(h:a:=by first|exact D0.sdE|exact eqCl _ _|(intro _;exact eqCl _ _)|exact eqPr _ _|(intro _;exact eqPr _ _)):a:=h
open LlBm (oxE gxE exE)
open LlUm (sdE)
theorem same_spec (cs:List Cl)(ps:List Pr)(ds:List Cl)(qs:List Pr)(n m n' m':Nat)(hn:cs.length=n)(hm:ps.length=m)(hn':ds.length=n')(hm':qs.length=m')(hx:n<=9223372036854775807)(hy:m<=9223372036854775807):
  zf prog 54 [.agg [.slc false 0 0 0 n,.slc false 1 0 0 m],.agg [.slc false 2 0 0 n',.slc false 3 0 0 m']] ⟨4,[(0,inCl cs),(1,inPr ps),(2,inCl ds),(3,inPr qs)]⟩
   (fun s H1=>s= .bool (decide ((cs,ps)=(ds,qs)))/\H1=⟨4,[]⟩):=by
 subst hn hm hn' hm';refine zf.ofC false 59 [.tmp 4] func54 rfl rfl ntmps54 results54 rfl ?_;intro w0 own0 β0 Q hQ hQn;simp only[z18];refine Zrs [2,3] ?_;refine z6 ?_;refine Zrs [2,3,22] ?_;refine z7 _ rfl ?_ ?_
 ·intro h22;replace h22:=Znb h22;refine Zrs [4] ?_;refine zd (hQ _ _ ?_);rw[qJ (fun e=>by cases e;omega)];refine zb (H':=⟨4,[]⟩) (.inl rfl) ?_;refine Zou ?_;refine⟨Zs,(Zg id),Zs,?_⟩
  all_goals(first|trivial|exact⟨rfl,trivial⟩|exact⟨rfl,rfl⟩)
 ·intro h22;replace h22:=Znb h22;refine za (z6 ?_);refine Zrs [2,3,5] ?_;refine zc fun Q0 hN0 hX0 hR0 hE0=> ?_;refine zx (σ:=Nat) (fun i=>i<=cs.length/\∀q,q<i->cl cs q=cl ds q) (fun i=>cs.length-i) (fun i=>[(2,.ptr 4 0 0 0),(3,.ptr 5 0 0 0),(5,.int .i64 i)]) (fun _=>⟨6,[(5,lsBox 2 ds.length 3 qs.length),(4,lsBox 0 cs.length 1 ps.length),(0,inCl cs),(1,inPr ps),(2,inCl ds),(3,inPr qs)]⟩) 0 ⟨qp _,fun q h=>by omega⟩ (ρ:=id) (Zg id) ?_;rintro i hi QL1 hL1 hRL1 hEL1;refine z6 ?_;refine Zrs [2,3,5,27] ?_;refine z7 _ rfl ?_ ?_
  ·intro h27;replace h27:=Znb h27;obtain⟨hi1,hi2⟩:=hi;have hil:i<cs.length:=by omega
   refine za (z6 (zc fun Q1 hN1 hX1 hR1 hE1=> ?_));refine z6 ?_;refine Zrd [2,3,5,40] [0,1,2,3,4,5,6,7,8,9,10] [[],[],[],[],[],[],[],[],[],[],[]] [[],[],[],[],[],[],[],[],[],[],[]] ?_;intro K hK;iterate 11 (refine Zo (Zi [] []) ?_)
   rw[eqL_cl];repeat(with_reducible apply qe;exact sdE)
   refine z11 (Zpr (hK _ _ ?_));clear hK K;refine z7 _ rfl ?_ ?_
   ·intro h40;replace h40:=Znb h40;refine Zrs [4] ?_;refine zd (hR1 _ _ (hRL1 _ _ (hR0 _ _ (hQ _ _ ?_))));rw[qJ (fun e=>by cases e;exact h40 rfl)];refine zb (H':=⟨4,[]⟩) (.inl rfl) ?_;refine Zou ?_;refine⟨Zs,(Zg id),Zs,?_⟩
    all_goals(first|trivial|exact⟨rfl,trivial⟩|exact⟨rfl,rfl⟩)
   ·intro h40;replace h40:=Znb h40;refine za (ze (hN1 _ _ ?_));refine Zrg [2,3,5] ?_;refine ze (hL1 _ _ ?_);rw[show(i:Int)+1=((i+1:Nat):Int) from by omega];refine⟨i+1,⟨⟨by omega,fun q hq=> ?_⟩,by omega⟩,id,(Zg id)⟩
    by_cases e:q=i
    ·subst e;exact h40
    ·exact hi2 q (by omega)
  ·intro h27;replace h27:=Znb h27;obtain⟨hi1,hi2⟩:=hi;have hcd:cs=ds:=cl_ext (by omega) fun q hq=>hi2 q (by omega);refine zw (hEL1 _ _ _ (hX0 _ _ (z6 ?_)));refine Zrs [2,3,6] ?_;refine zc fun Q2 hN2 hX2 hR2 hE2=> ?_;refine zx (σ:=Nat) (fun i=>i<=ps.length/\∀q,q<i->pr ps q=pr qs q) (fun i=>ps.length-i) (fun i=>[(2,.ptr 4 0 0 0),(3,.ptr 5 0 0 0),(6,.int .i64 i)]) (fun _=>⟨6,[(5,lsBox 2 ds.length 3 qs.length),(4,lsBox 0 cs.length 1 ps.length),(0,inCl cs),(1,inPr ps),(2,inCl ds),(3,inPr qs)]⟩) 0 ⟨qp _,fun q h=>by omega⟩ (ρ:=id) (Zg id) ?_;rintro j hj QL2 hL2 hRL2 hEL2;refine z6 ?_;refine Zrs [2,3,6,45] ?_;refine z7 _ rfl ?_ ?_
   ·intro h45;replace h45:=Znb h45;obtain⟨hj1,hj2⟩:=hj;have hjl:j<ps.length:=by omega
    refine za (z6 (zc fun Q3 hN3 hX3 hR3 hE3=> ?_));refine z6 ?_;refine Zrd [2,3,6,58] [0,1,2,3,4,5,6,7,8,9,10] [[],[],[],[],[],[],[],[],[],[],[]] [[],[],[],[],[],[],[],[],[],[],[]] ?_;intro K hK;iterate 11 (refine Zo (Zi [] []) ?_)
    rw[eqL_pr];repeat(with_reducible apply qe;exact sdE)
    refine z11 (Zpr (hK _ _ ?_));clear hK K;refine z7 _ rfl ?_ ?_
    ·intro h58;replace h58:=Znb h58;refine Zrs [4] ?_;refine zd (hR3 _ _ (hRL2 _ _ (hR2 _ _ (hQ _ _ ?_))));rw[qJ (fun e=>by cases e;exact h58 rfl)];refine zb (H':=⟨4,[]⟩) (.inl rfl) ?_;refine Zou ?_;refine⟨Zs,(Zg id),Zs,?_⟩
     all_goals(first|trivial|exact⟨rfl,trivial⟩|exact⟨rfl,rfl⟩)
    ·intro h58;replace h58:=Znb h58;refine za (ze (hN3 _ _ ?_));refine Zrg [2,3,6] ?_;refine ze (hL2 _ _ ?_);rw[show(j:Int)+1=((j+1:Nat):Int) from by omega];refine⟨j+1,⟨⟨by omega,fun q hq=> ?_⟩,by omega⟩,id,(Zg id)⟩
     by_cases e:q=j
     ·subst e;exact h58
     ·exact hj2 q (by omega)
   ·intro h45;replace h45:=Znb h45;obtain⟨hj1,hj2⟩:=hj;have hpq:ps=qs:=pr_ext (by omega) fun q hq=>hj2 q (by omega);refine zw (hEL2 _ _ _ (hX2 _ _ ?_));refine Zrs [4] ?_;refine zd (hQ _ _ ?_);rw[qG (by rw[hcd,hpq])];refine zb (H':=⟨4,[]⟩) (.inl rfl) ?_;refine Zou ?_;refine⟨Zs,(Zg id),Zs,?_⟩
    all_goals(first|trivial|exact⟨rfl,trivial⟩|exact⟨rfl,rfl⟩)
def actN (ps:List Pr):Nat->Nat
 |0=>0
 |i+1=>actN ps i+if z48 (pr ps i) then 1 else 0
end
section
def sumN (f:Pr->Nat)(ps:List Pr):Nat->Nat
 |0=>0
 |i+1=>sumN f ps i+f (pr ps i)
theorem sumN_le {f g:Pr->Nat}{ps qs:List Pr}:∀{n:Nat},(∀i,i<n->g (pr qs i)<=f (pr ps i))->sumN g qs n<=sumN f ps n
 |0,_=>qd _
 |n+1,h=>by
  have h1:=sumN_le (n:=n) fun i hi=>h i (by omega);have h2:=h n (by omega);simp only[sumN];omega
theorem sumN_lt {f g:Pr->Nat}{ps qs:List Pr}{p:Nat}:∀{n:Nat},p<n->(∀i,i<n->i≠p->g (pr qs i)<=f (pr ps i))->g (pr qs p)+1<=f (pr ps p)->sumN g qs n+1<=sumN f ps n
 |n+1,hp,h,hl=>by
  simp only[sumN]
  by_cases e:p=n
  ·subst e;have h1:=sumN_le (f:=f) (g:=g) (ps:=ps) (qs:=qs) (n:=p) fun i hi=>h i (by omega) (by omega);omega
  ·have h1:=sumN_lt (n:=n) (by omega) (fun i hi=>h i (by omega)) hl;have h2:=h n (by omega) (by omega);omega
theorem sumN_set {f:Pr->Nat}{ps:List Pr}{p:Nat}{y:Pr}(hp:p<ps.length):∀{n:Nat},p<n->sumN f (ps.set p y) n+f (pr ps p)=sumN f ps n+f y
 |n+1,hn=>by
  simp only[sumN]
  by_cases e:p=n
  ·subst e
   have h1:∀k,k<=p->sumN f (ps.set p y) k=sumN f ps k:=fun k=>by
    induction k with
    |zero=>intro _;rfl
    |succ k ih=>intro hk;simp only[sumN];rw[ih (by omega),z2b (by omega)]
   rw[h1 p (qd _),z3i hp];omega
  ·have h1:=sumN_set (f:=f) (y:=y) hp (n:=n) (by omega);rw[z2b e];omega
theorem sumN_ge {f:Pr->Nat}{ps:List Pr}{i:Nat}:∀{n:Nat},i<n->f (pr ps i)<=sumN f ps n
 |n+1,h=>by
  simp only[sumN]
  by_cases e:i=n
  ·subst e;omega
  ·have:=sumN_ge (f:=f) (ps:=ps) (n:=n) (show i<n by omega);omega
def kw (x:Pr):Nat:=if z48 x=true/\(x.kind=1/\x.phase<=7\/x.kind=2/\x.phase<=11) then 1 else 0
def stl (cs:List Cl)(l:List Int)(x:Pr):Bool:=if x.phase=5 then true else decide (x.phase<=4) && !(decide (x.pred∈0::l) && rt cs x.pred==x.succ)
def rst (cs:List Cl)(x:Pr):Nat:=
 if x.phase=1 then meas cs x.succ+9 else if x.phase=2 then 8 else if x.phase=3 then 7 else if x.phase=4 then 6 else if x.phase=5\/x.phase=9 then 5
 else if x.phase=6\/x.phase=10 then 4 else if x.phase=7\/x.phase=11 then 3 else if x.phase=8\/x.phase=12 then 2 else 1
def phW (cs:List Cl)(l:List Int)(k:Nat)(x:Pr):Nat:=if z48 x then(k-kw x+(stl cs l x).toNat)*(cs.length+5)+rst cs x else 0
def phi (cs:List Cl)(ps:List Pr)(l:List Int):Nat:=sumN (phW cs l (sumN kw ps ps.length)) ps ps.length
theorem rst_le (cs:List Cl)(x:Pr):rst cs x<=cs.length+9:=by
 unfold rst;have:=meas_le cs x.succ;repeat' split
 all_goals omega
theorem rst_pos (cs:List Cl)(x:Pr):1<=rst cs x:=by
 unfold rst;repeat' split
 all_goals omega
theorem Seg.det {cs:List Cl}:∀{a:Int} {l m:List Int},Seg cs a l 1->Seg cs a m 1->l=m
 |_,[],[],_,_=>rfl
 |_,[],_::_,h,h'=>absurd h h'.1
 |_,_::_,[],h,h'=>absurd h' h.1
 |_,x::l,y::m,h,h'=>by
  have e:x=y:=h.2.1.symm.trans h'.2.1;subst e;rw[Seg.det h.2.2.2 h'.2.2.2]
theorem stl_same {cs ds:List Cl}{l:List Int}(h:∀i,i∈0::l->rt ds i=rt cs i)(x:Pr):stl ds l x=stl cs l x:=by
 unfold stl
 split
 ·rfl
 ·congr 2
  by_cases e:x.pred∈0::l
  ·rw[h _ e]
  ·simp[e]
theorem Inv.stale {cs:List Cl}{ps:List Pr}{l:List Int}(h:Inv cs ps l){p:Nat}(hp:p<ps.length)(ha:z48 (pr ps p)=true)(h4:(pr ps p).phase=4)(hk:(pr ps p).kind≠3)(hb:failK cs (pr ps p)=true):stl cs l (pr ps p)=true:=by
 have hP:=h.prc p hp ha;have hO:=(vld_of h.vb).proc p hp
 cases hs:stl cs l (pr ps p) with
 |true=>rfl
 |false=>
  exfalso
  unfold stl at hs;rw[qb (by omega),qG (by omega),Qb,qq,qh,qj,qy] at hs;obtain⟨hm,hr⟩:=hs;have h1:(pr ps p).pred≠1:=(z1p.1 hP.pl).2.1;have hsm:=(h.core.next_mem hm h1).1;rw[hr] at hsm
  have key:∀i,i∈l->hol (pr ps p) i=true->gn cs i=false:=fun i hi hh=>by
   cases hg:gn cs i with
   |false=>rfl
   |true=>
    exfalso
    obtain⟨q,q1,q2,q3⟩:=h.gin i hi hg;have qa:z48 (pr ps q)=true:=act_iff.2 ⟨by omega,by omega⟩;have hQ:=h.prc q q1 qa;obtain⟨k2,e2,_⟩:=hQ.r9 (by omega);have h5:=hol_succ (x:=pr ps q) (by omega) (by omega) (by omega);rw[e2,q3] at h5;have hr:=h.core.rng i hi;exact h.excl hp q1 (fun e=>by subst e;omega) hh h5 hr.1 hr.2
  have g2:=key _ hsm (hol_succ (by omega) (by omega) hk)
  have g1:gn cs (pr ps p).pred=false:=by
   rcases qw.1 hm with e|e
   ·rw[e];exact h.core.g0
   ·exact key _ e (hol_pred (by omega) (by omega) hk)
  rw[fail_iff.2 ⟨g1,g2,hr⟩] at hb
  cases hb
theorem Inv.rts {cs ds:List Cl}{ps:List Pr}{l:List Int}{y:Pr}(h:Inv cs ps l){p:Nat}(hp:p<ps.length)(ha:z48 (pr ps p)=true)(t:Tr cs p (pr ps p) ds y):
  z3w cs ds/\(((pr ps p).phase≠7/\(pr ps p).phase≠11/\∀i,i∈0::l->rt ds i=rt cs i)\/(pr ps p).phase=7/\y={pr ps p with phase:=8}\/(pr ps p).phase=11/\y={pr ps p with phase:=12}):=by
 have hv:=vld_of h.vb;have hx:=h.prc p hp ha;have ok:=hv.proc p hp;have h0:∀i,i∈0::l->0<=i:=fun i hi=>(h.core.rng0 hi).1
 cases t with
 |lockP e hf=>exact⟨key_setK ..,.inl ⟨by omega,by omega,fun i hi=>rt_setK ok.pred (h0 i hi)⟩⟩
 |lockS e hf=>exact⟨key_setK ..,.inl ⟨by omega,by omega,fun i hi=>rt_setK ok.succ (h0 i hi)⟩⟩
 |retry e=>exact⟨key_unlk ..,.inl ⟨by omega,by omega,fun i hi=>rt_unlk ..⟩⟩
 |rel e=>exact⟨key_unlk ..,.inl ⟨by omega,by omega,fun i hi=>rt_unlk ..⟩⟩
 |link0 e=>
  refine⟨(z58 ..).trans (z4c ..),.inl ⟨by omega,by omega,fun i hi=> ?_⟩⟩;obtain⟨k1,hl,hg,hr⟩:=hx.i67 (.inl e);have hm:=h.core.live ok.pred.1 ok.pred.2 (hx.gp (by omega) (by omega));have hn:=h.core.gap hm hx.pl (by rw[hr];exact hl);have hne:i≠(pr ps p).cell:=fun e=>hn (e ▸ hi);rw[rt_setR (by rw[z5a];exact ok.cell) (h0 i hi),qb hne,z37 ok.cell (h0 i hi)]
 |link1 e=>exact⟨(z4c ..).trans (key_setU ..),.inr (.inl ⟨e,rfl⟩)⟩
 |link2 e=>exact⟨z58 ..,.inl ⟨by omega,by omega,fun i hi=>z37 ok.succ (h0 i hi)⟩⟩
 |lockN e hf=>exact⟨key_setK ..,.inl ⟨by omega,by omega,fun i hi=>rt_setK (rt_in hv ok.cell.1 ok.cell.2) (h0 i hi)⟩⟩
 |un0 e=>exact⟨key_setG ..,.inl ⟨by omega,by omega,fun i hi=>rt_setG ok.cell (h0 i hi)⟩⟩
 |un1 e=>exact⟨z4c ..,.inr (.inr ⟨e,rfl⟩)⟩
 |un2 e=>exact⟨z58 ..,.inl ⟨by omega,by omega,fun i hi=>z37 ok.next (h0 i hi)⟩⟩
 |_=>exact⟨.refl _,.inl ⟨by omega,by omega,fun _ _=>rfl⟩⟩
theorem kw_step {cs ds:List Cl}{p:Nat}{x y:Pr}(t:Tr cs p x ds y)(ha:z48 x=true):kw y<=kw x:=by
 have h18:=act_iff.1 ha;unfold kw
 split
 ·rename_i g;rw[qf]
  ·omega
  ·refine⟨ha,?_⟩;have g1:=act_iff.1 g.1;have g2:=g.2
   cases t<;>dsimp only at g1 g2<;>omega
 ·omega
theorem rst_step {cs ds:List Cl}{ps:List Pr}{l:List Int}{y:Pr}(h:Inv cs ps l){p:Nat}(hp:p<ps.length)(ha:z48 (pr ps p)=true)(t:Tr cs p (pr ps p) ds y)(hr:∀i,i∈0::l->rt ds i=rt cs i)(hk:z3w cs ds)(hy:z48 y=true):
  ((stl ds l y)=true->stl cs l (pr ps p)=true)/\(stl ds l y).toNat*(cs.length+5)+rst cs y+1<=(stl cs l (pr ps p)).toNat*(cs.length+5)+rst cs (pr ps p):=by
 have hP:=h.prc p hp ha;have ht:∀b:Bool,b.toNat<=1:=fun b=>by cases b<;>decide
 have key:((stl ds l y)=true->stl cs l (pr ps p)=true)->rst cs y+1<=rst cs (pr ps p)->((stl ds l y)=true->stl cs l (pr ps p)=true)/\(stl ds l y).toNat*(cs.length+5)+rst cs y+1<=(stl cs l (pr ps p)).toNat*(cs.length+5)+rst cs (pr ps p):=fun h1 h2=>by
  refine⟨h1,?_⟩
  have:(stl ds l y).toNat<=(stl cs l (pr ps p)).toNat:=by
   cases e:stl ds l y with
   |false=>exact qp _
   |true=>rw[h1 e];exact qd _
  have:=qT (cs.length+5) this;omega
 have late:∀z:Pr,6<=z.phase->stl ds l z=false:=fun z hz=>by
  unfold stl;rw[qb (by omega),qJ (by omega),QH]
 have same:∀n:Int,n<=4->(pr ps p).phase<=4->stl ds l {pr ps p with phase:=n}=true->stl cs l (pr ps p)=true:=fun n hn h4 he=>by
  rw[stl_same hr] at he;unfold stl at he ⊢;rw[qb (by omega),qG h4];rw[qb (by show n≠5;omega),qG (by show n<=4;omega)] at he;exact he
 generalize hx:pr ps p=x at*
 have hlt:∀z:Pr,6<=z.phase->y=z->rst cs y+1<=rst cs x->((stl ds l y)=true->stl cs l x=true)/\(stl ds l y).toNat*(cs.length+5)+rst cs y+1<=(stl cs l x).toNat*(cs.length+5)+rst cs x:=fun z hz e h2=>
  key (fun e2=>by rw[e,late z hz] at e2;cases e2) h2
 cases t with
 |adv e hl=>
  have hs1:=(z1p.1 hl).2.1
  have hsl:z1l cs x.succ (rt cs x.succ)=true:=by
   rcases hP.sT.2.2 with g|g
   ·exact absurd g hs1
   ·exact g
  have h3:=h.core.clo _ hP.sT hs1;refine key (fun he=> ?_) ?_
  ·cases hs:stl cs l x with
   |true=>rfl
   |false=>
    exfalso
    unfold stl at hs he;rw[qb (by omega),qG (by omega),Qb,qq,qh,qj,qy] at hs;rw[qb (by show x.phase≠5;omega),qG (by show x.phase<=4;omega),Qb] at he;have h1:x.pred≠1:=(z1p.1 hP.pl).2.1;have hm:=(h.core.next_mem hs.1 h1).1;rw[hs.2] at hm;simp at he;exact absurd (by simpa using qo (0:Int) hm) (by simpa using he)
  ·have h4:=meas_lt ⟨h3.1,h3.2.1⟩ hsl;unfold rst;rw[qf (show x.phase=1 from e),qf e]
   show meas cs (rt cs x.succ)+9+1<=_
   omega
 |seek e hl hk3=>exact key (same 4 (by omega) (by omega)) (by simp only[rst,e];simp)
 |aim e hl hk3=>exact key (same 2 (by omega) (by omega)) (by simp only[rst,e];simp)
 |lockP e hf=>exact key (same 3 (by omega) (by omega)) (by simp[rst,e])
 |lockS e hf=>exact key (same 4 (by omega) (by omega)) (by simp[rst,e])
 |found e hk3=>exact absurd rfl (act_iff.1 hy).2
 |again e hk3 hb=>
  refine key (fun _=> ?_) (by simp[rst,e]);rw[<-hx];exact h.stale hp (by rw[hx];exact ha) (by rw[hx];exact e) (by rw[hx];exact hk3) (by rw[hx];exact hb)
 |ins e hk1 hb hs=>exact hlt _ (by show(6:Int)<=6;decide) rfl (by simp[rst,e])
 |rem e hk1 hb hs=>exact hlt _ (by show(6:Int)<=9;decide) rfl (by simp[rst,e])
 |no e hk1 hb h1 h2=>exact hlt _ (by show(6:Int)<=13;decide) rfl (by simp[rst,e])
 |retry e=>
  have h1:stl cs l x=true:=by unfold stl;rw[qf e]
  have h2:stl (unlk cs p) l {x with pred:=0,succ:=rt cs 0,phase:=1}=false:=by
   unfold stl;rw[qb (by show(1:Int)≠5;decide)];simp[rt_unlk]
  rw[h1,h2];refine⟨(fun e=>by cases e),?_⟩;have h3:rst cs {x with pred:=0,succ:=rt cs 0,phase:=1}=meas cs (rt cs 0)+9:=by unfold rst;rw[qf rfl]
  have h4:rst cs x=5:=by simp[rst,e]
  have:=meas_le cs (rt cs 0);rw[h3,h4];simp;omega
 |link0 e=>exact hlt _ (by show(6:Int)<=7;decide) rfl (by simp[rst,e])
 |link1 e=>exact hlt _ (by show(6:Int)<=8;decide) rfl (by simp[rst,e])
 |link2 e=>exact hlt _ (by show(6:Int)<=13;decide) rfl (by simp[rst,e])
 |lockN e hf=>exact hlt _ (by show(6:Int)<=10;decide) rfl (by simp[rst,e])
 |un0 e=>exact hlt _ (by show(6:Int)<=11;decide) rfl (by simp[rst,e])
 |un1 e=>exact hlt _ (by show(6:Int)<=12;decide) rfl (by simp[rst,e])
 |un2 e=>exact hlt _ (by show(6:Int)<=13;decide) rfl (by simp[rst,e])
 |rel e=>exact absurd rfl (act_iff.1 hy).2
theorem phi_step {cs ds:List Cl}{ps:List Pr}{l l':List Int}{y:Pr}(h:Inv cs ps l){p:Nat}(hp:p<ps.length)(ha:z48 (pr ps p)=true)(t:Tr cs p (pr ps p) ds y)(h':Inv ds (ps.set p y) l'):phi ds (ps.set p y) l'+1<=phi cs ps l:=by
 obtain⟨hk,hr⟩:=h.rts hp ha t;have hset:=sumN_set (f:=kw) (y:=y) hp hp;have hlen:(ps.set p y).length=ps.length:=qC;have hkw:=kw_step t ha;have hrr:∀x,rst ds x=rst cs x:=fun x=>by unfold rst;rw[hk.meas]
 have hpos:=rst_pos cs (pr ps p);have ht:∀b:Bool,b.toNat<=1:=fun b=>by cases b<;>decide
 have hge:kw (pr ps p)<=sumN kw ps ps.length:=sumN_ge hp;unfold phi;rw[hlen]
 generalize hK:sumN kw ps ps.length=K at*
 generalize hK':sumN kw (ps.set p y) ps.length=K' at*
 have hge2:∀q,q<ps.length->q≠p->kw (pr ps q)<=K':=fun q hq hqp=>by
  have:=sumN_ge (f:=kw) (ps:=ps.set p y) hq;rw[hK',z2b (Qv hqp)] at this;exact this
 have oth:∀q,(K'-kw (pr ps q)+(stl ds l' (pr ps q)).toNat<=K-kw (pr ps q)+(stl cs l (pr ps q)).toNat)->phW ds l' K' (pr ps q)<=phW cs l K (pr ps q):=fun q hle=>by
  unfold phW
  split
  ·rw[hk.len,hrr];have:=qT (cs.length+5) hle;omega
  ·exact qd _
 refine sumN_lt hp (fun q hq hqp=> ?_) ?_
 ·rw[z2b (Qv hqp)];refine oth q ?_;rcases hr with⟨h7,h11,hr⟩|hr
  ·have e:l'=l:=Seg.det h'.core.seg (h.core.seg.frame hk fun x hx _=>hr x hx);subst e;rw[stl_same hr];omega
  ·have h1:=hge2 q hq hqp;have h2:=ht (stl ds l' (pr ps q))
   have h3:kw y=0:=by
    rcases hr with⟨_,e⟩|⟨e1,e⟩
    ·subst e;unfold kw;rw[qb];rintro⟨_,g⟩;dsimp only at g;have:=(h.prc p hp ha).i67 (by omega);omega
    ·subst e;unfold kw;rw[qb];rintro⟨_,g⟩;dsimp only at g;have:=(h.prc p hp ha).r9 (by omega);omega
   have h4:kw (pr ps p)=1:=by
    unfold kw;rw[qf];refine⟨ha,?_⟩;rcases hr with⟨e1,e⟩|⟨e1,e⟩
    ·have:=(h.prc p hp ha).i67 (by omega);omega
    ·have:=(h.prc p hp ha).r9 (by omega);omega
   omega
 ·rw[z3i hp]
  by_cases hy:z48 y=true
  ·have e1:phW ds l' K' y=(K'-kw y+(stl ds l' y).toNat)*(cs.length+5)+rst cs y:=by simp[phW,hy,hk.len,hrr]
   have e2:phW cs l K (pr ps p)=(K-kw (pr ps p)+(stl cs l (pr ps p)).toNat)*(cs.length+5)+rst cs (pr ps p):=by simp[phW,ha]
   have e3:K'-kw y=K-kw (pr ps p):=by omega
   rw[e1,e2,e3,qV,qV];rcases hr with⟨h7,h11,hr⟩|hr
   ·have e:l'=l:=Seg.det h'.core.seg (h.core.seg.frame hk fun x hx _=>hr x hx);subst e;have:=(rst_step h hp ha t hr hk hy).2;omega
   ·have h1:stl ds l' y=false:=by
     unfold stl;rcases hr with⟨_,e⟩|⟨_,e⟩<;>subst e<;>rfl
    have h2:rst cs y+1<=rst cs (pr ps p):=by
     rcases hr with⟨e1,e⟩|⟨e1,e⟩
     ·have yp:y.phase=8:=by rw[e]
      simp[rst,e1,yp]
     ·have yp:y.phase=12:=by rw[e]
      simp[rst,e1,yp]
    rw[h1];have:(false.toNat)*(cs.length+5)=0:=by simp
    omega
  ·have e1:phW ds l' K' y=0:=by simp[phW,hy]
   have e2:phW cs l K (pr ps p)=(K-kw (pr ps p)+(stl cs l (pr ps p)).toNat)*(cs.length+5)+rst cs (pr ps p):=by simp[phW,ha]
   rw[e1,e2];omega
theorem kw_act {ps:List Pr}:∀n,sumN kw ps n<=actN ps n
 |0=>qd _
 |n+1=>by
  have:=kw_act (ps:=ps) n;simp only[sumN,actN]
  have h2:kw (pr ps n)<=if z48 (pr ps n) then 1 else 0:=by
   unfold kw;split
   ·rename_i g;rw[qf g.1];exact qd _
   ·exact qp _
  omega
end
section
theorem not_stale {cs:List Cl}{l:List Int}{x:Pr}(h4:x.phase<=4)(h:stl cs l x=false):x.pred∈0::l/\rt cs x.pred=x.succ:=by
 unfold stl at h;rw[qb (by omega),qG h4,Qb,qq,qh,qj,qy] at h;exact h
theorem Inv.gap_cell {cs:List Cl}{ps:List Pr}{l:List Int}(h:Inv cs ps l){p:Nat}(hp:p<ps.length)(ha:z48 (pr ps p)=true)(h4:(pr ps p).phase<=4)(hs:stl cs l (pr ps p)=false)(hl:z1l cs (pr ps p).succ (pr ps p).cell=false)(hne:(pr ps p).succ≠(pr ps p).cell):gn cs (pr ps p).cell=true:=by
 have hP:=h.prc p hp ha;have hO:=(vld_of h.vb).proc p hp;obtain⟨hm,hr⟩:=not_stale h4 hs;have h3:=(dst_of h.vb).total hO.succ hO.cell hne hl;have hn:=h.core.gap hm hP.pl (by rw[hr];exact h3)
 cases hg:gn cs (pr ps p).cell with
 |true=>rfl
 |false=>exact absurd (qo _ (h.core.inl _ hP.c2 hO.cell.2 hg)) hn
end
section
structure Own (cs:List Cl) (x:Pr):Prop where
 k:x.kind=1\/x.kind=2
 i1:x.kind=1->x.phase<=7->gn cs x.cell=true
 i2:x.kind=1->7<x.phase->gn cs x.cell=false
 r1:x.kind=2->x.phase<=10->gn cs x.cell=false
 r2:x.kind=2->10<x.phase->gn cs x.cell=true
theorem Own.same {cs ds:List Cl}{x z:Pr}(h:Own cs x)(hk:z.kind=x.kind)(hc:z.cell=x.cell)(hg:gn ds x.cell=gn cs x.cell)(h1:x.kind=1->(z.phase<=7↔x.phase<=7))(h2:x.kind=2->(z.phase<=10↔x.phase<=10)):Own ds z:=by
 refine⟨by rw[hk];exact h.k,fun k p=> ?_,fun k p=> ?_,fun k p=> ?_,fun k p=> ?_⟩
 ·rw[hc,hg];rw[hk] at k;exact h.i1 k ((h1 k).1 p)
 ·rw[hc,hg];rw[hk] at k;exact h.i2 k (by have:=h1 k;omega)
 ·rw[hc,hg];rw[hk] at k;exact h.r1 k ((h2 k).1 p)
 ·rw[hc,hg];rw[hk] at k;exact h.r2 k (by have:=h2 k;omega)
theorem Inv.gap_cell' {cs:List Cl}{ps:List Pr}{l:List Int}(h:Inv cs ps l){p:Nat}(hp:p<ps.length)(ha:z48 (pr ps p)=true)(e:(pr ps p).phase=4)(f1:gn cs (pr ps p).pred=false)(f3:rt cs (pr ps p).pred=(pr ps p).succ)(hl:z1l cs (pr ps p).succ (pr ps p).cell=false)(hne:(pr ps p).succ≠(pr ps p).cell):gn cs (pr ps p).cell=true:=by
 have hO:=(vld_of h.vb).proc p hp;have hm:=h.core.live hO.pred.1 hO.pred.2 f1;refine h.gap_cell hp ha (by omega) ?_ hl hne;unfold stl;rw[qb (by omega),qG (by omega),qG hm,f3];simp
theorem Tr.kind' {cs ds:List Cl}{p:Nat}{x y:Pr}(t:Tr cs p x ds y):y.kind=x.kind/\y.cell=x.cell/\y.phase≠0:=by
 cases t<;>refine⟨rfl,rfl,?_⟩<;>dsimp only<;>omega
theorem Own.step {cs ds:List Cl}{ps:List Pr}{l:List Int}{y:Pr}(h:Inv cs ps l){p:Nat}(hp:p<ps.length)(ha:z48 (pr ps p)=true)(t:Tr cs p (pr ps p) ds y)(ho:Own cs (pr ps p)):Own ds y:=by
 have hm:=(h.marks hp ha t).2;have hP:=h.prc p hp ha;have hO:=(vld_of h.vb).proc p hp;have hgap:=h.gap_cell' hp ha
 generalize pr ps p=x at*
 have k3:x.kind≠3:=by have:=ho.k;omega
 have c0:(0:Int)<=x.cell:=hO.cell.1
 have hgq:x.phase≠7->x.phase≠10->gn ds x.cell=gn cs x.cell:=fun h7 h10=>by
  rcases hm with a|a|a
  ·exact a.1 _ c0
  ·exact absurd a.1 h7
  ·exact absurd a.1 h10
 cases t with
 |adv e hl=>exact ho.same rfl rfl rfl (fun _=>QF) (fun _=>QF)
 |seek e hl hk=>exact absurd hk k3
 |aim e hl hk=>exact ho.same rfl rfl rfl (fun _=>by dsimp only;omega) (fun _=>by dsimp only;omega)
 |lockP e hf=>exact ho.same rfl rfl (hgq (by omega) (by omega)) (fun _=>by dsimp only;omega) (fun _=>by dsimp only;omega)
 |lockS e hf=>exact ho.same rfl rfl (hgq (by omega) (by omega)) (fun _=>by dsimp only;omega) (fun _=>by dsimp only;omega)
 |found e hk=>exact absurd hk k3
 |again e hk hb=>exact ho.same rfl rfl rfl (fun _=>by dsimp only;omega) (fun _=>by dsimp only;omega)
 |ins e hk hb hs=>exact ho.same rfl rfl rfl (fun _=>by dsimp only;omega) (fun k=>by omega)
 |rem e hk hb hs=>exact ho.same rfl rfl rfl (fun k=>by omega) (fun _=>by dsimp only;omega)
 |no e hk hb h1 h2=>
  exfalso
  obtain⟨f1,f2,f3⟩:=fail_iff.1 hb;rcases ho.k with k|k
  ·have:=ho.i1 k (by omega);rw[<-h1 k,f2] at this;cases this
  ·have g1:=ho.r1 k (by omega);have g2:=hgap e f1 f3 (hP.ge (by omega)) (h2 k);rw[g1] at g2;cases g2
 |retry e=>exact ho.same rfl rfl (hgq (by omega) (by omega)) (fun _=>by dsimp only;omega) (fun _=>by dsimp only;omega)
 |link0 e=>exact ho.same rfl rfl (hgq (by omega) (by omega)) (fun _=>by dsimp only;omega) (fun _=>by dsimp only;omega)
 |link1 e=>
  have k1:=(hP.i67 (.inr e)).1;rcases hm with a|a|a
  ·exact absurd e a.2.1
  ·have:=a.2.2.2.2 _ c0;rw[qf rfl] at this;refine⟨.inl k1,fun _ g=> ?_,fun _ _=>this,fun k=> ?_,fun k=> ?_⟩
   ·dsimp only at g;omega
   ·dsimp only at k;omega
   ·dsimp only at k;omega
  ·omega
 |link2 e=>
  have k1:=(hP.i8 e).1;exact ho.same rfl rfl (hgq (by omega) (by omega)) (fun _=>by dsimp only;omega) (fun k=>by omega)
 |lockN e hf=>exact ho.same rfl rfl (hgq (by omega) (by omega)) (fun k=>by have:=(hP.r9 (.inl e)).1;omega) (fun _=>by dsimp only;omega)
 |un0 e=>
  have k2:=(hP.r9 (.inr (.inl e))).1;rcases hm with a|a|a
  ·exact absurd e a.2.2.1
  ·omega
  ·have:=a.2.2.2.2 _ c0;rw[qf rfl] at this;refine⟨.inr k2,fun k=> ?_,fun k=> ?_,fun _ g=> ?_,fun _ _=>this⟩
   ·dsimp only at k;omega
   ·dsimp only at k;omega
   ·dsimp only at g;omega
 |un1 e=>exact ho.same rfl rfl (hgq (by omega) (by omega)) (fun _=>by dsimp only;omega) (fun _=>by dsimp only;omega)
 |un2 e=>exact ho.same rfl rfl (hgq (by omega) (by omega)) (fun _=>by dsimp only;omega) (fun _=>by dsimp only;omega)
 |rel e=>exact ho.same rfl rfl (hgq (by omega) (by omega)) (fun _=>by dsimp only;omega) (fun _=>by dsimp only;omega)
theorem Inv.off {cs ds:List Cl}{ps:List Pr}{l:List Int}{y:Pr}(h:Inv cs ps l){p:Nat}(hp:p<ps.length)(ha:z48 (pr ps p)=true)(t:Tr cs p (pr ps p) ds y){i:Int}(hi:0<=i)(hne:i≠(pr ps p).cell):gn ds i=gn cs i:=by
 rcases(h.marks hp ha t).2 with a|a|a
 ·exact a.1 i hi
 ·rw[a.2.2.2.2 i hi,qb hne]
 ·rw[a.2.2.2.2 i hi,qb hne]
theorem Own.off {cs ds:List Cl}{x:Pr}(h:Own cs x)(hg:gn ds x.cell=gn cs x.cell):Own ds x:=h.same rfl rfl hg (fun _=>QF) (fun _=>QF)
theorem Own.start {cs:List Cl}{k c s:Int}(h:k=1\/k=2)(hg:gn cs c=(k==1)):Own cs ⟨k,c,1,0,s,0,false⟩:=by
 refine⟨h,fun e _=> ?_,fun _ g=> ?_,fun e _=> ?_,fun _ g=> ?_⟩
 ·dsimp only at e ⊢;rw[hg,e];rfl
 ·dsimp only at g;omega
 ·dsimp only at e ⊢;rw[hg,e];rfl
 ·dsimp only at g;omega
def phiE (cs:List Cl)(ps:List Pr)(l:List Int)(e:Nat):Nat:=phi cs ps l+e*actN ps ps.length*(cs.length+5)
theorem actN_set_le {ps:List Pr}{p:Nat}{y:Pr}(hp:p<ps.length)(ha:z48 (pr ps p)=true):∀n,actN (ps.set p y) n<=actN ps n
 |0=>qd _
 |n+1=>by
  have ih:=actN_set_le (y:=y) hp ha n;simp only[actN]
  by_cases e:p=n
  ·subst e;rw[ha,qf rfl]
   split<;>omega
  ·rw[z2b e];omega
theorem actN_start {ps:List Pr}{p:Nat}{y:Pr}(hp:p<ps.length)(ha:z48 (pr ps p)=false)(hy:z48 y=true):∀n,actN (ps.set p y) n=actN ps n+if p<n then 1 else 0
 |0=>rfl
 |n+1=>by
  have ih:=actN_start hp ha hy n;simp only[actN]
  by_cases e:p=n
  ·subst e;rw[ha,z3i hp,hy,ih,qb (jQ _),qf (Qm _)];simp
  ·rw[z2b e,ih]
   by_cases g:p<n
   ·rw[qf g,qf (show p<n+1 by omega)];omega
   ·rw[qb g,qb (show¬p<n+1 by omega)];omega
theorem phiE_step {cs ds:List Cl}{ps:List Pr}{l l':List Int}{y:Pr}(h:Inv cs ps l){p:Nat}(hp:p<ps.length)(ha:z48 (pr ps p)=true)(t:Tr cs p (pr ps p) ds y)(h':Inv ds (ps.set p y) l')(e:Nat):phiE ds (ps.set p y) l' e+1<=phiE cs ps l e:=by
 have h1:=phi_step h hp ha t h';have h2:ds.length=cs.length:=(h.marks hp ha t).1.len;have h3:=actN_set_le (y:=y) hp ha ps.length;unfold phiE;rw[h2,qC];have:=qT (cs.length+5) (Jb e h3);omega
theorem kw_start {ps:List Pr}{p:Nat}{y:Pr}(hp:p<ps.length)(ha:z48 (pr ps p)=false):∀n,sumN kw (ps.set p y) n=sumN kw ps n+if p<n then kw y else 0
 |0=>rfl
 |n+1=>by
  have ih:=kw_start (y:=y) hp ha n;simp only[sumN]
  by_cases e:p=n
  ·subst e;have:kw (pr ps p)=0:=by unfold kw;rw[qb (fun g=>by rw[ha] at g;cases g.1)]
   rw[z3i hp,this,ih,qb (jQ _),qf (Qm _)]
  ·rw[z2b e,ih]
   by_cases g:p<n
   ·rw[qf g,qf (show p<n+1 by omega)];omega
   ·rw[qb g,qb (show¬p<n+1 by omega)];omega
theorem phiE_start {cs:List Cl}{ps:List Pr}{l:List Int}(h:Inv cs ps l){p:Nat}(hp:p<ps.length)(ha:z48 (pr ps p)=false){k c:Int}(hk:k=1\/k=2)(e:Nat):
  phiE cs (ps.set p ⟨k,c,1,0,(cl cs 0).right,0,false⟩) l e<=phiE cs ps l (e+1)+(actN ps ps.length+e)*(cs.length+5)+cs.length+9:=by
 obtain⟨y,hy⟩:∃y:Pr,y=⟨k,c,1,0,(cl cs 0).right,0,false⟩:=⟨_,rfl⟩;rw[<-hy];have hya:z48 y=true:=by subst hy;rfl
 have hyk:kw y=1:=by
  unfold kw;rw[qf];subst hy;refine⟨rfl,?_⟩;dsimp only;omega
 have hys:stl cs l y=false:=by
  subst hy;unfold stl;rw[qb (show¬(1:Int)=5 by decide)];simp[rt]
 have hK:=kw_start (y:=y) hp ha ps.length;have hA:=actN_start hp ha hya ps.length;rw[qf hp,hyk] at hK;rw[qf hp] at hA;unfold phiE phi;rw[qC,hK,hA]
 generalize hL:cs.length+5=L at*
 have hka:=kw_act (ps:=ps) ps.length
 generalize sumN kw ps ps.length=K at*
 have each:∀n,n<=ps.length->sumN (phW cs l (K+1)) (ps.set p y) n<=sumN (phW cs l K) ps n+actN ps n*L+if p<n then K*L+cs.length+9 else 0:=fun n=>by
  induction n with
  |zero=>intro _;simp[sumN,actN]
  |succ n ih=>
   intro hn;have ih:=ih (by omega);simp only[sumN,actN]
   by_cases g:p=n
   ·subst g
    have h1:phW cs l (K+1) y=K*L+rst cs y:=by
     unfold phW;rw[qf hya,hyk,hys,hL,Nat.add_sub_cancel];rfl
    have h2:=rst_le cs y;rw[qb (jQ _)] at ih;rw[z3i hp,h1,qf (Qm _),ha];simp only[qF,Qw,QR];omega
   ·rw[z2b g]
    have h1:phW cs l (K+1) (pr ps n)<=phW cs l K (pr ps n)+(if z48 (pr ps n) then 1 else 0)*L:=by
     unfold phW
     split
     ·rw[hL,jp];have:=qT L (show K+1-kw (pr ps n)+(stl cs l (pr ps n)).toNat<=(K-kw (pr ps n)+(stl cs l (pr ps n)).toNat)+1 by omega);rw[qV _ 1,jp] at this;omega
     ·simp
    rw[qV (actN ps n)]
    by_cases g2:p<n
    ·rw[qf g2] at ih;rw[qf (show p<n+1 by omega)];omega
    ·rw[qb g2] at ih;rw[qb (show¬p<n+1 by omega)];omega
 have h1:=each ps.length (qd _);rw[qf hp] at h1
 generalize actN ps ps.length=A at*
 have e1:e*(A+1)*L=e*A*L+e*L:=by rw[Nat.mul_add,qV,JJ]
 have e2:(e+1)*A*L=e*A*L+A*L:=by rw[qV e 1,qV,jp]
 have e3:(A+e)*L=A*L+e*L:=qV ..;have e4:K*L<=A*L:=qT _ hka;rw[e1,e2,e3];omega
end
end Go.Proofs
namespace Go.Sk
open Go.RowKit Go.Lib
theorem zf.ext {P:Program}{f:FuncId}{args:List SV}{H0:AH}{R:SV->AH->Prop}{e:Array Value->Sem Value}(hrun:∀as1 w,(callFunc f as1).run P w=((e as1).run P w).andThen fun v w'=> .ok (.value v) w')
  (h:∀(X:Cx) (β:Env) (w:World) (vs:List Value),X.P=P->X.m0=H0.nxt->St X β H0 w->z2g β args vs->SV.ltL H0.nxt args->
   ∃v w',(e vs.toArray).run P w= .ok v w'/\∃β' s H',R s H'/\OwnAll H0 H'.os/\den β' s v/\s.lt H'.nxt/\St X β' H' w'):zf P f args H0 R:=by
 intro X β w vs hP hm hw hβ ho hS hd hl;obtain⟨v,w',h1,h2⟩:=h X β w vs hP hm hS hd hl;refine .inr ⟨v,w',?_,v,rfl,h2⟩;rw[hrun,h1];rfl
section
variable {P:Program} {f:FuncId}
theorem valueOf_spec (hrun:∀as1 w,(callFunc f as1).run P w=((Extern.ReflectliteValue.unpack (as1.getD 0 (.tuple #[]))).run P w).andThen fun v w'=> .ok (.value v) w')
  (t e:TypeId) (i:TypeInfo) (hi:P.info? t=some i) (hd:i.desc= .slice e) (g:Bool) (o n:Nat):
  zf P f [.ifc t (.slc g 0 0 o n)] ⟨1,[]⟩ (fun s H1=>s= .agg [.raw (Go.typeHandle P t),.ptr 1 0 0 0,.int .u64 151]/\H1=⟨2,[(1,uQ (.row ⟨true,true,t,1,1,fun _=>[.slc g 0 0 o n]⟩))]⟩):=by
 refine zf.ext (e:=fun as1=>Extern.ReflectliteValue.unpack (as1.getD 0 (.tuple #[]))) hrun fun X β w vs hP hm hS hdl hl=> ?_;subst hP;simp only[z2g,den] at hdl;obtain⟨v0,r0,⟨u,hu,rfl⟩,rfl,rfl⟩:=hdl;obtain⟨a,c,rfl,hc⟩:=z3u hu;have hr:=run_valueOf_slice (P:=X.P) t e i hi hd a n c w;refine⟨_,_,hr,?_⟩
 have hA:=aft_new (X:=X) (β:=β) (H:=⟨1,[]⟩) (w:=w) (e:=t) (var:=true) (sz:=1) (n:=1) (f:=fun _=>[.slc g 0 0 o n]) (cs:=[.slc g 0 0 o n]) (vs:=[.slice a n c]) (s:= .agg [.raw (Go.typeHandle X.P t),.ptr 1 0 0 0,.int .u64 151])
  (v:= .agg #[Go.typeHandle X.P t,.pointer (some ⟨w.heap.size,0,none⟩),.int .u64 151]) (k:=fun s H1=>s= .agg [.raw (Go.typeHandle X.P t),.ptr 1 0 0 0,.int .u64 151]/\H1=⟨2,[(1,uQ (.row ⟨true,true,t,1,1,fun _=>[.slc g 0 0 o n]⟩))]⟩)
  hS (by simp) (by simp[maxLen]) ⟨_,[],by simp only[den];exact hu,rfl,rfl⟩ (by simp[SV.ltL,SV.lt]) (fun s hs=>by simp at hs;subst hs;rfl) (one_row _) (fun β' hb=>by
   simp only[den]
   exact⟨_,⟨_,_,rfl,⟨_,_,by simp only[den];exact⟨_,hb,by simp⟩,⟨_,_,rfl,rfl,rfl⟩,rfl⟩,rfl⟩,rfl⟩) (by simp[SV.lt,SV.ltL]) ⟨rfl,rfl⟩
 obtain⟨β',s,H1,⟨rfl,rfl⟩,h2,h3,h4,_⟩:=hA;exact⟨β',_,_,⟨rfl,rfl⟩,fun x hx=>by simp at hx;subst hx;exact⟨fun _=>rfl,.inl (qd _)⟩,h2,h3,by simpa using h4⟩
theorem valueLen_spec (hrun:∀as1 w,(callFunc f as1).run P w=((Extern.ReflectliteValue.method (Extern.ReflectliteValue.valueError "reflectlite.Value.Len" 0) Extern.ReflectliteValue.len as1).run P w).andThen fun v w'=> .ok (.value v) w')
  (t e:TypeId) (i:TypeInfo) (hi:P.info? t=some i) (hd:i.desc= .slice e) (hpk:P.packed t=false) (g:Bool) (o n:Nat):
  zf P f [.agg [.raw (Go.typeHandle P t),.ptr 1 0 0 0,.int .u64 151]] ⟨2,[(1,uQ (.row ⟨false,true,t,1,1,fun _=>[.slc g 0 0 o n]⟩))]⟩ (fun s H1=>s= .int .i64 n/\H1=⟨2,[]⟩):=by
 refine zf.ext (e:=Extern.ReflectliteValue.method (Extern.ReflectliteValue.valueError "reflectlite.Value.Len" 0) Extern.ReflectliteValue.len) hrun fun X β w vs hP hm hS hdl hl=> ?_
 subst hP;simp only[z2g,den] at hdl;obtain⟨v0,r0,⟨us,⟨u0,l0,rfl,⟨u1,l1,⟨L,hL,rfl⟩,⟨u2,l2,rfl,rfl,rfl⟩,rfl⟩,rfl⟩,rfl⟩,rfl,rfl⟩:=hdl;obtain⟨L1,hb,_,_,_,hcell⟩:=hS.cellsAt (id:=1) (kk:=0) (r:=⟨false,true,t,1,1,fun _=>[.slc g 0 0 o n]⟩) (i:=0) rfl (by simp);rw[hL] at hb
 cases hb
 obtain⟨_,_,v,hv,hdv⟩:=hcell 0 _ rfl;simp only[den] at hdv;obtain⟨a,c,rfl,hc⟩:=z3u hdv;have hr:=run_valueLen_slice (P:=X.P) t e i hi hd hpk ⟨L.blk,L.off+0*L.sz+0,none⟩ a n c w hv;refine⟨_,_,hr,β,_,⟨2,[]⟩,⟨rfl,rfl⟩,fun x hx=>(by cases hx),rfl,trivial,?_⟩
 exact St.less hS rfl (fun id k o h=>by simp[look,find] at h) (fun id k o h1 h2 h3=>by
  exfalso
  obtain⟨cc,F,hf,hk,rfl⟩:=z1g h2;simp only[find,uQ] at hf
  split at hf
  ·cases hf;cases h3
  ·cases hf)
theorem swapper_spec (hrun:∀as1 w,(callFunc f as1).run P w=((Extern.ReflectliteSwapper.swapper "internal/reflectlite" (Extern.ReflectliteValue.valueError "Swapper") as1).run P w).andThen fun v w'=> .ok (.value v) w')
  (t e:TypeId) (i ie:TypeInfo) (hi:P.info? t=some i) (hd:i.desc= .slice e) (hie:P.info? e=some ie) (ke:Nat) (hke:∀w,(Extern.Rtype.kind e).run P w= .ok ke w) (g:Bool) (o n:Nat)
  (q:Nat) (hq:P.funcs.findIdx? (·.name== "internal/reflectlite" ++ ".Swapper$" ++toString (swapperK n ie ke))=some q):
  zf P f [.ifc t (.slc g 0 0 o n)] ⟨1,[]⟩ (fun s H1=>s= .fn q (if swapperK n ie ke<=2 then [] else [.slc g 0 0 o n,.raw (Go.typeHandle P e)])/\H1=⟨1,[]⟩):=by
 refine zf.ext (e:=Extern.ReflectliteSwapper.swapper "internal/reflectlite" (Extern.ReflectliteValue.valueError "Swapper")) hrun fun X β w vs hP hm hS hdl hl=> ?_
 subst hP;simp only[z2g,den] at hdl;obtain⟨v0,r0,⟨u,hu,rfl⟩,rfl,rfl⟩:=hdl;obtain⟨a,c,rfl,hc⟩:=z3u hu;have hr:=run_swapper_slice (P:=X.P) t e i ie hi hd hie ke hke a n c q hq w;refine⟨_,_,hr,β,_,_,⟨rfl,rfl⟩,fun x hx=>(by cases hx),?_,?_,hS⟩
 ·split
  ·simp only[den];exact⟨[],rfl,rfl⟩
  ·simp only[den];exact⟨_,⟨_,_,by simp only[den];exact hu,⟨_,_,rfl,rfl,rfl⟩,rfl⟩,rfl⟩
 ·split
  ·simp[SV.lt,SV.ltL]
  ·simp[SV.lt,SV.ltL]
def swapF (h:Nat->List SV)(i j:Nat):Nat->List SV:=fun q=>if q=j then h i else if q=i then h j else h q
theorem swap_spec (gs:Bool)(hrun:∀as1 w,(callFunc f as1).run P w=((Extern.ReflectliteSwapper.swap gs as1).run P w).andThen fun v w'=> .ok (.value v) w')
  (e:TypeId) (sz:Nat) (hok:(z1m P e).ok=true) (hag:(z1m P e).kd.agg=true) (hsz:(z1m P e).size=sz) (hsz2:z28 P e=sz) (h0:sz≠0) (n:Nat) (h:Nat->List SV) (i j:Nat) (hi:i<n) (hj:j<n) (hij:i≠j):
  zf P f [.int .i64 i,.int .i64 j,.slc true 0 0 0 n,.raw (Go.typeHandle P e)] ⟨1,[(0,uQ (.row ⟨true,false,e,sz,n,h⟩))]⟩
   (fun s H1=>s= .tup []/\H1=⟨1,[(0,uQ (.row ⟨true,false,e,sz,n,swapF h i j⟩))]⟩):=by
 refine zf.ext (e:=Extern.ReflectliteSwapper.swap gs) hrun fun X β w vs hP hm hS hdl hl=> ?_;subst hP;simp only[z2g,den] at hdl;obtain⟨v0,r0,rfl,⟨v1,r1,rfl,⟨v2,r2,hu,⟨v3,r3,rfl,rfl,rfl⟩,rfl⟩,rfl⟩,rfl⟩:=hdl;obtain⟨L,c,hb,rfl⟩:=z4o hu (by omega);have hlk:look [(0,uQ (Obj.row ⟨true,false,e,sz,n,h⟩))] 0 0=some (.row ⟨true,false,e,sz,n,h⟩):=rfl;have hcl:=fun q (hq:q<n)=>hS.cellsAt (id:=0) (kk:=0) (r:=⟨true,false,e,sz,n,h⟩) (i:=q) hlk hq;have hlen:∀q,q<n->(h q).length=sz:=fun q hq=>by obtain⟨_,_,_,_,h5,_⟩:=hcl q hq;exact h5
 have hsc:∀q,q<n->(h q).all SV.scalar=true:=fun q hq=>qt.2 fun s hs=>by
  obtain⟨_,_,_,_,_,h6⟩:=hcl q hq;obtain⟨y,hy⟩:=Qp hs;exact(h6 y s hy).1
 have hlt:∀q,q<n->SV.ltL 1 (h q):=fun q hq=>SV.ltL_of_get fun y s hs=>by
  obtain⟨_,_,_,_,_,h6⟩:=hcl q hq;exact(h6 y s hs).2.1
 have hLsz:L.sz=sz:=by
  obtain⟨L',hb',_,h3,_⟩:=hcl i hi;rw[hb] at hb';cases hb';exact h3
 --what lies at an element,read
 have rd:∀q,q<n->∃v,den β (.agg (h q)) v/\(loadVar e ⟨L.blk,L.off+q*sz,none⟩).run X.P w= .ok v w:=fun q hq=>by
  obtain⟨s',hk,hs⟩:=loadK_ok (W:=[]) (G:=true) (t:=e) (s:= .ptr 0 0 q 0) (v:= .pointer (some ⟨L.blk,L.off+q*L.sz+0,none⟩)) (k:=fun s=>s= .agg (h q)) hS (by
   simp only[loadK,find,uQ,↓reduceIte,hag,hsz];refine⟨fun _=>⟨by omega,hq,rfl,hok⟩,fun _=>by omega,?_⟩
   rw[jX,Qo (by rw[hlen q hq];exact qd _)]) (fun _=>by simp only[den];exact⟨L,hb,rfl⟩)
  subst hk;obtain⟨_,v,hv,hr⟩:=hs rfl;have:=hr w (Kp.refl _ _);rw[hLsz] at this;exact⟨v,hv,by simpa [Instr.loadAt,Instr.sureAddr] using this⟩
 obtain⟨x,hx,rx⟩:=rd i hi;obtain⟨y,hy,ry⟩:=rd j hj
 have spl0:∀q q',q<n->q'<n->spl (h q) 0 (h q')=h q':=fun q q' hq hq'=>by
  unfold spl;rw[jJ,jq,QE,List.drop_eq_nil_of_le (by rw[hlen q hq,hlen q' hq'];exact qd _),jg]
 --the first store
 obtain⟨w1,s1,⟨β1,sv1,H1,hk1,_,_,hS1,hag1,_,_⟩,_⟩:=storeK_ok (dr:=false) (W:=[]) (t:=e) (sa:= .ptr 0 0 i 0) (sv:= .agg (h j)) (va:= .pointer (some ⟨L.blk,L.off+i*L.sz+0,none⟩)) (vv:=y)
  (k:=fun _ H1=>H1=⟨1,[(0,uQ (.row ⟨true,false,e,sz,n,fun q=>if q=i then h j else h q⟩))]⟩) hS (by
   simp only[storeK,find,uQ,↓reduceIte,SV.cells,okCells];refine⟨⟨trivial,by omega,hi,by simp,by simp,trivial,hsc j hj,by rw[hlen j hj,hsz2],by omega,by rw[hlen j hj];omega⟩,?_⟩;rw[spl0 i j hi hj]
   simp[setO,updF]) (by simp only[den];exact⟨L,hb,rfl⟩) hy (by simp only[SV.lt];exact hlt j hj)
 subst hk1;have hb1:β1 0 0=some L:=by rw[hag1 0 0 (by show(0:Nat)<1;omega)];exact hb
 have hx1:den β1 (.agg (h i)) x:=z5n hag1 _ _ (by simp only[SV.lt];exact hlt i hi) hx
 --the second store
 obtain⟨w2,s2,⟨β2,sv2,H2,hk2,_,_,hS2,_,_,_⟩,_⟩:=storeK_ok (dr:=false) (W:=[]) (t:=e) (sa:= .ptr 0 0 j 0) (sv:= .agg (h i)) (va:= .pointer (some ⟨L.blk,L.off+j*L.sz+0,none⟩)) (vv:=x)
  (k:=fun _ H1=>H1=⟨1,[(0,uQ (.row ⟨true,false,e,sz,n,swapF h i j⟩))]⟩) hS1 (by
   simp only[storeK,find,uQ,↓reduceIte,SV.cells,okCells];refine⟨⟨trivial,by omega,hj,by simp,by simp,trivial,hsc i hi,by rw[hlen i hi,hsz2],by omega,by rw[hlen i hi];omega⟩,?_⟩;have:(if j=i then h j else h j)=h j:=by split<;>rfl
   rw[this,spl0 j i hj hi];simp[setO,updF]
   rfl) (by simp only[den];exact⟨L,hb1,rfl⟩) hx1 (by simp only[SV.lt];exact hlt i hi)
 subst hk2;obtain⟨ti,hti,hti2⟩:=z42 (P:=X.P) (t:=e) (by omega);have ez:ti.size=sz:=by omega
 have st1:(storeVar e ⟨L.blk,L.off+i*sz,none⟩ y).run X.P w= .ok () w1:=by rw[hLsz] at s1;simpa [Instr.storeAt,Instr.sureAddr] using s1
 have st2:(storeVar e ⟨L.blk,L.off+j*sz,none⟩ x).run X.P w1= .ok () w2:=by rw[hLsz] at s2;simpa [Instr.storeAt,Instr.sureAddr] using s2
 have hh:(Extern.Rtype.ofHandle (Go.typeHandle X.P e)).run X.P w= .ok e w:=by simp[Extern.Rtype.ofHandle,handleType,typeHandle,Result.andThen]
 refine⟨.tuple #[],w2,?_,β2,.tup [],_,⟨rfl,rfl⟩,fun z hz=> ?_,by simp only[den];exact⟨[],rfl,rfl⟩,trivial,hS2⟩
 ·have e1:([Value.int .i64 i,.int .i64 j,.slice (some ⟨L.blk,L.off+0*L.sz,none⟩) n c,Go.typeHandle X.P e].toArray)= #[Value.int .i64 i,.int .i64 j,.slice (some ⟨L.blk,L.off,none⟩) n c,Go.typeHandle X.P e]:=by simp
  rw[e1,rl_swap];have n1:¬((i:Int)<0):=by omega
  have n2:¬((j:Int)<0):=by omega
  have n3:¬((n:Int)<=(i:Int)):=by omega
  have n4:¬((n:Int)<=(j:Int)):=by omega
  cases gs<;>simp[hi,hj,n1,n2,n3,n4,hh,Extern.ReflectliteSwapper.exchange,z1x hti,ez,z3y,rx,ry,st1,st2,Result.andThen]
 ·simp at hz;subst hz;exact⟨fun _=>rfl,.inr ⟨_,qm ..,rfl,rfl,rfl⟩⟩
end
end Go.Sk
namespace Go.Proofs
open Tryz
open Go.Sk
theorem Tryz.tyLs:z1m prog 183=⟨true,.struct,2,16,[(0,some false,1),(1,some false,1)]⟩:=by kernel_rfl
theorem Tryz.szLs:z28 prog 183=2:=by kernel_rfl
theorem Tryz.szNodes:z28 prog 23=1:=by kernel_rfl
theorem Tryz.tyFn:z1m prog 150=⟨true,.other,1,8,[]⟩:=by kernel_rfl
theorem Tryz.tyFn2:z1m prog 179=⟨true,.other,1,8,[]⟩:=by kernel_rfl
def ltN (a b:Nd):Bool:=sLt a.key b.key||(sEq a.key b.key && decide (a.id<b.id))
def swp (xs:List Nd)(i j:Nat):List Nd:=(xs.set i (nd xs j)).set j (nd xs i)
theorem swp_length (xs:List Nd)(i j:Nat):(swp xs i j).length=xs.length:=by simp[swp]
theorem nd_set_eq {xs:List Nd}{k:Nat}{v:Nd}(h:k<xs.length):nd (xs.set k v) k=v:=by simp[nd,List.getD,h]
theorem nd_set_ne {xs:List Nd}{k j:Nat}{v:Nd}(h:k≠j):nd (xs.set k v) j=nd xs j:=by simp[nd,List.getD,jG h]
theorem swapF_nds (xs:List Nd){i j:Nat}(hi:i<xs.length)(hj:j<xs.length):swapF (nds xs) i j=nds (swp xs i j):=by
 funext q
 simp only[swapF,nds,swp]
 by_cases h1:q=j
 ·subst h1;rw[qf rfl,nd_set_eq (by simpa using hj)]
 ·rw[qb h1,nd_set_ne (Qv h1)]
  by_cases h2:q=i
  ·subst h2;rw[qf rfl,nd_set_eq hi]
  ·rw[qb h2,nd_set_ne (Qv h2)]
def sinkF (a:Nat):Nat->List Nd->List Nd
 |0,xs=>xs
 |j+1,xs=>if a<j+1/\ltN (nd xs (j+1)) (nd xs j)=true then sinkF a j (swp xs (j+1) j) else xs
def insF (a:Nat):Nat->Nat->List Nd->List Nd
 |0,_,xs=>xs
 |k+1,i,xs=>insF a k (i+1) (sinkF a i xs)
def boxN (n:Nat):Nat×(Nat->Sk.Obj):=uQ (.row ⟨false,true,23,1,1,fun _=>[.slc true 1 0 0 n]⟩)
noncomputable def lessSv (box:Nat):SV:= .fn 118 [.ptr box 0 0 0]
noncomputable def swapSv (row n:Nat):SV:= .fn 186 [.slc true row 0 0 n,.raw (Go.typeHandle prog 62)]
theorem nodeSwap_spec (xs:List Nd)(n i j:Nat)(hn:xs.length=n)(hi:i<n)(hj:j<n)(hij:i≠j):
  zf prog 186 [.int .i64 i,.int .i64 j,.slc true 0 0 0 n,.raw (Go.typeHandle prog 62)] ⟨1,[(0,uQ (.row ⟨true,false,62,3,n,nds xs⟩))]⟩
   (fun s H1=>s= .tup []/\H1=⟨1,[(0,uQ (.row ⟨true,false,62,3,n,nds (swp xs i j)⟩))]⟩):=by
 subst hn;rw[<-swapF_nds xs hi hj]
 exact swap_spec false (fun av w=>Jc func186 (by kernel_rfl) (by kernel_rfl) (by kernel_rfl) (e:=Extern.ReflectliteSwapper.swap false) (by kernel_rfl) av w)
  62 3 (by kernel_rfl) (by kernel_rfl) (by kernel_rfl) Tryz.szNode (by omega) xs.length (nds xs) i j hi hj hij
noncomputable def lsRow (n:Nat):Nat×(Nat->Sk.Obj):=uQ (.row ⟨true,true,183,2,1,fun _=>[lessSv 0,swapSv 1 n]⟩)
def LessOk (n:Nat):Prop:=∀ys:List Nd,ys.length=n->∀i j:Nat,i<n->j<n->zf prog 118 [.int .i64 i,.int .i64 j,.ptr 0 0 0 0] ⟨2,[(0,boxN n),(1,uQ (.row ⟨false,false,62,3,n,nds ys⟩))]⟩
 (fun s H1=>s= .bool (ltN (nd ys i) (nd ys j))/\H1=⟨2,[]⟩)
theorem sinkF_stop {a j:Nat}{zs:List Nd}(h:¬(a<j/\ltN (nd zs j) (nd zs (j-1))=true)):sinkF a j zs=zs:=by
 cases j with
 |zero=>rfl
 |succ j=>simp only[sinkF];exact qb h
theorem sinkF_go {a j:Nat}{zs:List Nd}(h0:a<j)(h:ltN (nd zs j) (nd zs (j-1))=true):sinkF a j zs=sinkF a (j-1) (swp zs j (j-1)):=by
 cases j with
 |zero=>omega
 |succ j=>simp only[sinkF];exact qf ⟨h0,h⟩
def ec12:=aj3 @lsRow.eq_1 @lessSv.eq_1 @swapSv.eq_1
def ec13:=aj3 @Tryz.szNode @Tryz.tyNodes @Tryz.szNodes
def ec14:=aj4 @Tryz.tyLs @Tryz.szLs @Tryz.tyFn @Tryz.tyFn2
def z43:=aj @inNds.eq_1 @z3t.eq_1
def RosSm.exE:=aj7 ec12 @zg @zl ec13 ec14 z43 @boxN.eq_1
def ec16:=aj @nds_ren' @z4e
def RosSm.gxE:=aj4 ec12 z43 @boxN.eq_1 ec16
def RosSm.axE:=aj8 ec12 @zg @zl ec13 ec14 z43 @boxN.eq_1 @z26
open RosSm (gxE axE exE)
open D0 (oxE sdE)
theorem insertion_spec (xs:List Nd)(a b:Nat)(hab:a<=b)(hb:b<=xs.length)(hx:xs.length<=1000000)(hless:LessOk xs.length):
  zf prog 187 [.agg [lessSv 0,swapSv 1 xs.length],.int .i64 a,.int .i64 b] ⟨2,[(0,boxN xs.length),(1,z3t xs)]⟩
   (fun s H1=>s= .tup []/\H1=⟨2,[(1,z3t (insF a (b-(a+1)) (a+1) xs))]⟩):=by
 refine zf.ofC false 35 [] func187 rfl rfl ntmps187 results187 rfl ?_;intro w0 own0 β0 Q hQ hQn;simp only[z18];refine Zrs [1,2,3] ?_;refine Zrs [1,2,3,6] ?_;refine zc fun Q0 hN0 hX0 hR0 hE0=> ?_;refine zx (σ:=Nat×List Nd) (fun σ=>a+1<=σ.1/\(σ.1<=b\/σ.1=a+1)/\σ.2.length=xs.length/\insF a (b-σ.1) σ.1 σ.2=insF a (b-(a+1)) (a+1) xs) (fun σ=>b-σ.1) (fun σ=>[(1,.int .i64 a),(2,.int .i64 b),(3,.ptr 2 0 0 0),(6,.int .i64 σ.1)]) (fun σ=>⟨3,[(2,lsRow xs.length),(1,uQ (.row ⟨true,false,62,3,xs.length,nds σ.2⟩)),(0,boxN xs.length)]⟩) (a+1,xs) ⟨qd _,.inr rfl,rfl,rfl⟩ (ρ:=id) (Zg id) ?_;rintro⟨i,ys⟩ hi QL1 hL1 hRL1 hEL1;refine z6 ?_;refine Zrs [1,2,3,6,12] ?_;refine z7 _ rfl ?_ ?_
 ·intro h12;replace h12:=Znb h12;dsimp only at hi;have hy:ys.length=xs.length:=hi.2.2.1;refine za (z6 (zc fun Q1 hN1 hX1 hR1 hE1=> ?_));refine Zrs [1,2,3,6,7] ?_;refine zc fun Q2 hN2 hX2 hR2 hE2=> ?_;refine zx (σ:=Nat×List Nd) (fun σ=>a<=σ.1/\σ.1<=i/\σ.2.length=xs.length/\sinkF a σ.1 σ.2=sinkF a i ys) (fun σ=>σ.1) (fun σ=>[(1,.int .i64 a),(2,.int .i64 b),(3,.ptr 2 0 0 0),(6,.int .i64 i),(7,.int .i64 σ.1)]) (fun σ=>⟨3,[(2,lsRow xs.length),(1,uQ (.row ⟨true,false,62,3,xs.length,nds σ.2⟩)),(0,boxN xs.length)]⟩) (i,ys) ⟨by omega,qd _,hy,rfl⟩ (ρ:=id) (Zg id) ?_;rintro⟨j,zs⟩ hj QL2 hL2 hRL2 hEL2;refine z6 ?_;refine sg [1,2,3,6,7,26] rfl ?_;intro K hK
  have hk5:a<=j/\j<=i/\zs.length=xs.length/\sinkF a j zs=sinkF a i ys->∀B:Bool,B=(decide (a<j) && ltN (nd zs j) (nd zs (j-1)))->K [(1,.int .i64 a),(2,.int .i64 b),(3,.ptr 2 0 0 0),(6,.int .i64 i),(7,.int .i64 j),(26,.bool B)] ⟨3,[(2,lsRow xs.length),(1,uQ (.row ⟨true,false,62,3,xs.length,nds zs⟩)),(0,boxN xs.length)]⟩:=by
   intro hj B hB;subst hB;refine hK _ _ ?_;clear hK K;refine z7 _ rfl ?_ ?_
   ·intro h26;replace h26:=Znb h26;refine za (z6 (zc fun Q3 hN3 hX3 hR3 hE3=> ?_));refine z3c [1,2,3,6,7] rfl ?_;intro K hK;iterate 5 (refine Zo Zl ?_)
    rw[show(j:Int)-1=((j-1:Nat):Int) from by omega];repeat(with_reducible apply qe;exact sdE)
    refine Zo Zl ?_;refine Zc1 (nodeSwap_spec zs xs.length j (j-1) hj.2.2.1 (by omega) (by omega) (by omega)) (fun _=>1) ?_;refine z8 (Zpr (hK _ _ ?_));clear hK K;refine ze (hN3 _ _ ?_);refine Zrg [1,2,3,6,7] ?_;refine ze (hL2 _ _ ?_);have h1:=sinkF_go h26.1 h26.2;rw[show(j:Int)-1=((j-1:Nat):Int) from by omega];refine⟨(j-1,swp zs j (j-1)),⟨⟨by simp only;omega,by simp only;omega,by simp only[swp_length];exact hj.2.2.1,by simp only;rw[<-h1];exact hj.2.2.2⟩,by simp only;omega⟩,id,(Zg id)⟩
   ·intro h26;have hz:sinkF a j zs=zs:=sinkF_stop (by simpa using h26);refine zw (hEL2 _ _ _ (hX2 _ _ (ze (hN1 _ _ ?_))));refine Zrg [1,2,3,6] ?_;refine ze (hL1 _ _ ?_);have hzz:zs=sinkF a i ys:=hz.symm.trans hj.2.2.2;have hi4:=hi.2.2.2;rw[show b-i=(b-(i+1))+1 from by omega] at hi4;refine⟨(i+1,zs),⟨⟨by dsimp only;omega,.inl (by dsimp only;omega),hj.2.2.1,by dsimp only;rw[hzz];exact hi4⟩,by dsimp only;omega⟩,id,(Zg id)⟩
  iterate 9 (refine Zo Zl ?_)
  refine z16 ?_;refine z2e rfl rfl ?_;refine Zgr ?_;refine z1r ?_ ?_
  ·intro hg9
   first
    |(simp at hg9;done)
    |skip
     try replace hg9:=Znb hg9
     refine Zo id ?_;rw[show(j:Int)-1=((j-1:Nat):Int) from by omega];refine Zc1 (hless zs hj.2.2.1 j (j-1) (by omega) (by omega)) (id) ?_;refine Zo Zl ?_;refine z8 ?_;refine Zpr ?_;refine hk5 hj _ ?_
     first|(simp;done)|(simp at hg9 ⊢;intro hgg;omega)
  ·intro hg9;refine⟨.bool false,?_⟩
   first
    |(simp at hg9;done)
    |skip
     try replace hg9:=Znb hg9
     refine Zo Zl ?_;refine z8 ?_;refine Zpr ?_;refine hk5 hj _ ?_
     first|(simp;done)|(simp at hg9 ⊢;intro hgg;omega)
 ·intro h12
  try replace h12:=Znb h12
  refine zw (hEL1 _ _ _ (hX0 _ _ (ze (hQn _ _ ?_))));dsimp only at hi;have hi4:=hi.2.2.2;rw[show b-i=0 from by omega] at hi4;have hi5:ys=insF a (b-(a+1)) (a+1) xs:=hi4;refine zb (H':=⟨2,[(1,uQ (.row ⟨true,false,62,3,xs.length,nds ys⟩))]⟩) (.inl rfl) ?_;refine Zou ?_;refine⟨Zs,(Zg id),Zs,?_⟩;rw[<-hi5];simp only[z3t,hi.2.2.1]
end Go.Proofs
