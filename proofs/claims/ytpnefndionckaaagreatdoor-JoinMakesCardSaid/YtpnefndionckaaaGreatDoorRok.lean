/-
  Walks and plain facts, joined: part 11 of 12.
  Conditions: those that each statement names.
-/
import Derived.Test.YtpnefndionckaaaGreatDoorRoh
import Derived.Test.YtpnefndionckaaaGreatDoorRoe
import Derived.Test.YtpnefndionckaaaGreatDoorRoc
import Derived.Test.YtpnefndionckaaaGreatDoorRof
import Derived.Test.YtpnefndionckaaaGreatDoorRog
import Derived.Test.YtpnefndionckaaaGreatDoorRoj
import Derived.Test.YtpnefndionckaaaGreatDoorRoi
set_option linter.unusedSimpArgs false
set_option linter.unusedVariables false
set_option linter.defProp false
set_option maxRecDepth 4000
set_option maxHeartbeats 8000000
namespace Go.Proofs
open Tryz
open Go.Sk
section
def lyW (f:Nat)(L:List Ly)(i b c:Nat)(r:List Cl×List Pr):Nat->List SV:=fun j=>if j=i then [.int .i64 (lyA L j).lvl,.int .u32 (lyA L j).wd,.slc true f (3*j+1) 0 (lyA L j).ids.length,.slc true b 0 0 r.1.length,.slc true c 0 0 r.2.length] else lyR f L j
theorem lyW_ren (ρ:Nat->Nat)(f:Nat)(L:List Ly)(i b c:Nat)(r:List Cl×List Pr):(fun j=>SV.renL ρ (lyW f L i b c r j))=lyW (ρ f) L i (ρ b) (ρ c) r:=by
 funext j
 unfold lyW
 split
 ·simp[SV.renL,SV.ren]
 ·exact lyR_ren' ρ f L j
theorem lyW_ren' (ρ:Nat->Nat)(f:Nat)(L:List Ly)(i b c:Nat)(r:List Cl×List Pr)(j:Nat):SV.renL ρ (lyW f L i b c r j)=lyW (ρ f) L i (ρ b) (ρ c) r j:=jr (lyW_ren ρ f L i b c r) j
theorem lyW_lt {m f:Nat}{L:List Ly}{i b c:Nat}{r:List Cl×List Pr}(hf:f<m)(hb:b<m)(hc:c<m)(j:Nat):SV.ltL m (lyW f L i b c r j):=by
 unfold lyW
 split
 ·simp[SV.ltL,SV.lt,hf,hb,hc]
 ·exact(lyR_lt m f L j).2 hf
theorem lyW_in (f:Nat)(L:List Ly)(i b c:Nat)(r:List Cl×List Pr)(j:Nat):((if j=i then [SV.int .i64 (lyA L i).lvl,.int .u32 (lyA L i).wd,.slc true f (3*i+1) 0 (lyA L i).ids.length,.slc true b 0 0 r.1.length,.slc true c 0 0 r.2.length] else [.int .i64 (lyA L j).lvl,.int .u32 (lyA L j).wd,.slc true f (3*j+1) 0 (lyA L j).ids.length,.slc true f (3*j+2) 0 (lyA L j).cs.length,.slc true f (3*j+3) 0 (lyA L j).ps.length])=lyW f L i b c r j)=True:=eq_true (by
 unfold lyW
 split
 ·rename_i e;rw[e]
 ·rfl)
theorem startM_spec (L:List Ly)(hb:lyB L)(i k:Nat)(hi:i<k)(p kind cell:Int):
  zf prog 101 [.agg [.slc false 0 (3*i+2) 0 (lyA L i).cs.length,.slc false 0 (3*i+3) 0 (lyA L i).ps.length],.int .i64 p,.int .i64 kind,.int .i64 cell] ⟨2,[(0,(3*k+1,fam false 3 1 (lyF false L)))]⟩
   (fun s H1=>s= .tup [lsS (z5i (lyA L i).cs (lyA L i).ps p kind cell),.int .i64 (z4v (lyA L i).cs (lyA L i).ps p kind cell)]/\H1=lsH (z5i (lyA L i).cs (lyA L i).ps p kind cell)):=by
 have hbi:=hb.2 i;refine(lyLs L i k hi (start_spec (lyA L i).cs (lyA L i).ps _ _ rfl rfl (by omega) (by omega) p kind cell) (by simp[SV.ltL,SV.lt]) fun π=>rfl).imp ?_;rintro s H' ⟨s0,H0',⟨rfl,rfl⟩,rfl,rfl⟩;refine⟨by simp[lsS,SV.renP,SV.renPL,memP],?_⟩;simp only[lsH,renPOs,q7,QY,z3h,z2x,uQ,Obj.renP,prs_renP,z4a]
theorem stepM_spec (L:List Ly)(hb:lyB L)(i k:Nat)(hi:i<k)(p:Int):
  zf prog 106 [.agg [.slc false 0 (3*i+2) 0 (lyA L i).cs.length,.slc false 0 (3*i+3) 0 (lyA L i).ps.length],.int .i64 p] ⟨2,[(0,(3*k+1,fam false 3 1 (lyF false L)))]⟩
   (fun s H1=>s= .tup [lsS (stepR (lyA L i).cs (lyA L i).ps p),.bool (stepOk (lyA L i).cs (lyA L i).ps p)]/\H1=lsH (stepR (lyA L i).cs (lyA L i).ps p)):=by
 have hbi:=hb.2 i;refine(lyLs L i k hi (stepL_spec (lyA L i).cs (lyA L i).ps _ _ rfl rfl (by omega) (by omega) p) (by simp[SV.ltL,SV.lt]) fun π=>rfl).imp ?_;rintro s H' ⟨s0,H0',⟨rfl,rfl⟩,rfl,rfl⟩;refine⟨by simp[lsS,SV.renP,SV.renPL,memP],?_⟩;simp only[lsH,renPOs,q7,QY,z3h,z2x,uQ,Obj.renP,prs_renP,z4a]
def begR (L:List Ly)(p:Int)(c:Cb):List Cl×List Pr:=z5i (lyA L (plI L c.node c.lvl).toNat).cs (lyA L (plI L c.node c.lvl).toNat).ps p c.kind (plK L c.node c.lvl)
def ec43:=aj @lsS.eq_1 @lsH.eq_1
def JnTm.exE:=aj9 @z17 @zg @zi @zn @zk @z12 @z1a ec2 (aj9 @zj @zt @zo @zl ec13 @zp z43 z4y (aj9 @zu ec3 ec5 @z1d.eq_1 @zz.eq_1 @ints.eq_1 ec33 ec34 (aj ec35 ec43)))
def ec44:=aj3 @lyW_ren' @lyW_lt @lyW_in
def JnTm.gxE:=aj9 @z17 z43 ec16 z4y ec3 ec7 ec8 @z1d.eq_1 (aj7 @zz.eq_1 @z1v @z1t ec36 ec26 ec29 ec44)
def JnTm.axE:=aj9 @z17 @zg @zi @zn @zk @z12 @z1a ec2 (aj9 @zj @zt @zo @zl ec13 @zp z43 z4y (aj9 @zu ec3 ec5 @z1d.eq_1 @zz.eq_1 ec33 ec34 ec43 (aj7 @z1q @z26 @z2n @z31 ec37 @z40 @lyW_ren)))
open JnTm (gxE axE exE)
open JnNm (oxE)
open D0 (sdE)
theorem begin_spec (L:List Ly)(C:List Cb)(hb:lyB L)(n k m p:Nat)(ht:Int)(hk:L.length=k)(hm:C.length=m)(hm6:m<=1000000)(hp:p<m)(hI:0<=plI L (cbA C p).node (cbA C p).lvl)(he:beginE L p (cbA C p)=0):
  zf prog 63 [.agg [.slc false 0 0 0 n,.int .i64 ht,.slc true 1 0 0 k,.slc false 3 0 0 m],.int .i64 p] ⟨4,[(1,uQ (.row ⟨true,false,89,5,k,lyR 2 L⟩)),(2,(3*k+1,fam false 3 1 (lyF false L))),(3,uQ (.row ⟨false,false,58,3,m,cbs C⟩))]⟩
   (fun s H1=>s= .int .i64 0/\H1=⟨6,[(1,uQ (.row ⟨true,false,89,5,k,lyW 2 L (plI L (cbA C p).node (cbA C p).lvl).toNat 4 5 (begR L p (cbA C p))⟩)),(4,z2x (begR L p (cbA C p)).1),(5,z3h (begR L p (cbA C p)).2)]⟩):=by
 subst hk hm;have hlen:=hb.1;obtain⟨i,hi,hIi,hlv,q,hq,hKk,_⟩:=plI_at hI;rw[beginE,hIi,hKk,qE] at he;have hr:begR L p (cbA C p)=z5i (lyA L i).cs (lyA L i).ps p (cbA C p).kind ((q:Int)+2):=by rw[begR,hIi,hKk,qE]
 rw[hr,hIi,qE];refine zf.ofC false 47 [.tmp 4] func63 rfl rfl ntmps63 results63 rfl ?_;intro w0 own0 β0 Q hQ hQn;simp only[z18];refine Zrs [1,2] ?_;refine Zrs [1,2,5] ?_;refine sg [1,2,5,6,7] rfl ?_;intro K hK;iterate 5 (refine Zo Zl ?_)
 refine Zo Zl ?_;refine Zc1 (place_spec L hb L.length n C.length rfl ht (cbA C p).node (cbA C p).lvl) (id) ?_;rw[hIi,hKk];iterate 5 (refine Zo Zl ?_)
 refine z8 (Zpr (hK _ _ ?_));clear hK K;refine z6 ?_;refine Zrt [2,6,8,9] (.op 0 (.op 1 (.op 2 (.op 3 (.op 4 (.op 5 (.op 6 (.op 7 (.op 8 (.op 9 (.two 10 14 (.op 11 (.op 12 (.op 13 (.op 14 (.op 15 (.op 16 .done)))))) (.op 10 (.op 11 (.op 12 (.op 13 (.op 15 (.op 16 .done))))))))))))))))) [[],[],[],[],[],[],[],[],[],[],[],[],[],[],[],[],[]] [[],[],[],[],[],[],[],[],[],[],[],[],[],[],[],[],[]] ?_;intro K hK hG
 have hk3:K [(2,.ptr 4 0 0 0),(6,.int .i64 i),(8,.ptr 8 0 0 0),(9,.int .i64 0)] ⟨9,[(8,uQ (.row ⟨true,true,85,2,1,fun _=>[.slc true 6 0 0 (z5i (lyA L i).cs (lyA L i).ps p (cbA C p).kind ((q:Int)+2)).1.length,.slc true 7 0 0 (z5i (lyA L i).cs (lyA L i).ps p (cbA C p).kind ((q:Int)+2)).2.length]⟩)),(7,z3h (z5i (lyA L i).cs (lyA L i).ps p (cbA C p).kind ((q:Int)+2)).2),(6,z2x (z5i (lyA L i).cs (lyA L i).ps p (cbA C p).kind ((q:Int)+2)).1),(4,uQ (.row ⟨true,true,34,4,1,fun _=>[.slc false 0 0 0 n,.int .i64 ht,.slc true 1 0 0 L.length,.slc false 3 0 0 C.length]⟩)),(1,uQ (.row ⟨true,false,89,5,L.length,lyR 2 L⟩)),(2,(3*L.length+1,fam false 3 1 (lyF false L)))]⟩:=by
  refine hK _ _ ?_;clear hG hK K;refine z6 ?_;refine Zrs [2,6,8,9,39] ?_;refine z7 _ rfl ?_ ?_
  ·intro h39
   try replace h39:=Znb h39
   refine Zrg [9] ?_;refine Zrs [4] ?_;refine zd (hQ _ _ ?_);refine zm (fun x=>if x=4 then 6 else if x=5 then 7 else x) (.int .i64 0) (⟨6,[(1,uQ (.row ⟨true,false,89,5,L.length,lyW 2 L i 4 5 (z5i (lyA L i).cs (lyA L i).ps p (cbA C p).kind ((q:Int)+2))⟩)),(4,z2x (z5i (lyA L i).cs (lyA L i).ps p (cbA C p).kind ((q:Int)+2)).1),(5,z3h (z5i (lyA L i).cs (lyA L i).ps p (cbA C p).kind ((q:Int)+2)).2)]⟩) (.inl rfl) ?_;refine Zou ?_;refine⟨Zs,Zs,(Zg (fun x=>if x=4 then 6 else if x=5 then 7 else x)),Zs,?_⟩
   all_goals first|trivial|exact⟨rfl,trivial⟩
  ·intro h39
   exfalso;simp at h39
 refine Zo (ZT [] [] []) ?_;refine Zo (ZT [] [] []) ?_;refine Zo (ZT [] [] []) ?_;refine Zo (ZT [] [] []) ?_;refine Zo (ZT [] [] []) ?_;refine Zo (ZT [] [] []) ?_;refine Zo (ZT [] [] []) ?_;refine Zo (ZT [] [] []) ?_;refine Zo (ZT [] [] []) ?_;refine Zo (ZT [] [] []) ?_;refine z2r ?_ ?_
 ·skip
  refine Zo (ZT [] [] []) ?_;refine Zc1 (startM_spec L hb i L.length hi p (cbA C p).kind ((q:Int)+2)) (fun x=>if x=0 then 2 else 0) ?_;rw[he];refine Zo (ZT [] [] []) ?_;refine Zo (ZT [] [] []) ?_;refine Zo (ZT [] [] []) ?_;refine Zo (ZT [] [] [8]) ?_;refine Zo (ZT [8] [] [8]) ?_;refine Zo (ZT [8] [] [8]) ?_;refine z1f ?_;refine Zpr ?_;exact hG _ _ _ _ id (Zg id) hk3
 ·skip
  refine Zo (ZT [] [] [6]) ?_;refine Zo (ZT [6] [] [6]) ?_;refine Zc1 (startM_spec L hb i L.length hi p (cbA C p).kind ((q:Int)+2)) (fun x=>if x=0 then 2 else 0) ?_;rw[he];refine Zo (ZT [6] [] [6]) ?_;refine Zo (ZT [6] [] [6]) ?_;refine Zo (ZT [6] [] [6]) ?_;refine Zo (ZT [6] [] [6]) ?_;refine Zo (ZT [6] [] [6]) ?_;refine z1f ?_;refine Zpr ?_;exact hG _ _ _ _ (fun x=>if x=6 then 7 else if x=7 then 8 else if x=8 then 6 else x) (Zg (fun x=>if x=6 then 7 else if x=7 then 8 else if x=8 then 6 else x)) hk3
end
section
theorem fam0_rowK (ρ:Nat->Nat)(e:Go.TypeId)(sz:Nat)(G:Nat->Sk.Obj)(f:Nat->List SV):z19 ρ (fam true e sz G 0) (.row ⟨true,false,e,sz,0,f⟩)=True:=eq_true ⟨fun _=>⟨rfl,rfl⟩,rfl,qd _,fun i hi=>absurd hi (qI _)⟩
theorem lyW_out (f:Nat)(L:List Ly)(b c:Nat)(r:List Cl×List Pr):(∀j,j<L.length->lyR f L j=lyW f L L.length b c r j)=True:=eq_true fun j hj=>by rw[lyW,qb (by omega)]
theorem cbs_put' (C:List Cb)(k:Nat)(a b c:Int)(h:k<C.length):(fun i=>if i=k then [SV.int .i64 a,SV.int .i64 b,SV.int .i64 c] else [SV.int .i64 (cbA C i).kind,SV.int .i64 (cbA C i).node,SV.int .i64 (cbA C i).lvl])=cbs (C.set k ⟨a,b,c⟩):=cbs_put C k a b c h
def clmI (L:List Ly)(ht:Int)(c:Cb):Nat:=if outB ht (nxC c) then L.length else(plI L (nxC c).node (nxC c).lvl).toNat
def clmR (L:List Ly)(ht p:Int)(c:Cb):List Cl×List Pr:=if outB ht (nxC c) then([],[]) else begR L p (nxC c)
def clmC (ht:Int)(c:Cb):Cb:=if outB ht (nxC c) then noCb else nxC c
def JnUm.gxE:=aj9 @z17 z43 ec16 z4y ec3 ec7 ec8 @z1d.eq_1 (aj9 @zz.eq_1 @z1v @z1t ec36 ec26 ec29 ec44 @lyW_out @fam0_rowK)
open JnUm (gxE)
open JnTm (axE exE)
open JnNm (oxE)
open D0 (sdE)
theorem climb_spec (L:List Ly)(C:List Cb)(hb:lyB L)(n k m p:Nat)(ht:Int)(hk:L.length=k)(hm:C.length=m)(hm6:m<=1000000)(hp:p<m)(hl: -1000<=(cbA C p).lvl/\(cbA C p).lvl<=1000)
  (hin:outB ht (nxC (cbA C p))=false->0<=plI L (nxC (cbA C p)).node (nxC (cbA C p)).lvl/\beginE L p (nxC (cbA C p))=0):
  zf prog 105 [.agg [.slc false 0 0 0 n,.int .i64 ht,.slc true 1 0 0 k,.slc true 3 0 0 m],.int .i64 p] ⟨4,[(1,uQ (.row ⟨true,false,89,5,k,lyR 2 L⟩)),(2,(3*k+1,fam false 3 1 (lyF false L))),(3,uQ (.row ⟨true,false,58,3,m,cbs C⟩))]⟩
   (fun s H1=>s= .bool true/\H1=⟨6,[(1,uQ (.row ⟨true,false,89,5,k,lyW 2 L (clmI L ht (cbA C p)) 4 5 (clmR L ht p (cbA C p))⟩)),(4,z2x (clmR L ht p (cbA C p)).1),(5,z3h (clmR L ht p (cbA C p)).2),(3,uQ (.row ⟨true,false,58,3,m,cbs (C.set p (clmC ht (cbA C p)))⟩))]⟩):=by
 subst hk hm;have hlen:=hb.1;have hcp:=z4r (x:=nxC (cbA C p)) hp;refine zf.ofC false 50 [.tmp 4] func105 rfl rfl ntmps105 results105 rfl ?_;intro w0 own0 β0 Q hQ hQn;simp only[z18];refine Zrs [1,2] ?_;refine Zrs [1,2,5] ?_;refine z6 ?_;refine Zrs [1,2,5,14] ?_;refine z7 _ rfl ?_ ?_
 ·intro h14;replace h14:=Znb h14;have hnx:nxC (cbA C p)=⟨(cbA C p).kind,(cbA C p).node,(cbA C p).lvl+1⟩:=by rw[nxC,qf h14]
  refine z3c [1,2,5] rfl ?_;intro K hK;iterate 8 (refine Zo Zl ?_)
  rw[cbs_put' _ _ _ _ _ hp,<-hnx];repeat(with_reducible apply qe;exact sdE)
  refine z8 (Zpr (hK _ _ ?_));clear hK K;refine z6 (z6 ?_);clear hnx;obtain⟨C',hC'⟩:∃C',C.set p (nxC (cbA C p))=C':=⟨_,rfl⟩;have hcl:C'.length=C.length:=by rw[<-hC',qC]
  rw[hC'] at hcp ⊢;obtain⟨c',hc'⟩:∃c',nxC (cbA C p)=c':=⟨_,rfl⟩;rw[hc'] at hcp hin;refine Zrd [1,2,5,42] [0,1,2,3,4,5,6,7,8,9,10,11,12,13] [[],[],[],[],[],[],[],[],[],[],[],[],[],[]] [[],[],[],[],[],[],[],[],[],[],[],[],[],[]] ?_;intro K hK;iterate 14 (refine Zo (Zi [] []) ?_)
  refine z11 (Zpr (hK _ _ ?_));clear hK K;refine z7 _ rfl ?_ ?_
  ·intro h42;rw[hcp] at h42;have ho:outB ht c'=true:=h42;refine sg [] rfl ?_;intro K hK;iterate 4 (refine Zo Zl ?_)
   rw[cbs_put' _ _ _ _ _ (by omega),show(⟨0,0,0⟩:Cb)=noCb from rfl];repeat(with_reducible apply qe;exact sdE)
   refine z8 (Zpr (hK _ _ ?_));clear hK K;refine Zrs [4] ?_;refine z23 117 5 (lyF true []) ?_;dsimp only;refine z23 110 7 (lyF true []) ?_;dsimp only;refine zd (hQ _ _ ?_);have e1:clmI L ht (cbA C p)=L.length:=by rw[clmI,hc',ho];rfl
   have e2:clmR L ht p (cbA C p)=([],[]):=by rw[clmR,hc',ho];rfl
   have e3:C.set p (clmC ht (cbA C p))=C'.set p noCb:=by rw[clmC,hc',ho,<-hC',List.set_set];rfl
   rw[e1,e2,e3];refine zm (fun x=>if x=4 then 5 else if x=5 then 6 else x) (.bool true) (⟨6,[(1,uQ (.row ⟨true,false,89,5,L.length,lyW 2 L L.length 4 5 ([],[])⟩)),(4,z2x []),(5,z3h []),(3,uQ (.row ⟨true,false,58,3,C.length,cbs (C'.set p noCb)⟩))]⟩) (.inl rfl) ?_;refine Zou ?_;refine⟨Zs,Zs,(Zg (fun x=>if x=4 then 5 else if x=5 then 6 else x)),Zs,?_⟩
   all_goals first|trivial|exact⟨rfl,trivial⟩
  ·intro h42;rw[hcp] at h42;have ho:outB ht c'=false:=h42;obtain⟨g1,g2⟩:=hin ho;refine za ?_;refine sg [4] rfl ?_;intro K hK;iterate 2 (refine Zo Zl ?_)
   refine Zo Zl ?_;refine Zc1 (begin_spec L C' hb n L.length C.length p ht rfl hcl hm6 hp (by rw[hcp];exact g1) (by rw[hcp];exact g2)) (id) ?_;rw[hcp];iterate 2 (refine Zo Zl ?_)
   refine z8 (Zpr (hK _ _ ?_));clear hK K;refine zd (hQ _ _ ?_);have e1:clmI L ht (cbA C p)=(plI L c'.node c'.lvl).toNat:=by rw[clmI,hc',ho];rfl
   have e2:clmR L ht p (cbA C p)=begR L p c':=by rw[clmR,hc',ho];rfl
   have e3:C.set p (clmC ht (cbA C p))=C':=by rw[clmC,hc',ho,<-hC',hc'];rfl
   rw[e1,e2,e3];refine zm (fun x=>if x=4 then 5 else if x=5 then 6 else x) (.bool true) (⟨6,[(1,uQ (.row ⟨true,false,89,5,L.length,lyW 2 L (plI L c'.node c'.lvl).toNat 4 5 (begR L p c')⟩)),(4,z2x (begR L p c').1),(5,z3h (begR L p c').2),(3,uQ (.row ⟨true,false,58,3,C.length,cbs C'⟩))]⟩) (.inl rfl) ?_;refine Zou ?_;refine⟨Zs,Zs,(Zg (fun x=>if x=4 then 5 else if x=5 then 6 else x)),Zs,?_⟩
   all_goals first|trivial|exact⟨rfl,trivial⟩
 ·intro h14;replace h14:=Znb h14;have hnx:nxC (cbA C p)=⟨(cbA C p).kind,(cbA C p).node,(cbA C p).lvl-1⟩:=by rw[nxC,qb h14]
  refine z3c [1,2,5] rfl ?_;intro K hK;iterate 8 (refine Zo Zl ?_)
  rw[cbs_put' _ _ _ _ _ hp,<-hnx];repeat(with_reducible apply qe;exact sdE)
  refine z8 (Zpr (hK _ _ ?_));clear hK K;refine z6 (z6 ?_);clear hnx;obtain⟨C',hC'⟩:∃C',C.set p (nxC (cbA C p))=C':=⟨_,rfl⟩;have hcl:C'.length=C.length:=by rw[<-hC',qC]
  rw[hC'] at hcp ⊢;obtain⟨c',hc'⟩:∃c',nxC (cbA C p)=c':=⟨_,rfl⟩;rw[hc'] at hcp hin;refine Zrd [1,2,5,42] [0,1,2,3,4,5,6,7,8,9,10,11,12,13] [[],[],[],[],[],[],[],[],[],[],[],[],[],[]] [[],[],[],[],[],[],[],[],[],[],[],[],[],[]] ?_;intro K hK;iterate 14 (refine Zo (Zi [] []) ?_)
  refine z11 (Zpr (hK _ _ ?_));clear hK K;refine z7 _ rfl ?_ ?_
  ·intro h42;rw[hcp] at h42;have ho:outB ht c'=true:=h42;refine sg [] rfl ?_;intro K hK;iterate 4 (refine Zo Zl ?_)
   rw[cbs_put' _ _ _ _ _ (by omega),show(⟨0,0,0⟩:Cb)=noCb from rfl];repeat(with_reducible apply qe;exact sdE)
   refine z8 (Zpr (hK _ _ ?_));clear hK K;refine Zrs [4] ?_;refine z23 117 5 (lyF true []) ?_;dsimp only;refine z23 110 7 (lyF true []) ?_;dsimp only;refine zd (hQ _ _ ?_);have e1:clmI L ht (cbA C p)=L.length:=by rw[clmI,hc',ho];rfl
   have e2:clmR L ht p (cbA C p)=([],[]):=by rw[clmR,hc',ho];rfl
   have e3:C.set p (clmC ht (cbA C p))=C'.set p noCb:=by rw[clmC,hc',ho,<-hC',List.set_set];rfl
   rw[e1,e2,e3];refine zm (fun x=>if x=4 then 5 else if x=5 then 6 else x) (.bool true) (⟨6,[(1,uQ (.row ⟨true,false,89,5,L.length,lyW 2 L L.length 4 5 ([],[])⟩)),(4,z2x []),(5,z3h []),(3,uQ (.row ⟨true,false,58,3,C.length,cbs (C'.set p noCb)⟩))]⟩) (.inl rfl) ?_;refine Zou ?_;refine⟨Zs,Zs,(Zg (fun x=>if x=4 then 5 else if x=5 then 6 else x)),Zs,?_⟩
   all_goals first|trivial|exact⟨rfl,trivial⟩
  ·intro h42;rw[hcp] at h42;have ho:outB ht c'=false:=h42;obtain⟨g1,g2⟩:=hin ho;refine za ?_;refine sg [4] rfl ?_;intro K hK;iterate 2 (refine Zo Zl ?_)
   refine Zo Zl ?_;refine Zc1 (begin_spec L C' hb n L.length C.length p ht rfl hcl hm6 hp (by rw[hcp];exact g1) (by rw[hcp];exact g2)) (id) ?_;rw[hcp];iterate 2 (refine Zo Zl ?_)
   refine z8 (Zpr (hK _ _ ?_));clear hK K;refine zd (hQ _ _ ?_);have e1:clmI L ht (cbA C p)=(plI L c'.node c'.lvl).toNat:=by rw[clmI,hc',ho];rfl
   have e2:clmR L ht p (cbA C p)=begR L p c':=by rw[clmR,hc',ho];rfl
   have e3:C.set p (clmC ht (cbA C p))=C':=by rw[clmC,hc',ho,<-hC',hc'];rfl
   rw[e1,e2,e3];refine zm (fun x=>if x=4 then 5 else if x=5 then 6 else x) (.bool true) (⟨6,[(1,uQ (.row ⟨true,false,89,5,L.length,lyW 2 L (plI L c'.node c'.lvl).toNat 4 5 (begR L p c')⟩)),(4,z2x (begR L p c').1),(5,z3h (begR L p c').2),(3,uQ (.row ⟨true,false,58,3,C.length,cbs C'⟩))]⟩) (.inl rfl) ?_;refine Zou ?_;refine⟨Zs,Zs,(Zg (fun x=>if x=4 then 5 else if x=5 then 6 else x)),Zs,?_⟩
   all_goals first|trivial|exact⟨rfl,trivial⟩
end
section
def stOn (C:List Cb)(p:Int):Bool:=inC C p && (cbA C p.toNat).kind !=0
def stI (fo:Fo)(p:Int):Nat:=if stOn fo.cb p then(if endB fo p then clmI fo.ly fo.ht (cbA fo.cb p.toNat) else curI fo p) else fo.ly.length
def stR (fo:Fo)(p:Int):List Cl×List Pr:=if stOn fo.cb p then(if endB fo p then clmR fo.ly fo.ht p (cbA fo.cb p.toNat) else stepR (lyA fo.ly (curI fo p)).cs (lyA fo.ly (curI fo p)).ps p) else([],[])
def stC (fo:Fo)(p:Int):List Cb:=if stOn fo.cb p && endB fo p then fo.cb.set p.toNat (clmC fo.ht (cbA fo.cb p.toNat)) else fo.cb
def stS (fo:Fo)(p:Int):Bool:=stOn fo.cb p && (endB fo p||stepOk (lyA fo.ly (curI fo p)).cs (lyA fo.ly (curI fo p)).ps p)
structure StH (fo:Fo) (p:Int):Prop where
 pl:0<=plI fo.ly (cbA fo.cb p.toNat).node (cbA fo.cb p.toNat).lvl
 lv: -1000<=(cbA fo.cb p.toNat).lvl/\(cbA fo.cb p.toNat).lvl<=1000
 pn:p<(lyA fo.ly (curI fo p)).ps.length
 go:endB fo p=true->outB fo.ht (nxC (cbA fo.cb p.toNat))=false->0<=plI fo.ly (nxC (cbA fo.cb p.toNat)).node (nxC (cbA fo.cb p.toNat)).lvl/\beginE fo.ly p (nxC (cbA fo.cb p.toNat))=0
open JnUm (gxE)
open JnTm (axE exE)
open JnNm (oxE)
open D0 (sdE)
theorem step_specF (fo:Fo)(hb:lyB fo.ly)(n k m:Nat)(p:Int)(hk:fo.ly.length=k)(hm:fo.cb.length=m)(hm6:m<=1000000)(hS:stOn fo.cb p=true->StH fo p):
  zf prog 67 [.agg [.slc false 0 0 0 n,.int .i64 fo.ht,.slc true 1 0 0 k,.slc true 3 0 0 m],.int .i64 p] ⟨4,[(1,uQ (.row ⟨true,false,89,5,k,lyR 2 fo.ly⟩)),(2,(3*k+1,fam false 3 1 (lyF false fo.ly))),(3,uQ (.row ⟨true,false,58,3,m,cbs fo.cb⟩))]⟩
   (fun s H1=>s= .bool (stS fo p)/\H1=⟨6,[(1,uQ (.row ⟨true,false,89,5,k,lyW 2 fo.ly (stI fo p) 4 5 (stR fo p)⟩)),(4,z2x (stR fo p).1),(5,z3h (stR fo p).2),(3,uQ (.row ⟨true,false,58,3,m,cbs (stC fo p)⟩))]⟩):=by
 obtain⟨ns,ht,L,C⟩:=fo;dsimp only at hb hk hm ⊢;subst hk hm;have hlen:=hb.1;refine zf.ofC false 77 [.tmp 4] func67 rfl rfl ntmps67 results67 rfl ?_;intro w0 own0 β0 Q hQ hQn;simp only[z18];refine Zrs [1,2] ?_;refine z6 ?_;refine Zrs [1,2,26] ?_;refine z7 _ rfl ?_ ?_
 ·intro h26
  have hon:stOn C p=false:=by
   rw[stOn,<-qk,Bool.not_and,inC,JA];simpa [bne] using h26
  refine Zrs [4] ?_;refine z23 117 5 (lyF true []) ?_;dsimp only;refine z23 110 7 (lyF true []) ?_;dsimp only;refine zd (hQ _ _ ?_);rw[stS,stI,stR,stC,hon];simp only[QH,qF,Qw];refine zm (fun x=>if x=4 then 5 else if x=5 then 6 else x) (.bool false) (⟨6,[(1,uQ (.row ⟨true,false,89,5,L.length,lyW 2 L L.length 4 5 ([],[])⟩)),(4,z2x []),(5,z3h []),(3,uQ (.row ⟨true,false,58,3,C.length,cbs C⟩))]⟩) (.inl rfl) ?_;refine Zou ?_;refine⟨Zs,Zs,(Zg (fun x=>if x=4 then 5 else if x=5 then 6 else x)),Zs,?_⟩
  all_goals first|trivial|exact⟨rfl,trivial⟩
 ·intro h26
  have hon:stOn C p=true:=by
   rw[stOn,<-qq,Bool.not_and,inC,JA];simpa [bne] using h26
  obtain⟨hpl,hlv,hpn,hgo⟩:=hS hon;dsimp only at hpl hlv hpn hgo
  have hin:0<=p/\p<C.length:=by
   rw[stOn,qh] at hon;exact inC_iff.1 hon.1
  obtain⟨P,hP⟩:∃P:Nat,p=P:=⟨p.toNat,by omega⟩;subst hP;rw[qE] at hpl hlv hgo;obtain⟨i,hi,hIi,hlvi,q,hq,hKk,_⟩:=plI_at hpl;have hcu:curI ⟨ns,ht,L,C⟩ (P:Int)=i:=by rw[curI,qE,hIi,qE]
  rw[hcu] at hpn;refine za (z6 ?_);refine Zrd [1,2,5] [0,1,2,3,4,5,6,7,8,9,10,11,12,13,14,15,16,17,18] [[],[],[],[],[],[],[],[],[],[],[],[],[],[],[],[],[],[],[]] [[],[],[],[],[],[],[],[],[],[],[],[],[],[],[],[],[],[],[]] ?_;intro K hK;iterate 13 (refine Zo (Zi [] []) ?_)
  refine Zo (Zi [] []) ?_;refine Zc1 (place_spec L hb L.length n C.length rfl ht (cbA C P).node (cbA C P).lvl) (id) ?_;rw[hIi,hKk];iterate 5 (refine Zo (Zi [] []) ?_)
  refine z11 (Zpr (hK _ _ ?_));clear hK K;refine z6 ?_;refine Zrs [1,2,5,55] ?_;refine z7 _ rfl ?_ ?_
  ·intro h55;have he:endB ⟨ns,ht,L,C⟩ (P:Int)=true:=by rw[endB,hcu,qE];exact h55
   refine sg [4] rfl ?_;intro K hK;iterate 2 (refine Zo Zl ?_)
   refine Zo Zl ?_;refine Zc1 (climb_spec L C hb n L.length C.length P ht rfl rfl hm6 (by omega) hlv (hgo he)) (id) ?_;refine Zo Zl ?_;refine z8 (Zpr (hK _ _ ?_));clear hK K;refine zd (hQ _ _ ?_);rw[stS,stI,stR,stC,hon,he,qE];simp only[Qb,Ji,Qh];refine zm (fun x=>if x=4 then 5 else if x=5 then 6 else x) (.bool true) (⟨6,[(1,uQ (.row ⟨true,false,89,5,L.length,lyW 2 L (clmI L ht (cbA C P)) 4 5 (clmR L ht P (cbA C P))⟩)),(4,z2x (clmR L ht P (cbA C P)).1),(5,z3h (clmR L ht P (cbA C P)).2),(3,uQ (.row ⟨true,false,58,3,C.length,cbs (C.set P (clmC ht (cbA C P)))⟩))]⟩) (.inl rfl) ?_;refine Zou ?_;refine⟨Zs,Zs,(Zg (fun x=>if x=4 then 5 else if x=5 then 6 else x)),Zs,?_⟩
   all_goals first|trivial|exact⟨rfl,trivial⟩
  ·intro h55;have he:endB ⟨ns,ht,L,C⟩ (P:Int)=false:=by rw[endB,hcu,qE];exact h55
   refine za ?_;refine sg [2,5,7,8] rfl ?_;intro K hK;iterate 7 (refine Zo Zl ?_)
   refine Zo Zl ?_;refine Zc1 (stepM_spec L hb i L.length hi P) (fun x=>if x=0 then 2 else 0) ?_;iterate 6 (refine Zo Zl ?_)
   refine z8 (Zpr (hK _ _ ?_));clear hK K;refine Zrs [8] ?_;refine Zrs [4] ?_;refine zd (hQ _ _ ?_);rw[stS,stI,stR,stC,hon,he,hcu];simp only[Qb,jP,Q8,qF,Qh,Qw];refine zm (fun x=>if x=4 then 5 else if x=5 then 6 else x) (.bool (stepOk (lyA L i).cs (lyA L i).ps P)) (⟨6,[(1,uQ (.row ⟨true,false,89,5,L.length,lyW 2 L i 4 5 (stepR (lyA L i).cs (lyA L i).ps P)⟩)),(4,z2x (stepR (lyA L i).cs (lyA L i).ps P).1),(5,z3h (stepR (lyA L i).cs (lyA L i).ps P).2),(3,uQ (.row ⟨true,false,58,3,C.length,cbs C⟩))]⟩) (.inl rfl) ?_;refine Zou ?_;refine⟨Zs,Zs,(Zg (fun x=>if x=4 then 5 else if x=5 then 6 else x)),Zs,?_⟩
   all_goals first|trivial|exact⟨rfl,trivial⟩
end
section
theorem shpL_le (ns:List Nd)(h:Nat):(z3n ns h).length<=(h+1)*ns.length:=by
 unfold z3n
 have:∀l:List Nat,(l.flatMap fun(n:Nat)=>(z4t (z52 ns) (n:Int)).map fun c=>((n:Int),c)).length<=l.length*ns.length:=fun l=>by
  induction l with
  |nil=>simp
  |cons a l ih=>
   rw[JS,qU,qB,QI,qV,jp];have:=clsN_len (z52 ns) (a:Int);rw[<-(z2f ns).length_eq] at this;omega
 have:=this (List.range (h+1));rwa [List.length_range] at this
section
variable {fo:Fo} {ls:Nat->List Int}
theorem Fsh.few (h:Fsh fo):fo.ns.length<=20:=h.sm
theorem Fsh.idsl (h:Fsh fo){i:Nat}(hi:i<fo.ly.length):(lyA fo.ly i).ids.length<=64/\(lyA fo.ly i).cs.length=(lyA fo.ly i).ids.length+2:=by
 have:=(h.at_ i hi).len;have e:=(h.at_ i hi).ids;have:=(h.sub hi).length_le;rw[<-(z2f fo.ns).length_eq] at this;have:=h.few;rw[e,qB];omega
theorem Fsh.lyB (h:Fsh fo):lyB fo.ly:=by
 have h64:=h.few;have h16:=h.h16;have hl:=shpL_le fo.ns fo.ht.toNat;have:(fo.ht.toNat+1)*fo.ns.length<=17*64:=j0 (by omega) (qW h64 (by decide));refine⟨by rw[h.len];omega,fun i=> ?_⟩
 by_cases hi:i<fo.ly.length
 ·have:=h.idsl hi;have:=(h.at_ i hi).pn;have:=h.m8;omega
 ·rw[lyA,qx,qQ (by omega)];exact⟨qp _,qp _,qp _⟩
theorem Fsh.lyC (h:Fsh fo):lyC fo.ly:=fun i hi=>(h.idsl hi).2
theorem FI.stH (h:FI fo ls){p:Int}(hs:stOn fo.cb p=true):StH fo p:=by
 rw[stOn,qh,qX,inC_iff] at hs;obtain⟨⟨p0,p1⟩,hk⟩:=hs;have hp:p.toNat<fo.cb.length:=by omega
 have hpp:((p.toNat:Nat):Int)=p:=by omega
 obtain⟨x,i,k,hw,ha,hc1,hc2,hc3,hc4⟩:=h.stands hp hk;have hI:=ha.pI;rw[hw.id] at hI;have hcur:curI fo p=i:=by rw[curI,hI,qE]
 have hl0:=hw.l0;have hlh:=hw.lh;have h16:=h.sh.h16;refine⟨by omega,by omega,by rw[hcur,(h.sh.at_ i ha.hi).pn];exact p1,fun he ho=> ?_⟩;rw[endB,hcur,qy] at he;rw[outB,qi,qg,qg] at ho;have hnn:(nxC (cbA fo.cb p.toNat)).node=(cbA fo.cb p.toNat).node:=by unfold nxC;split<;>rfl
 have hnk:(nxC (cbA fo.cb p.toNat)).kind=(cbA fo.cb p.toNat).kind:=by unfold nxC;split<;>rfl
 obtain⟨j,q,a⟩:=h.sh.place hw.mm (lv:=(nxC (cbA fo.cb p.toNat)).lvl) (by omega) (by omega);have hIj:=a.pI;have hKj:=a.pK;rw[hw.id,<-hnn] at hIj hKj;have hcel:=a.cel
 have hrest:=h.rest hp (fun j _ hj=>by
  have:j=i:=by omega
  subst this;exact he) j a.hi
 refine⟨by omega,?_⟩;rw[beginE,hIj,hKj,qE];unfold z4v;rw[(h.inv j a.hi).vb]
 have h1:(decide (p<0)||decide (((lyA fo.ly j).ps.length:Int)<=p))=false:=by
  rw[(h.sh.at_ j a.hi).pn,qi,qg,qg];omega
 have h2:(decide ((q:Int)+2<2)||decide (((lyA fo.ly j).cs.length:Int)<=q+2))=false:=by
  rw[qi,qg,qg];omega
 have h3:kindBad (nxC (cbA fo.cb p.toNat)).kind=false:=by
  rw[kindBad,hnk,qi,qg,qg];have:=hw.k;omega
 rw[h1,h2,h3,hrest]
 rfl
theorem upL_out (L:List Ly)(i:Nat)(h:L.length<=i)(cs:List Cl)(ps:List Pr):upL L i cs ps=L:=by
 unfold upL;exact List.set_eq_of_length_le h
theorem FI.stS (h:FI fo ls)(p:Int):stS fo p=stepFB fo p:=by
 unfold Go.Proofs.stS stepFB;rw[h.vf,Qb]
 cases hs:stOn fo.cb p with
 |false=>rw[stOn] at hs;rw[hs];rfl
 |true=>
  have hH:=h.stH hs;rw[stOn] at hs;rw[hs,Qb,Qb]
  cases he:endB fo p with
  |false=>rfl
  |true=>
   simp only[Ji,Qh]
   cases ho:outB fo.ht (nxC (cbA fo.cb p.toNat)) with
   |true=>rfl
   |false=>rw[(hH.go he ho).2];rfl
theorem begR_eq {L:List Ly}{p:Int}{c:Cb}(h:beginE L p c=0):upL L (plI L c.node c.lvl).toNat (begR L p c).1 (begR L p c).2=beginL L p c:=by
 rw[beginE] at h;rw[beginL,begR,z5i,qf h]
theorem FI.stF (h:FI fo ls){p:Int}(hs:stepFB fo p=true):stepFR fo p={fo with ly:=upL fo.ly (stI fo p) (stR fo p).1 (stR fo p).2,cb:=stC fo p}:=by
 have h0:=h.stS p;rw[hs] at h0
 have hon:stOn fo.cb p=true:=by
  unfold Go.Proofs.stS at h0;rw[qh] at h0;exact h0.1
 have hH:=h.stH hon;unfold stepFR stI stR stC;rw[h.vf,hs,hon];simp only[Qn,qF,Qw,Qh,Qb]
 cases he:endB fo p with
 |false=>simp only[qF,Qw]
 |true=>
  simp only[Qh]
  cases ho:outB fo.ht (nxC (cbA fo.cb p.toNat)) with
  |true=>
   simp only[Qh,clmI,clmR,clmC,ho];rw[upL_out _ _ (qd _)]
  |false=>
   simp only[qF,Qw,clmI,clmR,clmC,ho];rw[begR_eq (hH.go he ho).2]
theorem FI.stN (h:FI fo ls){p:Int}(hs:stepFB fo p=false):stepFR fo p=fo:=by
 unfold stepFR;rw[h.vf,hs];rfl
end
theorem lyW_M2 (f:Nat)(L:List Ly)(j b c:Nat)(r:List Cl×List Pr)(q:Nat)(hq:q<L.length):lyW f L j b c r q=SV.renPL (mvM (fun x=>x) f (ms2 j b c)) (lyR f (upL L j r.1 r.2) q):=by
 rw[lyR_renM2,lyW]
 by_cases e:q=j
 ·subst e;rw[qf rfl,qf rfl,upL_eq hq]
 ·rw[qb e,qb e,lyR,lyR,upL_ne (Qv e)]
theorem lyF_consU {ρ:Nat->Nat}{f j b c m:Nat}{os l:List (Nat×Nat×(Nat->Sk.Obj))}{L:List Ly}{r:List Cl×List Pr}(hf:Sk.find os (ρ f)=some (3*L.length+1,fam true 3 1 (lyF true L)))
  (hb:Sk.find os b=some (z2x r.1)) (hc:Sk.find os c=some (z3h r.2)) (hm:f<m) (ht:z1b (mvM ρ f (ms2 j b c)) m os l):z1b (mvM ρ f (ms2 j b c)) m os ((f,(3*L.length+1,fam true 3 1 (lyF true (upL L j r.1 r.2))))::l):=by
 by_cases hj:j<L.length
 ·exact lyF_cons2 (x:={lyA L j with cs:=r.1,ps:=r.2}) hf hb hc (upL_eq hj ..) rfl (fun i hne=>upL_ne (Qv hne) ..) hm ht
 ·rw[upL_out _ _ (by omega)];refine z1b.consF hf (by omega) ⟨fun _=>⟨rfl,rfl⟩,rfl⟩ (by unfold ms2;rw[qb (by omega),qb (by omega)]) (fun i hi=> ?_) hm ht;have e:ms2 j b c (i+1)=none:=by unfold ms2;rw[qb (by omega),qb (by omega)]
  rw[e];exact⟨hi,lyF_givesP _ _ _ _ _ _ id rfl,z3l ..⟩
open JnUm (gxE)
open JnTm (axE exE)
open JnNm (oxE)
open D0 (sdE)
theorem Step_spec (fo:Fo)(ls:Nat->List Int)(h:FI fo ls)(n k m:Nat)(p:Int)(hn:fo.ns.length=n)(hk:fo.ly.length=k)(hm:fo.cb.length=m):
  zf prog 27 [.agg [.slc false 0 0 0 n,.int .i64 fo.ht,.slc false 1 0 0 k,.slc false 3 0 0 m],.int .i64 p] ⟨4,[(0,uQ (.row ⟨false,false,62,3,n,nds fo.ns⟩)),(1,uQ (.row ⟨false,false,89,5,k,lyR 2 fo.ly⟩)),(2,(3*k+1,fam false 3 1 (lyF false fo.ly))),(3,uQ (.row ⟨false,false,58,3,m,cbs fo.cb⟩))]⟩
   (fun s H1=>s= .tup [.agg [.slc true 4 0 0 n,.int .i64 fo.ht,.slc true 5 0 0 k,.slc true 7 0 0 m],.bool (stepFB fo p)]/\H1=⟨8,[(4,uQ (.row ⟨true,false,62,3,n,nds fo.ns⟩)),(5,uQ (.row ⟨true,false,89,5,k,lyR 6 (stepFR fo p).ly⟩)),(6,(3*k+1,fam true 3 1 (lyF true (stepFR fo p).ly))),(7,uQ (.row ⟨true,false,58,3,m,cbs (stepFR fo p).cb⟩))]⟩):=by
 have hb:=h.sh.lyB;have h64:=h.sh.few;have h8:=h.sh.m8;have hh0:=h.sh.h0;have hh16:=h.sh.h16;have hvf:=h.vf;subst hn hk hm;refine zf.ofC false 20 [.cell 4 34,.tmp 5] func27 rfl rfl ntmps27 results27 rfl ?_;intro w0 own0 β0 Q hQ hQn;simp only[z18];refine Zrs [1,2,4] ?_;refine z6 ?_;refine sg [1,2,4,9] rfl ?_;intro K hK;refine Zo Zl ?_;refine Zo Zl ?_;refine Zc1 (valid_specF fo hb fo.ns.length fo.ly.length fo.cb.length rfl rfl rfl (by omega) (by omega) (by omega)) (id) ?_;rw[hvf];refine Zo Zl ?_;refine z8 (Zpr (hK _ _ ?_));clear hK K;refine z7 _ rfl ?_ ?_
 ·intro h9
  exfalso;simp at h9
 ·intro h9
  refine za ?_;refine sg [1,2,4,6] rfl ?_;intro K hK;refine Zo Zl ?_;refine Zo Zl ?_;refine Zc1 (clone_specF fo hb fo.ns.length fo.ly.length fo.cb.length rfl rfl rfl (by omega) (by omega)) (id) ?_;iterate 2 (refine Zo Zl ?_)
  refine z8 (Zpr (hK _ _ ?_));clear hK K;refine z6 ?_;refine sg [2,4,6,16] rfl ?_;intro K hK;iterate 2 (refine Zo Zl ?_)
  refine Zo Zl ?_;refine Zc1 (step_specF fo hb fo.ns.length fo.ly.length fo.cb.length p rfl rfl (by omega) h.stH) (fun x=>if x=0 then 6 else if x=1 then 7 else if x=2 then 8 else if x=3 then 9 else x) ?_;rw[h.stS p];refine Zo Zl ?_;refine z8 (Zpr (hK _ _ ?_));clear hK K;refine z7 _ rfl ?_ ?_
  ·intro h16;have hsb:stepFB fo p=false:=by simpa using h16
   refine sg [4,5] rfl ?_;intro K hK;refine Zo Zl ?_;refine Zo Zl ?_;refine Zc1 (clone_specF fo hb fo.ns.length fo.ly.length fo.cb.length rfl rfl rfl (by omega) (by omega)) (id) ?_;iterate 2 (refine Zo Zl ?_)
   refine z8 (Zpr (hK _ _ ?_));clear hK K;refine zd (hQ _ _ ?_);rw[h.stN hsb,hsb];refine zm (fun x=>if x=4 then 13 else if x=5 then 14 else if x=6 then 15 else if x=7 then 16 else x) (.tup [.agg [.slc true 4 0 0 fo.ns.length,.int .i64 fo.ht,.slc true 5 0 0 fo.ly.length,.slc true 7 0 0 fo.cb.length],.bool false]) (⟨8,[(4,uQ (.row ⟨true,false,62,3,fo.ns.length,nds fo.ns⟩)),(5,uQ (.row ⟨true,false,89,5,fo.ly.length,lyR 6 fo.ly⟩)),(6,(3*fo.ly.length+1,fam true 3 1 (lyF true fo.ly))),(7,uQ (.row ⟨true,false,58,3,fo.cb.length,cbs fo.cb⟩))]⟩) (.inl rfl) ?_;refine Zou ?_;refine⟨Zs,Zs,(Zg (fun x=>if x=4 then 13 else if x=5 then 14 else if x=6 then 15 else if x=7 then 16 else x)),Zs,?_⟩
   all_goals first|trivial|exact⟨rfl,trivial⟩
  ·intro h16;have hsb:stepFB fo p=true:=by simpa using h16
   refine za (z6 ?_);have hout:∀q,q<fo.ly.length->lyW 8 fo.ly (stI fo p) 11 12 (stR fo p) q=SV.renPL (mvM (fun x=>x) 8 (ms2 (stI fo p) 11 12)) (lyR 8 (upL fo.ly (stI fo p) (stR fo p).1 (stR fo p).2) q):=fun q hq=>lyW_M2 8 fo.ly (stI fo p) 11 12 (stR fo p) q hq;refine z4p (fr':=[(4,.ptr 5 0 0 0),(6,.ptr 10 0 0 0)]) (H':=⟨11,[(10,uQ (.row ⟨true,true,34,4,1,fun _=>[.slc true 6 0 0 fo.ns.length,.int .i64 fo.ht,.slc true 7 0 0 fo.ly.length,.slc true 9 0 0 fo.cb.length]⟩)),(7,uQ (.row ⟨true,false,89,5,fo.ly.length,lyR 8 (upL fo.ly (stI fo p) (stR fo p).1 (stR fo p).2)⟩)),(8,(3*fo.ly.length+1,fam true 3 1 (lyF true (upL fo.ly (stI fo p) (stR fo p).1 (stR fo p).2)))),(9,uQ (.row ⟨true,false,58,3,fo.cb.length,cbs (stC fo p)⟩)),(6,uQ (.row ⟨true,false,62,3,fo.ns.length,nds fo.ns⟩)),(5,uQ (.row ⟨true,true,34,4,1,fun _=>[.nils,.int .i64 0,.nils,.nils]⟩))]⟩) _ (Zgm (fun x=>x) (8) (ms2 (stI fo p) 11 12) (ms2_ok _ (by decide) ⟨rfl,rfl⟩ ⟨qc rfl,qc rfl⟩) ((z10 (by decide) rfl ql (zq.of (fun _=>⟨rfl,rfl⟩) rfl (qd _) (fun _ _=>rfl)) (Obj.lt_row.2 fun q _=>by simp[SV.ltL,SV.lt]) (qc rfl) (z10 (by decide) rfl ql (zq.of (fun _=>⟨rfl,rfl⟩) rfl (qd _) (hout)) (Obj.lt_row.2 fun q _=>(lyR_lt _ _ _ q).2 (qc rfl)) (qc rfl) (lyF_consU (r:=stR fo p) rfl rfl rfl (qc rfl) (z10 (by decide) rfl ql (zq.of (fun _=>⟨rfl,rfl⟩) rfl (qd _) (fun q _=>(cbs_renP _ _ q).symm)) (Obj.lt_row.2 fun q _=>cbs_lt _ _ q) (qc rfl) (z10 (by decide) rfl ql (zq.of (fun _=>⟨rfl,rfl⟩) rfl (qd _) (fun q _=>(z33 _ _ q).symm)) (Obj.lt_row.2 fun q _=>z4e _ _ q) (qc rfl) (z10 (by decide) rfl ql (zq.of (fun _=>⟨rfl,rfl⟩) rfl (qd _) (fun _ _=>rfl)) (Obj.lt_row.2 fun q _=>by simp[SV.ltL,SV.lt]) (qc rfl) trivial)))))))) ?_
   refine Zrg [4,5] ?_;refine zd (hQ _ _ ?_);rw[h.stF hsb,hsb];dsimp only;refine zm (fun x=>if x=4 then 6 else if x=5 then 7 else if x=6 then 8 else if x=7 then 9 else x) (.tup [.agg [.slc true 4 0 0 fo.ns.length,.int .i64 fo.ht,.slc true 5 0 0 fo.ly.length,.slc true 7 0 0 fo.cb.length],.bool true]) (⟨8,[(4,uQ (.row ⟨true,false,62,3,fo.ns.length,nds fo.ns⟩)),(5,uQ (.row ⟨true,false,89,5,fo.ly.length,lyR 6 (upL fo.ly (stI fo p) (stR fo p).1 (stR fo p).2)⟩)),(6,(3*fo.ly.length+1,fam true 3 1 (lyF true (upL fo.ly (stI fo p) (stR fo p).1 (stR fo p).2)))),(7,uQ (.row ⟨true,false,58,3,fo.cb.length,cbs (stC fo p)⟩))]⟩) (.inl rfl) ?_;refine Zou ?_;refine⟨Zs,Zs,(Zg (fun x=>if x=4 then 6 else if x=5 then 7 else if x=6 then 8 else if x=7 then 9 else x)),Zs,?_⟩
   all_goals first|trivial|exact⟨rfl,trivial⟩
end
section
section
variable {X:Cx} {Q:Exit->Fr->AH->Prop} {fr:Fr} {H:AH} {l:List Code}
theorem z38 {c:Code}(id j:Nat)(e:TypeId)(sz:Nat)(f:Nat->List SV){F:Nat->Sk.Obj}{r:Row}{n':Nat}{os':List (Nat×Nat×(Nat->Sk.Obj))}(hf:Sk.find H.os id=some (1,F):=by rfl)(hr:F 0= .row r:=by rfl)(hv:r.var=true:=by rfl)(hn:r.n=1:=by rfl)(ho:r.own=true:=by rfl)
  (hs:(r.f 0).all SV.scalar=true:=by rfl) (hlen:(r.f 0).length=r.sz:=by rfl) (hj:(r.f 0)[j]? =some .nils:=by rfl) (hlt:id<H.nxt:=by dsimp only;omega) (hrl:SV.ltL H.nxt (r.f 0):=by simp[SV.ltL,SV.lt])
  (e1:H.nxt+1=n':=by simp only[Nat.reduceAdd];rfl) (e2:setO ((H.nxt,uQ (.row ⟨true,false,e,sz,0,f⟩))::H.os) id 0 (.row {r with f:=fun _=>(r.f 0).set j (.slc true H.nxt 0 0 0)})=os':=by simp only[setO,↓reduceIte,Nat.reduceEqDiff,Nat.reduceAdd,QN,QM,reduceCtorEq,uQ];rfl)
  (h:Cs X (c::l) Q fr ⟨n',os'⟩):Cs X (c::l) Q fr H:=by
 subst e1 e2;exact z4w id j e sz f hf hr hv hn ho hs hlen hj hlt hrl h
end
def nfS (e:Int):SV:= .tup [.agg [.slc true 4 0 0 0,.int .i64 0,.slc true 5 0 0 0,.slc true 7 0 0 0],.int .i64 e]
def nfH:AH:=⟨8,[(4,uQ (.row ⟨true,false,62,3,0,nds []⟩)),(5,uQ (.row ⟨true,false,89,5,0,lyR 6 []⟩)),(6,(3*0+1,fam true 3 1 (lyF true []))),(7,uQ (.row ⟨true,false,58,3,0,cbs []⟩))]⟩
def JnXm.exE:=aj9 @z17 @zg @zi @zn @zk @z12 @z1a ec2 (aj9 @zj @zt @zo @zl ec13 @zp z43 z4y (aj9 @zu ec3 ec5 @z1d.eq_1 @zz.eq_1 @ints.eq_1 ec33 ec34 (aj3 ec35 @z47.eq_1 @Cb.sv.eq_1)))
def JnXm.gxE:=aj9 @z17 z43 ec16 z4y ec3 ec7 ec8 @z1d.eq_1 (aj8 @zz.eq_1 @z1v @z1t ec36 ec26 ec29 @z47.eq_1 @Cb.sv.eq_1)
def JnXm.axE:=aj9 @z17 @zg @zi @zn @zk @z12 @z1a ec2 (aj9 @zj @zt @zo @zl ec13 @zp z43 z4y (aj9 @zu ec3 ec5 @z1d.eq_1 @zz.eq_1 ec33 ec34 @z47.eq_1 (aj7 @Cb.sv.eq_1 @z1q @z26 @z2n @z31 ec37 @z40)))
open JnXm (gxE axE exE)
open JnNm (oxE)
open D0 (sdE)
theorem busyTest (v:Int)(x:Cb):zf prog 60 [.agg x.sv,.ptr 0 0 0 0] ⟨1,[(0,z47 v)]⟩ (fun s H1=>s= .bool (x.kind !=0 && x.node==v)/\H1=⟨1,[]⟩):=by
 rw[Cb.sv];refine zf.ofC false 13 [.tmp 3] func60 rfl rfl ntmps60 results60 rfl ?_;intro w0 own0 β0 Q hQ hQn;simp only[z18];refine Zrs [1,2] ?_;refine Zrs [3] ?_;refine zd (hQ _ _ ?_);refine zb (H':=⟨1,[]⟩) (.inl rfl) ?_;refine Zou ?_;refine⟨Zs,(Zg id),Zs,?_⟩
 first|trivial|exact⟨rfl,trivial⟩
theorem busyI_spec (v:Int)(C:List Cb)(m:Nat)(hm:C.length=m)(hx:m<=1000000):
  zf prog 97 [.slc false 0 0 0 m,.fn 60 [.ptr 1 0 0 0]] ⟨2,[(0,uQ (.row ⟨false,false,58,3,m,cbs C⟩)),(1,z47 v)]⟩
   (fun s H1=>s= .int .i64 (idxB m fun i=>(cbA C i).kind !=0 && (cbA C i).node==v)/\H1=⟨2,[]⟩):=by
 refine zf.ofC false 19 [.tmp 4] func97 rfl rfl ntmps97 results97 rfl ?_;intro w0 own0 β0 Q hQ hQn;simp only[z18];refine Zrs [0,1] ?_;refine z6 ?_;refine Zrs [0,1,7,8] ?_;refine zc fun Q0 hN0 hX0 hR0 hE0=> ?_;refine zx (σ:=Nat) (fun i=>i<=m/\∀q,q<i->((cbA C q).kind !=0 && (cbA C q).node==v)=false) (fun i=>m-i) (fun i=>[(0,.slc false 0 0 0 m),(1,.fn 60 [.ptr 1 0 0 0]),(7,.int .i64 m),(8,.int .i64 i)]) (fun _=>⟨2,[(0,uQ (.row ⟨false,false,58,3,m,cbs C⟩)),(1,z47 v)]⟩) 0 ⟨qp _,fun q h=>by omega⟩ (ρ:=id) (Zg id) ?_;rintro i hi QL1 hL1 hRL1 hEL1;refine Zrs [0,1,7,8,9] ?_;refine z6 ?_;refine z7 _ rfl ?_ ?_
 ·intro h9;replace h9:=Znb h9;obtain⟨hi1,hi2⟩:=hi;refine za (z6 (zc fun Q1 hN1 hX1 hR1 hE1=> ?_));refine Zrs [0,1,5,7,8] ?_;refine sg [0,1,5,7,8,16] rfl ?_;intro K hK;iterate 5 (refine Zo Zl ?_)
  refine Zo Zl ?_;refine Zc1 (busyTest v (cbA C i)) (fun _=>1) ?_;refine z8 (Zpr (hK _ _ ?_));clear hK K;refine z7 _ rfl ?_ ?_
  ·intro h16
   refine Zrs [4] ?_;refine zd (hR1 _ _ (hRL1 _ _ (hR0 _ _ (hQ _ _ ?_))));refine zb (H':=⟨2,[]⟩) (.inl rfl) ?_;refine Zou ?_;refine⟨Zs,(Zg id),Zs,?_⟩;rw[idxB_at (p:=fun i=>(cbA C i).kind !=0 && (cbA C i).node==v) h16 (by omega) hi2];exact⟨rfl,by trivial⟩
  ·intro h16
   refine za (ze (hN1 _ _ ?_));refine Zrg [0,1,7,8] ?_;refine ze (hL1 _ _ ?_);rw[show(i:Int)+1=((i+1:Nat):Int) from by omega];refine⟨i+1,⟨⟨by omega,fun q hq=> ?_⟩,by omega⟩,id,(Zg id)⟩
   by_cases e:q=i
   ·subst e;exact h16
   ·exact hi2 q (by omega)
 ·intro h9;replace h9:=Znb h9;obtain⟨hi1,hi2⟩:=hi;refine zw (hEL1 _ _ _ (hX0 _ _ ?_));refine Zrs [4] ?_;refine zd (hQ _ _ ?_);refine zb (H':=⟨2,[]⟩) (.inl rfl) ?_;refine Zou ?_;refine⟨Zs,(Zg id),Zs,?_⟩;rw[idxB_none (p:=fun i=>(cbA C i).kind !=0 && (cbA C i).node==v) fun q hq=>hi2 q (by omega)];exact⟨rfl,by trivial⟩
theorem busyF_spec (v:Int)(C:List Cb)(m:Nat)(hm:C.length=m)(hx:m<=1000000):
  zf prog 59 [.slc false 0 0 0 m,.fn 60 [.ptr 1 0 0 0]] ⟨2,[(0,uQ (.row ⟨false,false,58,3,m,cbs C⟩)),(1,z47 v)]⟩
   (fun s H1=>s= .bool (busyF C v)/\H1=⟨2,[]⟩):=by
 refine zf.ofC false 9 [.tmp 4] func59 rfl rfl ntmps59 results59 rfl ?_;intro w0 own0 β0 Q hQ hQn;simp only[z18];refine Zrs [0,1] ?_;refine sg [4] rfl ?_;intro K hK;iterate 2 (refine Zo Zl ?_)
 refine Zo Zl ?_;refine Zc1 (busyI_spec v C m hm hx) (id) ?_;iterate 2 (refine Zo Zl ?_)
 refine z8 (Zpr (hK _ _ ?_));clear hK K;refine zd (hQ _ _ ?_);refine zb (H':=⟨2,[]⟩) (.inl rfl) ?_;refine Zou ?_;refine⟨Zs,(Zg id),Zs,?_⟩;rw[idxB_any,busyF,hm]
 first|trivial|exact⟨rfl,by trivial⟩
end
section
def JnYm.exE:=aj9 @z17 @zg @zi @zn @zk @z12 @z1a ec2 (aj9 @zj @zt @zo @zl ec13 @zp z43 z4y (aj9 @zu ec3 ec5 @z1d.eq_1 @zz.eq_1 @ints.eq_1 ec33 ec34 (aj3 ec35 ec43 @z47.eq_1)))
def JnYm.gxE:=aj9 @z17 z43 ec16 z4y ec3 ec7 ec8 @z1d.eq_1 (aj9 @zz.eq_1 @z1v @z1t ec36 ec26 ec29 ec44 @lyW_out (aj @fam0_rowK @z47.eq_1))
def JnYm.axE:=aj9 @z17 @zg @zi @zn @zk @z12 @z1a ec2 (aj9 @zj @zt @zo @zl ec13 @zp z43 z4y (aj9 @zu ec3 ec5 @z1d.eq_1 @zz.eq_1 ec33 ec34 ec43 (aj8 @z47.eq_1 @z1q @z26 @z2n @z31 ec37 @z40 @lyW_ren)))
open JnYm (gxE axE exE)
open JnNm (oxE)
open D0 (sdE)
theorem Start_spec (fo:Fo)(ls:Nat->List Int)(h:FI fo ls)(n k m:Nat)(p kind v:Int)(hn:fo.ns.length=n)(hk:fo.ly.length=k)(hm:fo.cb.length=m):
  zf prog 25 [.agg [.slc false 0 0 0 n,.int .i64 fo.ht,.slc false 1 0 0 k,.slc false 3 0 0 m],.int .i64 p,.int .i64 kind,.int .i64 v] ⟨4,[(0,uQ (.row ⟨false,false,62,3,n,nds fo.ns⟩)),(1,uQ (.row ⟨false,false,89,5,k,lyR 2 fo.ly⟩)),(2,(3*k+1,fam false 3 1 (lyF false fo.ly))),(3,uQ (.row ⟨false,false,58,3,m,cbs fo.cb⟩))]⟩
   (fun s H1=>s= .tup [.agg [.slc true 4 0 0 (z1u fo p kind v).ns.length,.int .i64 (z1u fo p kind v).ht,.slc true 5 0 0 (z1u fo p kind v).ly.length,.slc true 7 0 0 (z1u fo p kind v).cb.length],.int .i64 (z2t fo p kind v)]/\H1=⟨8,[(4,uQ (.row ⟨true,false,62,3,(z1u fo p kind v).ns.length,nds (z1u fo p kind v).ns⟩)),(5,uQ (.row ⟨true,false,89,5,(z1u fo p kind v).ly.length,lyR 6 (z1u fo p kind v).ly⟩)),(6,(3*(z1u fo p kind v).ly.length+1,fam true 3 1 (lyF true (z1u fo p kind v).ly))),(7,uQ (.row ⟨true,false,58,3,(z1u fo p kind v).cb.length,cbs (z1u fo p kind v).cb⟩))]⟩):=by
 have hb:=h.sh.lyB;have hlc:=h.sh.lyC;have hx64:=h.sh.few;have hx8:=h.sh.m8;have hh0:=h.sh.h0;have hh16:=h.sh.h16;have hvf:=h.vf;subst hn hk hm;refine zf.ofC false 109 [.cell 8 34,.tmp 9] func25 rfl rfl ntmps25 results25 rfl ?_;intro w0 own0 β0 Q hQ hQn;simp only[z18];refine Zrs [1,2,4,7,8] ?_;refine z6 ?_;refine sg [1,2,4,7,8,17] rfl ?_;intro K hK;refine Zo Zl ?_;refine Zo Zl ?_;refine Zc1 (valid_specF fo hb fo.ns.length fo.ly.length fo.cb.length rfl rfl rfl (by omega) (by omega) (by omega)) (id) ?_;rw[hvf];refine Zo Zl ?_;refine z8 (Zpr (hK _ _ ?_));clear hK K;refine z7 _ rfl ?_ ?_
 ·intro h17
  exfalso;simp at h17
 ·intro h17
  refine za (z6 ?_);refine Zrs [1,2,4,7,8,27] ?_;refine z7 _ rfl ?_ ?_
  ·intro h27;have g27:inC fo.cb p=false:=by rw[inC,h27];rfl
   refine Zrs [8,9] ?_;refine z23 3 1 (lyF true []) ?_;dsimp only;refine z38 6 0 62 3 (nds []) (h:= ?_);refine z38 6 2 89 5 (lyR 7 []) (h:= ?_);refine z38 6 3 58 3 (cbs []) (h:= ?_);refine zd (hQ _ _ ?_)
   have hE:z2t fo p kind v=2:=by
    rw[z2t,hvf,qb (by decide),qf (by rw[g27];rfl)]
   have hR:z1u fo p kind v=noFo:=by rw[z1u,hE,qb (by decide)]
   rw[hE,hR];refine zm (fun x=>if x=4 then 8 else if x=5 then 9 else if x=6 then 7 else if x=7 then 10 else x) (nfS 2) nfH (.inl rfl) ?_;unfold nfS nfH;refine Zou ?_;refine⟨Zs,Zs,(Zg (fun x=>if x=4 then 8 else if x=5 then 9 else if x=6 then 7 else if x=7 then 10 else x)),Zs,?_⟩
   all_goals first|trivial|exact⟨rfl,trivial⟩
  ·intro h27;have g27:inC fo.cb p=true:=by rw[inC,h27];rfl
   have g27':=inC_iff.1 g27;refine za ?_;refine sg [1,2,4,7,8,11] rfl ?_;intro K hK;iterate 3 (refine Zo Zl ?_)
   refine Zo Zl ?_;refine Zc1 (find_spec fo.ns v fo.ns.length rfl (by omega)) (id) ?_;iterate 6 (refine Zo Zl ?_)
   refine z8 (Zpr (hK _ _ ?_));clear hK K;refine sg [1,2,4,7,8,11,12] rfl ?_;intro K hK;iterate 3 (refine Zo Zl ?_)
   refine Zo Zl ?_;refine Zc1 (busyF_spec v fo.cb fo.cb.length rfl (by omega)) (fun x=>if x=0 then 3 else if x=1 then 5 else x) ?_;refine Zo Zl ?_;refine z8 (Zpr (hK _ _ ?_));clear hK K;refine z6 (zc fun Q0 hN0 hX0 hR0 hE0=> ?_);refine Zrs [1,2,4,7,8,12,40] ?_;refine z7 _ rfl ?_ ?_
   ·intro h40;have g40:z44 fo.ns v<0:=by simpa using h40
    refine Zrs [8,9] ?_;refine z23 3 1 (lyF true []) ?_;dsimp only;refine z38 6 0 62 3 (nds []) (h:= ?_);refine z38 6 2 89 5 (lyR 8 []) (h:= ?_);refine z38 6 3 58 3 (cbs []) (h:= ?_);refine zd (hR0 _ _ (hQ _ _ ?_))
    have hE:z2t fo p kind v=6:=by
     rw[z2t,hvf,qb (by decide),qb (by rw[g27];decide),qf g40]
    have hR:z1u fo p kind v=noFo:=by rw[z1u,hE,qb (by decide)]
    rw[hE,hR];refine zm (fun x=>if x=4 then 9 else if x=5 then 10 else if x=6 then 8 else if x=7 then 11 else x) (nfS 6) nfH (.inl rfl) ?_;unfold nfS nfH;refine Zou ?_;refine⟨Zs,Zs,(Zg (fun x=>if x=4 then 9 else if x=5 then 10 else if x=6 then 8 else if x=7 then 11 else x)),Zs,?_⟩
    all_goals first|trivial|exact⟨rfl,trivial⟩
   ·intro h40;have g40:¬z44 fo.ns v<0:=by simpa using h40
    refine Zrs [1,2,4,7,8,12,44] ?_;refine z7 _ rfl ?_ ?_
    ·intro h44;have g44:kind≠1/\kind≠2:=by simpa using h44
     refine Zrs [8,9] ?_;refine z23 3 1 (lyF true []) ?_;dsimp only;refine z38 6 0 62 3 (nds []) (h:= ?_);refine z38 6 2 89 5 (lyR 8 []) (h:= ?_);refine z38 6 3 58 3 (cbs []) (h:= ?_);refine zd (hR0 _ _ (hQ _ _ ?_))
     have hE:z2t fo p kind v=1:=by
      rw[z2t,hvf,qb (by decide),qb (by rw[g27];decide),qb g40,qf g44]
     have hR:z1u fo p kind v=noFo:=by rw[z1u,hE,qb (by decide)]
     rw[hE,hR];refine zm (fun x=>if x=4 then 9 else if x=5 then 10 else if x=6 then 8 else if x=7 then 11 else x) (nfS 1) nfH (.inl rfl) ?_;unfold nfS nfH;refine Zou ?_;refine⟨Zs,Zs,(Zg (fun x=>if x=4 then 9 else if x=5 then 10 else if x=6 then 8 else if x=7 then 11 else x)),Zs,?_⟩
     all_goals first|trivial|exact⟨rfl,trivial⟩
    ·intro h44
     have g44:¬(kind≠1/\kind≠2):=by
      intro g;rw[show(kind !=1 && kind !=2)=true by simpa using g] at h44;cases h44
     refine Zrs [1,2,4,7,8,12,52] ?_;refine z7 _ rfl ?_ ?_
     ·intro h52;have g52:(cbA fo.cb p.toNat).kind≠0:=by simpa using h52
      refine Zrs [8,9] ?_;refine z23 3 1 (lyF true []) ?_;dsimp only;refine z38 6 0 62 3 (nds []) (h:= ?_);refine z38 6 2 89 5 (lyR 8 []) (h:= ?_);refine z38 6 3 58 3 (cbs []) (h:= ?_);refine zd (hR0 _ _ (hQ _ _ ?_))
      have hE:z2t fo p kind v=7:=by
       rw[z2t,hvf,qb (by decide),qb (by rw[g27];decide),qb g40,qb g44,qf g52]
      have hR:z1u fo p kind v=noFo:=by rw[z1u,hE,qb (by decide)]
      rw[hE,hR];refine zm (fun x=>if x=4 then 9 else if x=5 then 10 else if x=6 then 8 else if x=7 then 11 else x) (nfS 7) nfH (.inl rfl) ?_;unfold nfS nfH;refine Zou ?_;refine⟨Zs,Zs,(Zg (fun x=>if x=4 then 9 else if x=5 then 10 else if x=6 then 8 else if x=7 then 11 else x)),Zs,?_⟩
      all_goals first|trivial|exact⟨rfl,trivial⟩
     ·intro h52;have g52:¬(cbA fo.cb p.toNat).kind≠0:=by simpa using h52
      refine Zrs [1,2,4,7,8,61] ?_;refine z7 _ rfl ?_ ?_
      ·intro h61;have g61:busyF fo.cb v=true:=h61;refine Zrs [8,9] ?_;refine z23 3 1 (lyF true []) ?_;dsimp only;refine z38 6 0 62 3 (nds []) (h:= ?_);refine z38 6 2 89 5 (lyR 8 []) (h:= ?_);refine z38 6 3 58 3 (cbs []) (h:= ?_);refine zd (hR0 _ _ (hQ _ _ ?_))
       have hE:z2t fo p kind v=13:=by
        rw[z2t,hvf,qb (by decide),qb (by rw[g27];decide),qb g40,qb g44,qb g52,qf g61]
       have hR:z1u fo p kind v=noFo:=by rw[z1u,hE,qb (by decide)]
       rw[hE,hR];refine zm (fun x=>if x=4 then 9 else if x=5 then 10 else if x=6 then 8 else if x=7 then 11 else x) (nfS 13) nfH (.inl rfl) ?_;unfold nfS nfH;refine Zou ?_;refine⟨Zs,Zs,(Zg (fun x=>if x=4 then 9 else if x=5 then 10 else if x=6 then 8 else if x=7 then 11 else x)),Zs,?_⟩
       all_goals first|trivial|exact⟨rfl,trivial⟩
      ·intro h61;have g61:busyF fo.cb v=false:=h61;refine sg [1,2,4,7,8,64] rfl ?_;intro K hK
       have hk15:∀B:Bool,B=(kind==1 && memF fo.ly v 0)->K [(1,.int .i64 p),(2,.int .i64 kind),(4,.ptr 4 0 0 0),(7,.ptr 5 0 0 0),(8,.ptr 6 0 0 0),(64,.bool B)] ⟨8,[(7,uQ (.row ⟨true,true,62,3,1,fun _=>[.int .i64 (findN fo.ns v).id,.str (findN fo.ns v).key,.int .u32 (findN fo.ns v).word]⟩)),(6,uQ (.row ⟨true,true,34,4,1,fun _=>[.nils,.int .i64 0,.nils,.nils]⟩)),(5,uQ (.row ⟨true,true,3,1,1,fun _=>[.int .i64 v]⟩)),(4,uQ (.row ⟨true,true,34,4,1,fun _=>[.slc false 0 0 0 fo.ns.length,.int .i64 fo.ht,.slc false 1 0 0 fo.ly.length,.slc false 3 0 0 fo.cb.length]⟩)),(0,uQ (.row ⟨false,false,62,3,fo.ns.length,nds fo.ns⟩)),(1,uQ (.row ⟨false,false,89,5,fo.ly.length,lyR 2 fo.ly⟩)),(2,(3*fo.ly.length+1,fam false 3 1 (lyF false fo.ly))),(3,uQ (.row ⟨false,false,58,3,fo.cb.length,cbs fo.cb⟩))]⟩:=by
        intro B hB;subst hB;refine hK _ _ ?_;clear hK K;refine z7 _ rfl ?_ ?_
        ·intro h64;have g64:kind=1/\memF fo.ly v 0=true:=by simpa using h64
         refine Zrs [8,9] ?_;refine z23 3 1 (lyF true []) ?_;dsimp only;refine z38 6 0 62 3 (nds []) (h:= ?_);refine z38 6 2 89 5 (lyR 8 []) (h:= ?_);refine z38 6 3 58 3 (cbs []) (h:= ?_);refine zd (hR0 _ _ (hQ _ _ ?_))
         have hE:z2t fo p kind v=5:=by
          rw[z2t,hvf,qb (by decide),qb (by rw[g27];decide),qb g40,qb g44,qb g52,qb (by rw[g61];decide),qf g64]
         have hR:z1u fo p kind v=noFo:=by rw[z1u,hE,qb (by decide)]
         rw[hE,hR];refine zm (fun x=>if x=4 then 9 else if x=5 then 10 else if x=6 then 8 else if x=7 then 11 else x) (nfS 5) nfH (.inl rfl) ?_;unfold nfS nfH;refine Zou ?_;refine⟨Zs,Zs,(Zg (fun x=>if x=4 then 9 else if x=5 then 10 else if x=6 then 8 else if x=7 then 11 else x)),Zs,?_⟩
         all_goals first|trivial|exact⟨rfl,trivial⟩
        ·intro h64;have g64:¬(kind=1/\memF fo.ly v 0=true):=by simpa using h64
         refine sg [1,2,4,7,8,73] rfl ?_;intro K hK
         have hk17:∀B:Bool,B=(kind==2 && !memF fo.ly v 0)->K [(1,.int .i64 p),(2,.int .i64 kind),(4,.ptr 4 0 0 0),(7,.ptr 5 0 0 0),(8,.ptr 6 0 0 0),(73,.bool B)] ⟨8,[(7,uQ (.row ⟨true,true,62,3,1,fun _=>[.int .i64 (findN fo.ns v).id,.str (findN fo.ns v).key,.int .u32 (findN fo.ns v).word]⟩)),(6,uQ (.row ⟨true,true,34,4,1,fun _=>[.nils,.int .i64 0,.nils,.nils]⟩)),(5,uQ (.row ⟨true,true,3,1,1,fun _=>[.int .i64 v]⟩)),(4,uQ (.row ⟨true,true,34,4,1,fun _=>[.slc false 0 0 0 fo.ns.length,.int .i64 fo.ht,.slc false 1 0 0 fo.ly.length,.slc false 3 0 0 fo.cb.length]⟩)),(0,uQ (.row ⟨false,false,62,3,fo.ns.length,nds fo.ns⟩)),(1,uQ (.row ⟨false,false,89,5,fo.ly.length,lyR 2 fo.ly⟩)),(2,(3*fo.ly.length+1,fam false 3 1 (lyF false fo.ly))),(3,uQ (.row ⟨false,false,58,3,fo.cb.length,cbs fo.cb⟩))]⟩:=by
          intro B hB;subst hB;refine hK _ _ ?_;clear hK K;refine z7 _ rfl ?_ ?_
          ·intro h73;have g73:kind=2/\memF fo.ly v 0=false:=by simpa using h73
           refine Zrs [8,9] ?_;refine z23 3 1 (lyF true []) ?_;dsimp only;refine z38 6 0 62 3 (nds []) (h:= ?_);refine z38 6 2 89 5 (lyR 8 []) (h:= ?_);refine z38 6 3 58 3 (cbs []) (h:= ?_);refine zd (hR0 _ _ (hQ _ _ ?_))
           have hE:z2t fo p kind v=18:=by
            rw[z2t,hvf,qb (by decide),qb (by rw[g27];decide),qb g40,qb g44,qb g52,qb (by rw[g61];decide),qb g64,qf g73]
           have hR:z1u fo p kind v=noFo:=by rw[z1u,hE,qb (by decide)]
           rw[hE,hR];refine zm (fun x=>if x=4 then 9 else if x=5 then 10 else if x=6 then 8 else if x=7 then 11 else x) (nfS 18) nfH (.inl rfl) ?_;unfold nfS nfH;refine Zou ?_;refine⟨Zs,Zs,(Zg (fun x=>if x=4 then 9 else if x=5 then 10 else if x=6 then 8 else if x=7 then 11 else x)),Zs,?_⟩
           all_goals first|trivial|exact⟨rfl,trivial⟩
          ·intro h73;have g73:¬(kind=2/\memF fo.ly v 0=false):=by simpa using h73
           refine za (ze (hN0 _ _ (z6 ?_)))
           obtain⟨x,s⟩:∃x,Sok fo p kind v x:=by
            rw[inC_iff] at g27;obtain⟨x,hx,hxi⟩:=findI_mem (show 0<=z44 fo.ns v by omega);refine⟨x,g27.1,by omega,by omega,hx,hxi,by omega,by simpa using g61,?_⟩;have gk:kind=1\/kind=2:=by omega
            rcases gk with e|e<;>subst e
            ·cases hm:memF fo.ly v 0 with
             |false=>rfl
             |true=>exact absurd ⟨rfl,hm⟩ g64
            ·cases hm:memF fo.ly v 0 with
             |true=>rfl
             |false=>exact absurd ⟨rfl,hm⟩ g73
           obtain⟨hB,_⟩:=h.start_begin s
           have hE:z2t fo p kind v=0:=by
            rw[z2t,hvf,qb (by decide),qb (by rw[g27];decide),qb g40,qb g44,qb g52,qb (by rw[g61];decide),qb g64,qb g73,hB]
           have hR:z1u fo p kind v={fo with ly:=beginL fo.ly p (begC fo.ht kind v),cb:=fo.cb.set p.toNat (begC fo.ht kind v)}:=by rw[z1u,qf hE]
           have hpl:=s.pl;obtain⟨P,hP⟩:∃P:Nat,p=P:=⟨p.toNat,by have:=s.p0;omega⟩;rw[hP] at hpl hB hR hE;rw[qE] at hpl hR;rw[hP]
           have hgo:0<=plI fo.ly (begC fo.ht kind v).node (begC fo.ht kind v).lvl:=by
            obtain⟨i,k,a⟩:=h.sh.place s.mm (lv:=(begC fo.ht kind v).lvl) (by unfold begC;dsimp only;split<;>omega) (by unfold begC;dsimp only;split<;>omega);have:=a.pI;rw[s.ide] at this;rw[show(begC fo.ht kind v).node=v from rfl,this];omega
           refine z3c [1,2,4,7,8,13] rfl ?_;intro K hK;refine Zo Zl ?_;refine Zo Zl ?_;refine Zc1 (clone_specF fo hb fo.ns.length fo.ly.length fo.cb.length rfl rfl rfl (by omega) (by omega)) (id) ?_;iterate 2 (refine Zo Zl ?_)
           refine z8 (Zpr (hK _ _ ?_));clear hK K;refine sg [1,2,4,8,13] rfl ?_;intro K hK;iterate 8 (refine Zo Zl ?_)
           rw[cbs_put' _ _ _ _ _ hpl];repeat(with_reducible apply qe;exact sdE)
           refine z8 (Zpr (hK _ _ ?_));clear hK K;refine z6 ?_;refine Zrs [1,4,8,13,93] ?_;refine z7 _ rfl ?_ ?_
           ·intro h93;replace h93:=Znb h93;obtain⟨C1,hC1⟩:∃C1,fo.cb.set P ⟨kind,v,0⟩=C1:=⟨_,rfl⟩;have hC1l:C1.length=fo.cb.length:=by rw[<-hC1,qC]
            have hC1p:cbA C1 P=⟨kind,v,0⟩:=by rw[<-hC1];exact z4r hpl
            have hC2:C1.set P ⟨kind,v,fo.ht⟩=fo.cb.set P (begC fo.ht kind v):=by rw[<-hC1,List.set_set,begC,qf h93]
            rw[hC1];refine z3c [1,8,13] rfl ?_;intro K hK;iterate 8 (refine Zo Zl ?_)
            rw[cbs_put' _ _ _ _ _ (by omega),hC1p,hC2];repeat(with_reducible apply qe;exact sdE)
            refine z8 (Zpr (hK _ _ ?_));clear hK K;refine z6 (z6 ?_);obtain⟨C2,hC2'⟩:∃C2,fo.cb.set P (begC fo.ht kind v)=C2:=⟨_,rfl⟩;have hC2l:C2.length=fo.cb.length:=by rw[<-hC2',qC]
            have hC2p:cbA C2 P=begC fo.ht kind v:=by rw[<-hC2'];exact z4r hpl
            rw[hC2'];refine z3c [8,13,14] rfl ?_;intro K hK;iterate 2 (refine Zo Zl ?_)
            refine Zo Zl ?_;refine Zc1 (begin_spec fo.ly C2 hb fo.ns.length fo.ly.length fo.cb.length P fo.ht rfl hC2l (by omega) (by omega) (by rw[hC2p];exact hgo) (by rw[hC2p];exact hB)) (fun x=>if x=0 then 8 else if x=1 then 9 else if x=2 then 10 else if x=3 then 11 else x) ?_;rw[hC2p];refine Zo Zl ?_;refine z8 (Zpr (hK _ _ ?_));clear hK K;refine Zrs [8,13,14,105] ?_;refine z7 _ rfl ?_ ?_
            ·intro h105
             exfalso;simp at h105
            ·intro h105
             refine za (z6 ?_);obtain⟨I,hIe⟩:∃I,(plI fo.ly (begC fo.ht kind v).node (begC fo.ht kind v).lvl).toNat=I:=⟨_,rfl⟩;obtain⟨R,hRe⟩:∃R,begR fo.ly (P:Int) (begC fo.ht kind v)=R:=⟨_,rfl⟩;have hUp:=begR_eq hB;rw[hIe,hRe] at hUp;rw[hIe,hRe];have hout:∀q,q<fo.ly.length->lyW 10 fo.ly I 13 14 R q=SV.renPL (mvM (fun x=>x) 10 (ms2 I 13 14)) (lyR 10 (upL fo.ly I R.1 R.2) q):=fun q hq=>lyW_M2 10 fo.ly I 13 14 R q hq;refine z4p (fr':=[(8,.ptr 6 0 0 0),(13,.ptr 12 0 0 0)]) (H':=⟨13,[(12,uQ (.row ⟨true,true,34,4,1,fun _=>[.slc true 8 0 0 fo.ns.length,.int .i64 fo.ht,.slc true 9 0 0 fo.ly.length,.slc true 11 0 0 fo.cb.length]⟩)),(9,uQ (.row ⟨true,false,89,5,fo.ly.length,lyR 10 (upL fo.ly I R.1 R.2)⟩)),(10,(3*fo.ly.length+1,fam true 3 1 (lyF true (upL fo.ly I R.1 R.2)))),(11,uQ (.row ⟨true,false,58,3,fo.cb.length,cbs C2⟩)),(8,uQ (.row ⟨true,false,62,3,fo.ns.length,nds fo.ns⟩)),(6,uQ (.row ⟨true,true,34,4,1,fun _=>[.nils,.int .i64 0,.nils,.nils]⟩))]⟩) _ (Zgm (fun x=>x) (10) (ms2 I 13 14) (ms2_ok _ (by decide) ⟨rfl,rfl⟩ ⟨qc rfl,qc rfl⟩) ((z10 (by decide) rfl ql (zq.of (fun _=>⟨rfl,rfl⟩) rfl (qd _) (fun _ _=>rfl)) (Obj.lt_row.2 fun q _=>by simp[SV.ltL,SV.lt]) (qc rfl) (z10 (by decide) rfl ql (zq.of (fun _=>⟨rfl,rfl⟩) rfl (qd _) (hout)) (Obj.lt_row.2 fun q _=>(lyR_lt _ _ _ q).2 (qc rfl)) (qc rfl) (lyF_consU (r:=R) rfl rfl rfl (qc rfl) (z10 (by decide) rfl ql (zq.of (fun _=>⟨rfl,rfl⟩) rfl (qd _) (fun q _=>(cbs_renP _ _ q).symm)) (Obj.lt_row.2 fun q _=>cbs_lt _ _ q) (qc rfl) (z10 (by decide) rfl ql (zq.of (fun _=>⟨rfl,rfl⟩) rfl (qd _) (fun q _=>(z33 _ _ q).symm)) (Obj.lt_row.2 fun q _=>z4e _ _ q) (qc rfl) (z10 (by decide) rfl ql (zq.of (fun _=>⟨rfl,rfl⟩) rfl (qd _) (fun _ _=>rfl)) (Obj.lt_row.2 fun q _=>by simp[SV.ltL,SV.lt]) (qc rfl) trivial)))))))) ?_
             refine Zrg [8,9] ?_;refine zd (hQ _ _ ?_);rw[hP,hE,hR];dsimp only;rw[hC2',<-hUp,upL_len,hC2l];refine zm (fun x=>if x=4 then 8 else if x=5 then 9 else if x=6 then 10 else if x=7 then 11 else x) (.tup [.agg [.slc true 4 0 0 fo.ns.length,.int .i64 fo.ht,.slc true 5 0 0 fo.ly.length,.slc true 7 0 0 fo.cb.length],.int .i64 0]) (⟨8,[(4,uQ (.row ⟨true,false,62,3,fo.ns.length,nds fo.ns⟩)),(5,uQ (.row ⟨true,false,89,5,fo.ly.length,lyR 6 (upL fo.ly I R.1 R.2)⟩)),(6,(3*fo.ly.length+1,fam true 3 1 (lyF true (upL fo.ly I R.1 R.2)))),(7,uQ (.row ⟨true,false,58,3,fo.cb.length,cbs C2⟩))]⟩) (.inl rfl) ?_;refine Zou ?_;refine⟨Zs,Zs,(Zg (fun x=>if x=4 then 8 else if x=5 then 9 else if x=6 then 10 else if x=7 then 11 else x)),Zs,?_⟩
             all_goals first|trivial|exact⟨rfl,trivial⟩
           ·intro h93;replace h93:=Znb h93;have hC2:fo.cb.set P ⟨kind,v,0⟩=fo.cb.set P (begC fo.ht kind v):=by rw[begC,qb h93]
            rw[hC2];refine za (z6 (z6 ?_));obtain⟨C2,hC2'⟩:∃C2,fo.cb.set P (begC fo.ht kind v)=C2:=⟨_,rfl⟩;have hC2l:C2.length=fo.cb.length:=by rw[<-hC2',qC]
            have hC2p:cbA C2 P=begC fo.ht kind v:=by rw[<-hC2'];exact z4r hpl
            rw[hC2'];refine z3c [8,13,14] rfl ?_;intro K hK;iterate 2 (refine Zo Zl ?_)
            refine Zo Zl ?_;refine Zc1 (begin_spec fo.ly C2 hb fo.ns.length fo.ly.length fo.cb.length P fo.ht rfl hC2l (by omega) (by omega) (by rw[hC2p];exact hgo) (by rw[hC2p];exact hB)) (fun x=>if x=0 then 8 else if x=1 then 9 else if x=2 then 10 else if x=3 then 11 else x) ?_;rw[hC2p];refine Zo Zl ?_;refine z8 (Zpr (hK _ _ ?_));clear hK K;refine Zrs [8,13,14,105] ?_;refine z7 _ rfl ?_ ?_
            ·intro h105
             exfalso;simp at h105
            ·intro h105
             refine za (z6 ?_);obtain⟨I,hIe⟩:∃I,(plI fo.ly (begC fo.ht kind v).node (begC fo.ht kind v).lvl).toNat=I:=⟨_,rfl⟩;obtain⟨R,hRe⟩:∃R,begR fo.ly (P:Int) (begC fo.ht kind v)=R:=⟨_,rfl⟩;have hUp:=begR_eq hB;rw[hIe,hRe] at hUp;rw[hIe,hRe];have hout:∀q,q<fo.ly.length->lyW 10 fo.ly I 13 14 R q=SV.renPL (mvM (fun x=>x) 10 (ms2 I 13 14)) (lyR 10 (upL fo.ly I R.1 R.2) q):=fun q hq=>lyW_M2 10 fo.ly I 13 14 R q hq;refine z4p (fr':=[(8,.ptr 6 0 0 0),(13,.ptr 12 0 0 0)]) (H':=⟨13,[(12,uQ (.row ⟨true,true,34,4,1,fun _=>[.slc true 8 0 0 fo.ns.length,.int .i64 fo.ht,.slc true 9 0 0 fo.ly.length,.slc true 11 0 0 fo.cb.length]⟩)),(9,uQ (.row ⟨true,false,89,5,fo.ly.length,lyR 10 (upL fo.ly I R.1 R.2)⟩)),(10,(3*fo.ly.length+1,fam true 3 1 (lyF true (upL fo.ly I R.1 R.2)))),(11,uQ (.row ⟨true,false,58,3,fo.cb.length,cbs C2⟩)),(8,uQ (.row ⟨true,false,62,3,fo.ns.length,nds fo.ns⟩)),(6,uQ (.row ⟨true,true,34,4,1,fun _=>[.nils,.int .i64 0,.nils,.nils]⟩))]⟩) _ (Zgm (fun x=>x) (10) (ms2 I 13 14) (ms2_ok _ (by decide) ⟨rfl,rfl⟩ ⟨qc rfl,qc rfl⟩) ((z10 (by decide) rfl ql (zq.of (fun _=>⟨rfl,rfl⟩) rfl (qd _) (fun _ _=>rfl)) (Obj.lt_row.2 fun q _=>by simp[SV.ltL,SV.lt]) (qc rfl) (z10 (by decide) rfl ql (zq.of (fun _=>⟨rfl,rfl⟩) rfl (qd _) (hout)) (Obj.lt_row.2 fun q _=>(lyR_lt _ _ _ q).2 (qc rfl)) (qc rfl) (lyF_consU (r:=R) rfl rfl rfl (qc rfl) (z10 (by decide) rfl ql (zq.of (fun _=>⟨rfl,rfl⟩) rfl (qd _) (fun q _=>(cbs_renP _ _ q).symm)) (Obj.lt_row.2 fun q _=>cbs_lt _ _ q) (qc rfl) (z10 (by decide) rfl ql (zq.of (fun _=>⟨rfl,rfl⟩) rfl (qd _) (fun q _=>(z33 _ _ q).symm)) (Obj.lt_row.2 fun q _=>z4e _ _ q) (qc rfl) (z10 (by decide) rfl ql (zq.of (fun _=>⟨rfl,rfl⟩) rfl (qd _) (fun _ _=>rfl)) (Obj.lt_row.2 fun q _=>by simp[SV.ltL,SV.lt]) (qc rfl) trivial)))))))) ?_
             refine Zrg [8,9] ?_;refine zd (hQ _ _ ?_);rw[hP,hE,hR];dsimp only;rw[hC2',<-hUp,upL_len,hC2l];refine zm (fun x=>if x=4 then 8 else if x=5 then 9 else if x=6 then 10 else if x=7 then 11 else x) (.tup [.agg [.slc true 4 0 0 fo.ns.length,.int .i64 fo.ht,.slc true 5 0 0 fo.ly.length,.slc true 7 0 0 fo.cb.length],.int .i64 0]) (⟨8,[(4,uQ (.row ⟨true,false,62,3,fo.ns.length,nds fo.ns⟩)),(5,uQ (.row ⟨true,false,89,5,fo.ly.length,lyR 6 (upL fo.ly I R.1 R.2)⟩)),(6,(3*fo.ly.length+1,fam true 3 1 (lyF true (upL fo.ly I R.1 R.2)))),(7,uQ (.row ⟨true,false,58,3,fo.cb.length,cbs C2⟩))]⟩) (.inl rfl) ?_;refine Zou ?_;refine⟨Zs,Zs,(Zg (fun x=>if x=4 then 8 else if x=5 then 9 else if x=6 then 10 else if x=7 then 11 else x)),Zs,?_⟩
             all_goals first|trivial|exact⟨rfl,trivial⟩
         iterate 5 (refine Zo Zl ?_)
         refine z16 ?_;refine z2e rfl rfl ?_;refine Zgr ?_
         first|refine z1r ?_ ?_|refine(fun(h1:false=true->_) (h2:false=false->_)=>qe h1 fun _=>h2 rfl) ?_ ?_|refine qe ?_ ?_
         ·intro hg5
          first
           |(simp at hg5;done)
           |skip
            try replace hg5:=Znb hg5
            refine Zo id ?_;refine Zc1 (member_spec fo.ly hb hlc fo.ly.length fo.ns.length fo.cb.length rfl fo.ht v 0) (id) ?_;iterate 3 (refine Zo Zl ?_)
            refine z8 ?_;refine Zpr ?_;refine hk17 _ ?_;clear hk17 K hK;simp_all
         ·intro hg5;refine⟨.bool false,?_⟩
          first
           |(simp at hg5;done)
           |skip
            try replace hg5:=Znb hg5
            iterate 3 (refine Zo Zl ?_)
            refine z8 ?_;refine Zpr ?_;refine hk17 _ ?_;clear hk17 K hK;simp_all
       iterate 5 (refine Zo Zl ?_)
       refine z16 ?_;refine z2e rfl rfl ?_;refine Zgr ?_
       first|refine z1r ?_ ?_|refine(fun(h1:false=true->_) (h2:false=false->_)=>qe h1 fun _=>h2 rfl) ?_ ?_|refine qe ?_ ?_
       ·intro hg5
        first
         |(simp at hg5;done)
         |skip
          try replace hg5:=Znb hg5
          refine Zo id ?_;refine Zc1 (member_spec fo.ly hb hlc fo.ly.length fo.ns.length fo.cb.length rfl fo.ht v 0) (id) ?_;iterate 2 (refine Zo Zl ?_)
          refine z8 ?_;refine Zpr ?_;refine hk15 _ ?_;clear hk15 K hK;simp_all
       ·intro hg5;refine⟨.bool false,?_⟩
        first
         |(simp at hg5;done)
         |skip
          try replace hg5:=Znb hg5
          iterate 2 (refine Zo Zl ?_)
          refine z8 ?_;refine Zpr ?_;refine hk15 _ ?_;clear hk15 K hK;simp_all
end
section
def z3m (fo:Fo)(lv:Int):List Int:=if 0<=lv/\lv<=fo.ht then((z52 fo.ns).filter fun x=>memF fo.ly x.id lv).map (·.id) else []
theorem map_snoc (l:List Nd)(x:Nd):(l++[x]).map (·.id)=l.map (·.id)++[x.id]:=by simp
def JnZm.exE:=aj9 @z17 @zg @zi @zn @zk @z12 @z1a ec2 (aj9 @zj @zt @zo @zl ec13 @zp z43 z4y (aj9 @zu ec3 ec5 @z1d.eq_1 @zz.eq_1 @ints.eq_1 ec33 ec34 (aj3 ec35 @z1c @app_intsN)))
def JnZm.axE:=aj9 @z17 @zg @zi @zn @zk @z12 @z1a ec2 (aj9 @zj @zt @zo @zl ec13 @zp z43 z4y (aj9 @zu ec3 ec5 @z1d.eq_1 @zz.eq_1 ec33 ec34 @z1c (aj7 @app_intsN @z1q @z26 @z2n @z31 ec37 @z40)))
open JnNm (gxE oxE)
open JnZm (axE exE)
open D0 (sdE)
theorem Present_spec (fo:Fo)(ls:Nat->List Int)(h:FI fo ls)(n k m:Nat)(lv:Int)(hn:fo.ns.length=n)(hk:fo.ly.length=k)(hm:fo.cb.length=m):
  zf prog 33 [.agg [.slc false 0 0 0 n,.int .i64 fo.ht,.slc false 1 0 0 k,.slc false 3 0 0 m],.int .i64 lv] ⟨4,[(0,uQ (.row ⟨false,false,62,3,n,nds fo.ns⟩)),(1,uQ (.row ⟨false,false,89,5,k,lyR 2 fo.ly⟩)),(2,(3*k+1,fam false 3 1 (lyF false fo.ly))),(3,uQ (.row ⟨false,false,58,3,m,cbs fo.cb⟩))]⟩
   (fun s H1=>s= .slc true 4 0 0 (z3m fo lv).length/\H1=⟨5,[(4,uQ (.row ⟨true,false,3,1,(z3m fo lv).length,ints (z3m fo lv)⟩))]⟩):=by
 have hb:=h.sh.lyB;have hlc:=h.sh.lyC;have hx64:=h.sh.few;have hx8:=h.sh.m8;have hh0:=h.sh.h0;have hh16:=h.sh.h16;have hvf:=h.vf;subst hn hk hm;have hsl:(z52 fo.ns).length=fo.ns.length:=(z2f fo.ns).length_eq.symm;refine zf.ofC false 41 [.tmp 4] func33 rfl rfl ntmps33 results33 rfl ?_;intro w0 own0 β0 Q hQ hQn;simp only[z18];refine Zrs [1,2] ?_;refine z6 ?_;refine sg [1,2,20] rfl ?_;intro K hK;refine Zo Zl ?_;refine Zo Zl ?_;refine Zc1 (valid_specF fo hb fo.ns.length fo.ly.length fo.cb.length rfl rfl rfl (by omega) (by omega) (by omega)) (id) ?_;rw[hvf];iterate 11 (refine Zo Zl ?_)
 refine z8 (Zpr (hK _ _ ?_));clear hK K;refine z7 _ rfl ?_ ?_
 ·intro h20
  have hno:¬(0<=lv/\lv<=fo.ht):=by
   rintro⟨g1,g2⟩;rcases(by simpa using h20:lv<0\/fo.ht<lv) with g|g<;>omega
  refine Zrs [4] ?_;refine z2d 4 3 1 (ints []) rfl ?_;dsimp only;refine zd (hQ _ _ ?_);rw[show z3m fo lv=[] by rw[z3m,qb hno]];refine zm (fun x=>if x=4 then 5 else x) (.slc true 4 0 0 ([]:List Int).length) (⟨5,[(4,uQ (.row ⟨true,false,3,1,([]:List Int).length,ints []⟩))]⟩) (.inl rfl) ?_;refine Zou ?_;refine⟨Zs,Zs,(Zg (fun x=>if x=4 then 5 else x)),Zs,?_⟩
  all_goals first|trivial|exact⟨rfl,trivial⟩
 ·intro h20
  have hyes:0<=lv/\lv<=fo.ht:=by
   have:¬(lv<0\/fo.ht<lv):=by intro g;rw[show(decide (lv<0)||decide (fo.ht<lv))=true by simpa using g] at h20;cases h20
   omega
  refine za ?_;refine Zrs [1,2,5] ?_;refine z6 ?_;refine sg [1,2,5,23,24,25] rfl ?_;intro K hK;iterate 2 (refine Zo Zl ?_)
  refine Zo Zl ?_;refine Zc1 (sort_spec fo.ns fo.ns.length rfl (by omega)) (id) ?_;iterate 2 (refine Zo Zl ?_)
  refine z8 (Zpr (hK _ _ ?_));clear hK K;obtain⟨s,hs⟩:∃s,z52 fo.ns=s:=⟨_,rfl⟩;rw[hs] at hsl ⊢;obtain⟨P,hP⟩:∃P:Nd->Bool,(fun x:Nd=>memF fo.ly x.id lv)=P:=⟨_,rfl⟩;have hPx:∀x:Nd,memF fo.ly x.id lv=P x:=fun x=>by rw[<-hP]
  refine z2d 5 3 1 (ints (((s.take 0).filter P).map (·.id))) rfl ?_;dsimp only;refine zc fun Q0 hN0 hX0 hR0 hE0=> ?_;refine zx (σ:=Nat) (fun i=>i<=fo.ns.length) (fun i=>fo.ns.length-i) (fun i=>[(1,.int .i64 lv),(2,.ptr 4 0 0 0),(5,.slc true 6 0 0 (((s.take i).filter P).map (·.id)).length),(23,.slc true 5 0 0 fo.ns.length),(24,.int .i64 fo.ns.length),(25,.int .i64 i)]) (fun i=>⟨7,[(6,uQ (.row ⟨true,false,3,1,(((s.take i).filter P).map (·.id)).length,ints (((s.take i).filter P).map (·.id))⟩)),(5,uQ (.row ⟨true,false,62,3,fo.ns.length,nds s⟩)),(4,uQ (.row ⟨true,true,34,4,1,fun _=>[.slc false 0 0 0 fo.ns.length,.int .i64 fo.ht,.slc false 1 0 0 fo.ly.length,.slc false 3 0 0 fo.cb.length]⟩)),(0,uQ (.row ⟨false,false,62,3,fo.ns.length,nds fo.ns⟩)),(1,uQ (.row ⟨false,false,89,5,fo.ly.length,lyR 2 fo.ly⟩)),(2,(3*fo.ly.length+1,fam false 3 1 (lyF false fo.ly))),(3,uQ (.row ⟨false,false,58,3,fo.cb.length,cbs fo.cb⟩))]⟩) 0 (qp _) (ρ:=id) (Zg id) ?_;rintro i hi QL1 hL1 hRL1 hEL1;refine Zrs [1,2,5,23,24,25,26] ?_;refine z6 ?_;refine z7 _ rfl ?_ ?_
  ·intro h26;replace h26:=Znb h26;have hst:=filter_step (xs:=s) (j:=i) (by omega) P;have hfl:((s.take i).filter P).length<=i:=qW (jC ..) (by rw[qO];omega);obtain⟨O,hO⟩:∃O,((s.take i).filter P).map (·.id)=O:=⟨_,rfl⟩;have hOl:O.length<=i:=by rw[<-hO,qB];exact hfl
   rw[hO];refine za (z6 (zc fun Q1 hN1 hX1 hR1 hE1=> ?_));refine Zrs [1,2,5,7,23,24,25] ?_;refine sg [1,2,5,7,23,24,25,33] rfl ?_;intro K hK;iterate 4 (refine Zo Zl ?_)
   refine Zo Zl ?_;refine Zc1 (member_spec fo.ly hb hlc fo.ly.length fo.ns.length fo.cb.length rfl fo.ht (nd s i).id lv) (id) ?_;rw[hPx];refine z8 (Zpr (hK _ _ ?_));clear hK K;refine z7 _ rfl ?_ ?_
   ·intro h33;rw[h33,qf rfl] at hst;refine Zrg [1,2,5,23,24,25] ?_;refine ze (hN1 _ _ ?_);refine Zrg [1,2,5,23,24,25] ?_;refine ze (hL1 _ _ ?_);have e1:((s.take (i+1)).filter P).map (·.id)=O++[(nd s i).id]:=by rw[hst,map_snoc,hO]
    rw[show(i:Int)+1=((i+1:Nat):Int) from by omega];refine⟨i+1,⟨by omega,by omega⟩,fun x=>if x=6 then 9 else x,?_⟩;rw[e1];exact(Zg (fun x=>if x=6 then 9 else x))
   ·intro h33;rw[h33,qb (by decide),jg] at hst;refine za (ze (hN1 _ _ ?_));refine Zrg [1,2,5,23,24,25] ?_;refine ze (hL1 _ _ ?_);rw[<-hO,show(i:Int)+1=((i+1:Nat):Int) from by omega,<-hst];exact⟨i+1,⟨by omega,by omega⟩,id,(Zg id)⟩
  ·intro h26;replace h26:=Znb h26;refine zw (hEL1 _ _ _ (hX0 _ _ ?_));refine Zrs [4] ?_;refine zd (hQ _ _ ?_);have hie:i=fo.ns.length:=by omega
   subst hie;rw[show z3m fo lv=(s.filter P).map (·.id) by rw[z3m,qf hyes,hs,hP],Qo (by omega:s.length<=fo.ns.length)];refine zm (fun x=>if x=4 then 6 else x) (.slc true 4 0 0 ((s.filter P).map (·.id)).length) (⟨5,[(4,uQ (.row ⟨true,false,3,1,((s.filter P).map (·.id)).length,ints ((s.filter P).map (·.id))⟩))]⟩) (.inl rfl) ?_;refine Zou ?_;refine⟨Zs,Zs,(Zg (fun x=>if x=4 then 6 else x)),Zs,?_⟩
   all_goals first|trivial|exact⟨rfl,trivial⟩
end
section
def bsyN (C:List Cb)(i:Nat):Nat:=sumR (fun p=>((cbA C p).kind !=0).toNat) i
theorem bsyN_le (C:List Cb):∀i,bsyN C i<=i
 |0=>qd _
 |i+1=>by
  have:=bsyN_le C i;have h:((cbA C i).kind !=0).toNat<=1:=by cases(cbA C i).kind !=0<;>decide
  simp only[bsyN,sumR] at this ⊢;omega
def boundF (fo:Fo):Int:=(busyN fo.cb:Int)*(fo.ht+1)*(((busyN fo.cb:Int)+1)*((fo.ns.length:Int)+7)+7)
theorem mul_in {a b A B:Int}(ha:0<=a/\a<=A)(hb:0<=b/\b<=B):0<=a*b/\a*b<=A*B:=⟨Int.mul_nonneg ha.1 hb.1,Int.mul_le_mul ha.2 hb.2 hb.1 (by omega)⟩
open JnNm (gxE axE oxE exE)
open D0 (sdE)
theorem Bound_spec (fo:Fo)(ls:Nat->List Int)(h:FI fo ls)(n k m:Nat)(hn:fo.ns.length=n)(hk:fo.ly.length=k)(hm:fo.cb.length=m):
  zf prog 35 [.agg [.slc false 0 0 0 n,.int .i64 fo.ht,.slc false 1 0 0 k,.slc false 3 0 0 m]] ⟨4,[(0,uQ (.row ⟨false,false,62,3,n,nds fo.ns⟩)),(1,uQ (.row ⟨false,false,89,5,k,lyR 2 fo.ly⟩)),(2,(3*k+1,fam false 3 1 (lyF false fo.ly))),(3,uQ (.row ⟨false,false,58,3,m,cbs fo.cb⟩))]⟩ (fun s H1=>s= .int .i64 (boundF fo)/\H1=⟨4,[]⟩):=by
 have hb:=h.sh.lyB;have hlc:=h.sh.lyC;have hx64:=h.sh.few;have hx8:=h.sh.m8;have hh0:=h.sh.h0;have hh16:=h.sh.h16;have hvf:=h.vf;subst hn hk hm;refine zf.ofC false 38 [.tmp 2] func35 rfl rfl ntmps35 results35 rfl ?_;intro w0 own0 β0 Q hQ hQn;simp only[z18];refine Zrs [1] ?_;refine z6 ?_;refine sg [1,9] rfl ?_;intro K hK;refine Zo Zl ?_;refine Zo Zl ?_;refine Zc1 (valid_specF fo hb fo.ns.length fo.ly.length fo.cb.length rfl rfl rfl (by omega) (by omega) (by omega)) (id) ?_;rw[hvf];refine Zo Zl ?_;refine z8 (Zpr (hK _ _ ?_));clear hK K;refine z7 _ rfl ?_ ?_
 ·intro h9
  exfalso;simp at h9
 ·intro h9
  refine za (z6 ?_);refine Zrd [1,3,4] [0,1,2,3,4] [[],[],[],[],[]] [[],[],[],[],[]] ?_;intro K hK;iterate 5 (refine Zo (Zi [] []) ?_)
  refine z11 (Zpr (hK _ _ ?_));clear hK K;refine z6 ?_;refine Zrs [1,3,4,14,15,16] ?_;refine zc fun Q0 hN0 hX0 hR0 hE0=> ?_;refine zx (σ:=Nat) (fun i=>i<=fo.cb.length) (fun i=>fo.cb.length-i) (fun i=>[(1,.ptr 4 0 0 0),(3,.int .i64 (bsyN fo.cb i)),(4,.int .i64 fo.ns.length),(14,.slc false 3 0 0 fo.cb.length),(15,.int .i64 fo.cb.length),(16,.int .i64 i)]) (fun i=>⟨5,[(4,uQ (.row ⟨true,true,34,4,1,fun _=>[.slc false 0 0 0 fo.ns.length,.int .i64 fo.ht,.slc false 1 0 0 fo.ly.length,.slc false 3 0 0 fo.cb.length]⟩)),(0,uQ (.row ⟨false,false,62,3,fo.ns.length,nds fo.ns⟩)),(1,uQ (.row ⟨false,false,89,5,fo.ly.length,lyR 2 fo.ly⟩)),(2,(3*fo.ly.length+1,fam false 3 1 (lyF false fo.ly))),(3,uQ (.row ⟨false,false,58,3,fo.cb.length,cbs fo.cb⟩))]⟩) 0 (qp _) (ρ:=id) (have xE:=aj @bsyN.eq_1 (aj @sumR.eq_1 @sumR.eq_2);Zgx id) ?_;rintro i hi QL1 hL1 hRL1 hEL1;refine Zrs [1,3,4,14,15,16,17] ?_;refine z6 ?_;refine z7 _ rfl ?_ ?_
  ·intro h17;replace h17:=Znb h17;have hbl:=bsyN_le fo.cb i;refine za (z6 (zc fun Q1 hN1 hX1 hR1 hE1=> ?_));refine Zrs [1,3,4,6,14,15,16] ?_;refine Zrs [1,3,4,14,15,16,22] ?_;refine z7 _ rfl ?_ ?_
   ·intro h22;have e1:bsyN fo.cb (i+1)=bsyN fo.cb i+1:=by rw[bsyN,sumR,h22];rfl
    refine Zrg [1,3,4,14,15,16] ?_;refine ze (hN1 _ _ ?_);refine Zrg [1,3,4,14,15,16] ?_;refine ze (hL1 _ _ ?_);rw[show(i:Int)+1=((i+1:Nat):Int) from by omega,show(bsyN fo.cb i:Int)+1=((bsyN fo.cb (i+1):Nat):Int) from by omega];exact⟨i+1,⟨by omega,by omega⟩,id,(Zg id)⟩
   ·intro h22;have e1:bsyN fo.cb (i+1)=bsyN fo.cb i:=by rw[bsyN,sumR,h22];rfl
    refine za (ze (hN1 _ _ ?_));refine Zrg [1,3,4,14,15,16] ?_;refine ze (hL1 _ _ ?_);rw[show(i:Int)+1=((i+1:Nat):Int) from by omega,<-e1];exact⟨i+1,⟨by omega,by omega⟩,id,(Zg id)⟩
  ·intro h17;replace h17:=Znb h17;have hbl:=bsyN_le fo.cb i;refine zw (hEL1 _ _ _ (hX0 _ _ (z6 ?_)));have hie:i=fo.cb.length:=by omega
   subst hie;have hM:bsyN fo.cb fo.cb.length=busyN fo.cb:=rfl;rw[hM] at hbl ⊢;obtain⟨M,hMe⟩:∃M,busyN fo.cb=M:=⟨_,rfl⟩;rw[hMe] at hbl ⊢;have p1:=mul_in (a:=(M:Int)) (b:=fo.ht+1) (A:=8) (B:=17) (by omega) (by omega);have p2:=mul_in (a:=(M:Int)+1) (b:=(fo.ns.length:Int)+7) (A:=9) (B:=71) (by omega) (by omega);have p3:=mul_in (a:=(M:Int)*(fo.ht+1)) (b:=((M:Int)+1)*((fo.ns.length:Int)+7)+7) (A:=136) (B:=646) (by omega) (by omega);refine Zrg [2] ?_;refine zd (hQ _ _ ?_);refine zb (H':=⟨4,[]⟩) (.inl rfl) ?_;refine Zou ?_;refine⟨Zs,(Zg id),Zs,?_⟩;rw[boundF,hMe];exact⟨rfl,by trivial⟩
theorem FI.nest {fo:Fo}{ls:Nat->List Int}(h:FI fo ls){x:Nd}(hx:x∈fo.ns){lv:Int}(l1:1<=lv)(lh:lv<=fo.ht)(hm:memF fo.ly x.id lv=true):memF fo.ly x.id (lv-1)=true:=by
 rw[memF_gone h.sh hx (by omega) lh,qk] at hm;rw[memF_gone h.sh hx (by omega) (by omega),qk]
 by_cases hb:busyF fo.cb x.id=false
 ·rw[h.lev x hx hb (lv-1) (by omega) (by omega),<-h.lev x hx hb lv (by omega) lh];exact hm
 ·have:¬∀p,p<fo.cb.length->(cbA fo.cb p).kind≠0->(cbA fo.cb p).node≠x.id:=fun g=>hb (z5c.2 g)
  have⟨p,hp,hk,hn⟩:∃p,p<fo.cb.length/\(cbA fo.cb p).kind≠0/\(cbA fo.cb p).node=x.id:=by
   refine Je fun g=>this fun p hp hk hn=>g ⟨p,hp,hk,hn⟩
  have g1:=h.low p hp hk lv (by omega) lh;have g2:=h.low p hp hk (lv-1) (by omega) (by omega);rw[hn] at g1 g2
  by_cases g:lv-1<(cbA fo.cb p).lvl
  ·exact g2.1 g
  ·rw[g1.2 (by omega)] at hm;cases hm
theorem presF_mem {fo:Fo}{lv:Int}{v:Int}:v∈z3m fo lv↔(0<=lv/\lv<=fo.ht)/\∃x∈fo.ns,x.id=v/\memF fo.ly v lv=true:=by
 unfold z3m
 split
 ·rename_i g;simp only[Qq,Jg,g,JG,QX]
  constructor
  ·rintro⟨x,⟨h1,h2⟩,rfl⟩;exact⟨x,(z2f fo.ns).mem_iff.2 h1,rfl,h2⟩
  ·rintro⟨x,h1,rfl,h2⟩;exact⟨x,⟨(z2f fo.ns).mem_iff.1 h1,h2⟩,rfl⟩
 ·rename_i g;simp[g]
theorem presF_len (fo:Fo)(lv:Int):(z3m fo lv).length<=fo.ns.length:=by
 unfold z3m
 split
 ·rw[qB];exact qW (jC ..) (by rw[<-(z2f fo.ns).length_eq];exact qd _)
 ·simp
theorem Check_spec (fo:Fo)(ls:Nat->List Int)(h:FI fo ls)(n k m:Nat)(hn:fo.ns.length=n)(hk:fo.ly.length=k)(hm:fo.cb.length=m):
  zf prog 32 [.agg [.slc false 0 0 0 n,.int .i64 fo.ht,.slc false 1 0 0 k,.slc false 3 0 0 m]] ⟨4,[(0,uQ (.row ⟨false,false,62,3,n,nds fo.ns⟩)),(1,uQ (.row ⟨false,false,89,5,k,lyR 2 fo.ly⟩)),(2,(3*k+1,fam false 3 1 (lyF false fo.ly))),(3,uQ (.row ⟨false,false,58,3,m,cbs fo.cb⟩))]⟩ (fun s H1=>s= .bool true/\H1=⟨4,[]⟩):=by
 have hb:=h.sh.lyB;have hlc:=h.sh.lyC;have hlb:=hb.1;have hx64:=h.sh.few;have hx8:=h.sh.m8;have hh0:=h.sh.h0;have hh16:=h.sh.h16;have hvf:=h.vf;subst hn hk hm;refine zf.ofC false 44 [.tmp 2] func32 rfl rfl ntmps32 results32 rfl ?_;intro w0 own0 β0 Q hQ hQn;simp only[z18];refine Zrs [1] ?_;refine z6 ?_;refine sg [1,10] rfl ?_;intro K hK;refine Zo Zl ?_;refine Zo Zl ?_;refine Zc1 (valid_specF fo hb fo.ns.length fo.ly.length fo.cb.length rfl rfl rfl (by omega) (by omega) (by omega)) (id) ?_;rw[hvf];refine Zo Zl ?_;refine z8 (Zpr (hK _ _ ?_));clear hK K;refine z7 _ rfl ?_ ?_
 ·intro h10
  exfalso;simp at h10
 ·intro h10
  refine za (z6 ?_);refine Zrs [1,12,13,14] ?_;refine zc fun Q0 hN0 hX0 hR0 hE0=> ?_;refine zx (σ:=Nat) (fun i=>i<=fo.ly.length) (fun i=>fo.ly.length-i) (fun i=>[(1,.ptr 4 0 0 0),(12,.slc false 1 0 0 fo.ly.length),(13,.int .i64 fo.ly.length),(14,.int .i64 i)]) (fun i=>⟨5,[(4,uQ (.row ⟨true,true,34,4,1,fun _=>[.slc false 0 0 0 fo.ns.length,.int .i64 fo.ht,.slc false 1 0 0 fo.ly.length,.slc false 3 0 0 fo.cb.length]⟩)),(0,uQ (.row ⟨false,false,62,3,fo.ns.length,nds fo.ns⟩)),(1,uQ (.row ⟨false,false,89,5,fo.ly.length,lyR 2 fo.ly⟩)),(2,(3*fo.ly.length+1,fam false 3 1 (lyF false fo.ly))),(3,uQ (.row ⟨false,false,58,3,fo.cb.length,cbs fo.cb⟩))]⟩) 0 (qp _) (ρ:=id) (Zg id) ?_;rintro i hi QL1 hL1 hRL1 hEL1;refine Zrs [1,12,13,14,15] ?_;refine z6 ?_;refine z7 _ rfl ?_ ?_
  ·intro h15;replace h15:=Znb h15;have hbi:=hb.2 i;refine za (z6 (zc fun Q1 hN1 hX1 hR1 hE1=> ?_));refine Zrs [1,4,12,13,14] ?_;refine sg [1,12,13,14,21] rfl ?_;intro K hK;iterate 2 (refine Zo Zl ?_)
   refine Zo Zl ?_;refine Zc1 (lyLsB fo.ly i fo.ly.length (by omega) (check_specL (lyA fo.ly i).cs (lyA fo.ly i).ps _ _ rfl rfl (by omega) (by omega))) (fun q=>if q=0 then 2 else 0) ?_;rw[(h.inv i (by omega)).check];refine Zo Zl ?_;refine z8 (Zpr (hK _ _ ?_));clear hK K;refine z7 _ rfl ?_ ?_
   ·intro h21
    exfalso;simp at h21
   ·intro h21
    refine za (ze (hN1 _ _ ?_));refine Zrg [1,12,13,14] ?_;refine ze (hL1 _ _ ?_);rw[show(i:Int)+1=((i+1:Nat):Int) from by omega];exact⟨i+1,⟨by omega,by omega⟩,id,(Zg id)⟩
  ·intro h15;replace h15:=Znb h15;refine zw (hEL1 _ _ _ (hX0 _ _ (z6 ?_)));refine Zrs [1,5] ?_;refine zc fun Q2 hN2 hX2 hR2 hE2=> ?_;refine zx (σ:=Nat) (fun i=>(i:Int)<=fo.ht+1/\1<=i\/i=1) (fun i=>fo.ht.toNat+1-i) (fun i=>[(1,.ptr 4 0 0 0),(5,.int .i64 i)]) (fun i=>⟨5,[(4,uQ (.row ⟨true,true,34,4,1,fun _=>[.slc false 0 0 0 fo.ns.length,.int .i64 fo.ht,.slc false 1 0 0 fo.ly.length,.slc false 3 0 0 fo.cb.length]⟩)),(0,uQ (.row ⟨false,false,62,3,fo.ns.length,nds fo.ns⟩)),(1,uQ (.row ⟨false,false,89,5,fo.ly.length,lyR 2 fo.ly⟩)),(2,(3*fo.ly.length+1,fam false 3 1 (lyF false fo.ly))),(3,uQ (.row ⟨false,false,58,3,fo.cb.length,cbs fo.cb⟩))]⟩) 1 (.inr rfl) (ρ:=id) (Zg id) ?_;rintro lv hlv QL2 hL2 hRL2 hEL2;refine z6 ?_;refine Zrs [1,5,26] ?_;refine z7 _ rfl ?_ ?_
   ·intro h26;replace h26:=Znb h26;have hlv1:1<=lv:=by omega
    refine za (z6 (zc fun Q3 hN3 hX3 hR3 hE3=> ?_));refine sg [1,5,31,32,33] rfl ?_;intro K hK;iterate 2 (refine Zo Zl ?_)
    refine Zo Zl ?_;refine Zc1 (Present_spec fo ls h fo.ns.length fo.ly.length fo.cb.length lv rfl rfl rfl) (id) ?_;have hpl:=presF_len fo lv;iterate 2 (refine Zo Zl ?_)
    refine z8 (Zpr (hK _ _ ?_));clear hK K;refine zc fun Q4 hN4 hX4 hR4 hE4=> ?_;refine zx (σ:=Nat) (fun i=>i<=(z3m fo lv).length) (fun i=>(z3m fo lv).length-i) (fun i=>[(1,.ptr 4 0 0 0),(5,.int .i64 lv),(31,.slc true 5 0 0 (z3m fo lv).length),(32,.int .i64 (z3m fo lv).length),(33,.int .i64 i)]) (fun i=>⟨6,[(5,uQ (.row ⟨true,false,3,1,(z3m fo lv).length,ints (z3m fo lv)⟩)),(4,uQ (.row ⟨true,true,34,4,1,fun _=>[.slc false 0 0 0 fo.ns.length,.int .i64 fo.ht,.slc false 1 0 0 fo.ly.length,.slc false 3 0 0 fo.cb.length]⟩)),(0,uQ (.row ⟨false,false,62,3,fo.ns.length,nds fo.ns⟩)),(1,uQ (.row ⟨false,false,89,5,fo.ly.length,lyR 2 fo.ly⟩)),(2,(3*fo.ly.length+1,fam false 3 1 (lyF false fo.ly))),(3,uQ (.row ⟨false,false,58,3,fo.cb.length,cbs fo.cb⟩))]⟩) 0 (qp _) (ρ:=id) (Zg id) ?_;rintro i hi QL3 hL3 hRL3 hEL3;refine Zrs [1,5,31,32,33,34] ?_;refine z6 ?_;refine z7 _ rfl ?_ ?_
    ·intro h34;replace h34:=Znb h34;obtain⟨_,x,hx,hxi,hxm⟩:=presF_mem.1 (show nth (z3m fo lv) i∈z3m fo lv by rw[z2v (by omega)];exact qM _);refine za (z6 (zc fun Q5 hN5 hX5 hR5 hE5=> ?_));refine Zrs [1,5,7,31,32,33] ?_;refine sg [1,5,31,32,33,42] rfl ?_;intro K hK;iterate 4 (refine Zo Zl ?_)
     refine Zo Zl ?_;refine Zc1 (member_spec fo.ly hb hlc fo.ly.length fo.ns.length fo.cb.length rfl fo.ht (nth (z3m fo lv) i) ((lv:Int)-1)) (id) ?_;rw[show memF fo.ly (nth (z3m fo lv) i) ((lv:Int)-1)=true by rw[<-hxi];rw[<-hxi] at hxm;exact h.nest hx (by omega) (by omega) hxm];refine Zo Zl ?_;refine z8 (Zpr (hK _ _ ?_));clear hK K;refine z7 _ rfl ?_ ?_
     ·intro h42
      exfalso;simp at h42
     ·intro h42
      refine za (ze (hN5 _ _ ?_));refine Zrg [1,5,31,32,33] ?_;refine ze (hL3 _ _ ?_);rw[show(i:Int)+1=((i+1:Nat):Int) from by omega];exact⟨i+1,⟨by omega,by omega⟩,id,(Zg id)⟩
    ·intro h34;replace h34:=Znb h34;refine zw (hEL3 _ _ _ (hX4 _ _ (ze (hN3 _ _ ?_))));refine Zrg [1,5] ?_;refine ze (hL2 _ _ ?_);rw[show(lv:Int)+1=((lv+1:Nat):Int) from by omega];exact⟨lv+1,⟨by omega,by omega⟩,id,(Zg id)⟩
   ·intro h26
    refine zw (hEL2 _ _ _ (hX2 _ _ ?_));refine Zrs [2] ?_;refine zd (hQ _ _ ?_);refine zb (H':=⟨4,[]⟩) (.inl rfl) ?_;refine Zou ?_;refine⟨Zs,(Zg id),Zs,?_⟩
    first|trivial|exact⟨rfl,trivial⟩
end
section
open D0 (oxE sdE)
end
section
open D0 (oxE sdE)
end
section
open D0 (oxE)
end
section
theorem clsK_ap (l:List Cl)(i:Nat):z2m l i=(cl l i).sv:=rfl
def numF (ids:List Int)(c:Int):Int:=if c<2 then 0 else nth ids (c-2).toNat
def lnkF (x:Ly)(c:Int):Int×Int:=(numF x.ids (cl x.cs c.toNat).left,numF x.ids (cl x.cs c.toNat).right)
def ec45:=aj @Tryz.szLink @Tryz.zLink
def JoEm.exE:=aj9 @z17 @zg @zi @zn @zk @z12 @z1a ec2 (aj9 @zj @zt @zo @zl ec13 @zp z43 z4y (aj9 @zu ec3 ec5 @z1d.eq_1 @zz.eq_1 @ints.eq_1 ec33 ec34 (aj4 ec35 @Tryz.tyLink ec45 @clsK_ap)))
def JoEm.axE:=aj9 @z17 @zg @zi @zn @zk @z12 @z1a ec2 (aj9 @zj @zt @zo @zl ec13 @zp z43 z4y (aj9 @zu ec3 ec5 @z1d.eq_1 @zz.eq_1 ec33 ec34 @Tryz.tyLink (aj8 ec45 @clsK_ap @z1q @z26 @z2n @z31 ec37 @z40)))
def JoEm.oxE:=aj3 @zu ec33 @Tryz.tyLink
open JnNm (gxE)
open JoEm (axE oxE exE)
open D0 (sdE)
theorem number_spec (ids:List Int)(lv wd c:Int)(a n m:Nat)(ha:ids.length=a)(hx:a<=1000000)(h0:0<=c)(h1:c<a+2):
  zf prog 122 [.agg [.int .i64 lv,.int .u32 wd,.slc false 0 0 0 a,.slc false 1 0 0 n,.slc false 2 0 0 m],.int .i64 c] ⟨3,[(0,uQ (.row ⟨false,false,3,1,a,ints ids⟩))]⟩
   (fun s H1=>s= .int .i64 (numF ids c)/\H1=⟨3,[]⟩):=by
 refine zf.ofC false 13 [.tmp 4] func122 rfl rfl ntmps122 results122 rfl ?_;intro w0 own0 β0 Q hQ hQn;simp only[z18];refine Zrs [1,2] ?_;refine z6 ?_;refine Zrs [1,2,6] ?_;refine z7 _ rfl ?_ ?_
 ·intro h6;replace h6:=Znb h6;refine Zrs [4] ?_;refine zd (hQ _ _ ?_);refine zb (H':=⟨3,[]⟩) (.inl rfl) ?_;refine Zou ?_;refine⟨Zs,(Zg id),Zs,?_⟩;rw[numF,qf h6];exact⟨rfl,by trivial⟩
 ·intro h6;replace h6:=Znb h6;refine za ?_;refine Zrs [4] ?_;refine zd (hQ _ _ ?_);refine zb (H':=⟨3,[]⟩) (.inl rfl) ?_;refine Zou ?_;refine⟨Zs,(Zg id),Zs,?_⟩;rw[numF,qb (by omega)];exact⟨rfl,by trivial⟩
theorem link_spec (x:Ly)(c:Int)(a n m:Nat)(ha:x.ids.length=a)(hn:x.cs.length=n)(hx:a<=1000000)(hy:n<=1000000)(h0:0<=c)(h1:c<n)(hl:0<=(cl x.cs c.toNat).left/\(cl x.cs c.toNat).left<a+2)(hr:0<=(cl x.cs c.toNat).right/\(cl x.cs c.toNat).right<a+2):
  zf prog 81 [.agg [.int .i64 x.lvl,.int .u32 x.wd,.slc false 0 0 0 a,.slc false 1 0 0 n,.slc false 2 0 0 m],.int .i64 c] ⟨3,[(0,uQ (.row ⟨false,false,3,1,a,ints x.ids⟩)),(1,uQ (.row ⟨false,false,117,5,n,z2m x.cs⟩))]⟩
   (fun s H1=>s= .agg [.int .i64 (lnkF x c).1,.int .i64 (lnkF x c).2]/\H1=⟨3,[]⟩):=by
 refine zf.ofC false 21 [.cell 4 98] func81 rfl rfl ntmps81 results81 rfl ?_;intro w0 own0 β0 Q hQ hQn;simp only[z18];refine Zrs [1,2,4] ?_;refine Zrs [2,4,5] ?_;refine z6 ?_;refine Zrd [4] [0,1,2,4,5,6,3,7,8,9] [[],[],[],[],[],[],[],[],[],[4]] [[],[],[],[],[],[],[],[],[],[4]] ?_;intro K hK;iterate 6 (refine Zo (Zi [] []) ?_)
 refine Zo (Zi [] []) ?_;refine Zc1 (number_spec x.ids x.lvl x.wd (cl x.cs c.toNat).left a n m ha hx hl.1 hl.2) (id) ?_;refine Zo (Zi [] []) ?_;refine Zc1 (number_spec x.ids x.lvl x.wd (cl x.cs c.toNat).right a n m ha hx hr.1 hr.2) (id) ?_;refine Zo (Zi [] []) ?_;refine Zo (Zi [4] [4]) ?_;refine z11 (Zpr (hK _ _ ?_));clear hK K;refine zd (hQ _ _ ?_);refine zb (H':=⟨3,[]⟩) (.inl rfl) ?_;refine Zou ?_;refine⟨Zs,(Zg id),Zs,?_⟩
 first|trivial|exact⟨rfl,trivial⟩
def lkPi (i:Nat):Pn:=fun id k=>if id=0 then(0,3*i+1) else if id=1 then(0,3*i+2) else if id=2 then(0,3*i+3) else(id,k)
theorem linkM_spec (L:List Ly)(hb:lyB L)(i k:Nat)(hi:i<k)(c:Int)(h0:0<=c)(h1:c<(lyA L i).cs.length)(hl:0<=(cl (lyA L i).cs c.toNat).left/\(cl (lyA L i).cs c.toNat).left<(lyA L i).ids.length+2)(hr:0<=(cl (lyA L i).cs c.toNat).right/\(cl (lyA L i).cs c.toNat).right<(lyA L i).ids.length+2):
  zf prog 81 [.agg [.int .i64 (lyA L i).lvl,.int .u32 (lyA L i).wd,.slc false 0 (3*i+1) 0 (lyA L i).ids.length,.slc false 0 (3*i+2) 0 (lyA L i).cs.length,.slc false 0 (3*i+3) 0 (lyA L i).ps.length],.int .i64 c] ⟨3,[(0,(3*k+1,fam false 3 1 (lyF false L)))]⟩
   (fun s H1=>s= .agg [.int .i64 (lnkF (lyA L i) c).1,.int .i64 (lnkF (lyA L i) c).2]/\H1=⟨3,[]⟩):=by
 have h:=link_spec (lyA L i) c _ _ (lyA L i).ps.length rfl rfl (hb.2 i).1 (hb.2 i).2.1 h0 h1 hl hr
 have g:=h.mem (lkPi i) (os1:=[(0,(3*k+1,fam false 3 1 (lyF false L)))])
  (by
   refine⟨⟨by show 0<3;decide,fun k=>rfl,fun k' hk=>⟨Obj.lt_row.2 fun q _=>z1t _ _ q,?_⟩⟩,⟨by show 1<3;decide,fun k=>rfl,fun k' hk=>⟨Obj.lt_row.2 fun q _=>cls_lt _ _ q,?_⟩⟩,trivial⟩
   ·show 3*i+1<3*k+1/\zr _ (fam false 3 1 (lyF false L) (3*i+1)) _
    refine⟨by omega,?_⟩;rw[z2h,lyF_0];exact⟨fun h=>(by cases h),rfl,qd _,fun q _=>(z2k _ _ q).symm⟩
   ·show 3*i+2<3*k+1/\zr _ (fam false 3 1 (lyF false L) ((3*i+1)+1)) _
    refine⟨by omega,?_⟩;rw[z2h,lyF_1]
    exact⟨fun h=>(by cases h),rfl,qd _,fun q _=>(z4a _ _ q).symm⟩)
  ⟨by simp[SV.lt,SV.ltL],by simp[SV.lt],trivial⟩ (by
   intro id k hid;have hid:id<3:=hid
   show(lkPi i id k).1<3
   simp only[lkPi];repeat' split
   all_goals first|exact hid|(show 0<3;decide)) (by
   intro x hx k;simp only[qw,QA,j7] at hx;subst hx
   exact z4d false _ _ L k)
 have e:SV.renPL (lkPi i) [.agg [.int .i64 (lyA L i).lvl,.int .u32 (lyA L i).wd,.slc false 0 0 0 (lyA L i).ids.length,.slc false 1 0 0 (lyA L i).cs.length,.slc false 2 0 0 (lyA L i).ps.length],.int .i64 c]=[.agg [.int .i64 (lyA L i).lvl,.int .u32 (lyA L i).wd,.slc false 0 (3*i+1) 0 (lyA L i).ids.length,.slc false 0 (3*i+2) 0 (lyA L i).cs.length,.slc false 0 (3*i+3) 0 (lyA L i).ps.length],.int .i64 c]:=rfl;rw[e] at g;refine g.imp ?_;rintro s H' ⟨s0,H0',⟨rfl,rfl⟩,rfl,rfl⟩;exact⟨rfl,rfl⟩
end
section
def nbF (fo:Fo)(v lv:Int):Int×Int:=if memF fo.ly v lv then lnkF (lyA fo.ly (plI fo.ly v lv).toNat) (plK fo.ly v lv) else(0,0)
def upF (fo:Fo)(v:Int)(n:Nat):List (Int×Int):=(List.range (fo.ht.toNat+1)).map fun(q:Nat)=>if q<n then nbF fo v q else(0,0)
def linksF (fo:Fo):List Lk:=(z3m fo 0).map fun v=>⟨v,upF fo v (fo.ht.toNat+1)⟩
theorem upF_len (fo:Fo)(v:Int)(n:Nat):(upF fo v n).length=fo.ht.toNat+1:=by simp[upF]
theorem upF_at (fo:Fo)(v:Int)(n:Nat){q:Nat}(h:q<fo.ht.toNat+1):pI (upF fo v n) q=if q<n then nbF fo v q else(0,0):=by
 rw[pI_lt (by rw[upF_len];exact h)];simp[upF]
theorem pI_ge {l:List (Int×Int)}{i:Nat}(h:l.length<=i):pI l i=(0,0):=by rw[pI,qx,qQ h];rfl
theorem upF_zero (fo:Fo)(v:Int):(fun _=>[SV.int .i64 0,SV.int .i64 0])=lvs (upF fo v 0):=by
 funext q
 rw[lvs]
 by_cases h:q<fo.ht.toNat+1
 ·rw[upF_at fo v 0 h,qb (qI _)]
 ·rw[pI_ge (by rw[upF_len];omega)]
theorem upF_put (fo:Fo)(v:Int){n:Nat}(h:n<fo.ht.toNat+1){a b:Int}(e:nbF fo v n=(a,b)):(fun q=>if q=n then [SV.int .i64 a,SV.int .i64 b] else [SV.int .i64 (pI (upF fo v n) q).1,SV.int .i64 (pI (upF fo v n) q).2])=lvs (upF fo v (n+1)):=by
 refine(show _=(fun q=>if q=n then [SV.int .i64 a,SV.int .i64 b] else lvs (upF fo v n) q) from rfl).trans ?_
 funext q
 by_cases hq:q<fo.ht.toNat+1
 ·rw[lvs,lvs,upF_at fo v n hq,upF_at fo v (n+1) hq]
  by_cases g:q=n
  ·subst g;rw[qf rfl,qf (by omega),e]
  ·rw[qb g]
   by_cases g2:q<n
   ·rw[qf g2,qf (by omega)]
   ·rw[qb g2,qb (by omega)]
 ·rw[qb (by omega),lvs,lvs,pI_ge (by rw[upF_len];omega),pI_ge (by rw[upF_len];omega)]
theorem upF_same (fo:Fo)(v:Int){n:Nat}(h:n<fo.ht.toNat+1)(e:nbF fo v n=(0,0)):upF fo v (n+1)=upF fo v n:=by
 refine List.map_congr_left fun q hq=> ?_
 by_cases g:q=n
 ·subst g;rw[qf (by omega),qb (by omega),e]
 ·by_cases g2:q<n
  ·rw[qf g2,qf (by omega)]
  ·rw[qb g2,qb (by omega)]
theorem FI.nbr {fo:Fo}{ls:Nat->List Int}(h:FI fo ls){x:Nd}{lv:Int}{i k:Nat}(a:At fo x lv i k):((0<=(cl (lyA fo.ly i).cs (k+2)).left/\(cl (lyA fo.ly i).cs (k+2)).left<(lyA fo.ly i).ids.length+2)/\0<=(cl (lyA fo.ly i).cs (k+2)).right/\(cl (lyA fo.ly i).cs (k+2)).right<(lyA fo.ly i).ids.length+2):=by
 have h1:=(vld_of (h.inv i a.hi).vb).cell (k+2) a.cel;have h2:=(h.sh.idsl a.hi).2;omega
def ec46:=aj8 @Tryz.tyLinks @Tryz.szLinks @Tryz.tyLinked @Tryz.szLinked @Tryz.tyLinkeds @Tryz.szLinkeds @Tryz.zLinked @lvs_ap
def JoFm.exE:=aj9 @z17 @zg @zi @zn @zk @z12 @z1a ec2 (aj9 @zj @zt @zo @zl ec13 @zp z43 z4y (aj9 @zu ec3 ec5 @z1d.eq_1 @zz.eq_1 @ints.eq_1 ec33 ec34 (aj6 ec35 @Tryz.tyLink ec45 ec46 @lkR_ap @lkF_ap)))
def JoFm.gxE:=aj9 @z17 z43 ec16 z4y ec3 ec7 ec8 @z1d.eq_1 (aj9 @zz.eq_1 @z1v @z1t ec36 ec26 ec29 @lkR_ren' @lkR_lt (aj5 @lkF_gives @lkFm_lt @lkF_fown @lvs_ren' @lvs_lt))
def JoFm.axE:=aj9 @z17 @zg @zi @zn @zk @z12 @z1a ec2 (aj9 @zj @zt @zo @zl ec13 @zp z43 z4y (aj9 @zu ec3 ec5 @z1d.eq_1 @zz.eq_1 ec33 ec34 @Tryz.tyLink (aj9 ec45 ec46 @z1q @z26 @z2n @z31 ec37 @z40 (aj4 @lkF_ren @lkR_fold @lkR_ren @lvs_ren))))
open JoFm (gxE axE exE)
open JnNm (oxE)
open D0 (sdE)
theorem Links_spec (fo:Fo)(ls:Nat->List Int)(h:FI fo ls)(n k m:Nat)(hn:fo.ns.length=n)(hk:fo.ly.length=k)(hm:fo.cb.length=m):
  zf prog 40 [.agg [.slc false 0 0 0 n,.int .i64 fo.ht,.slc false 1 0 0 k,.slc false 3 0 0 m]] ⟨4,[(0,uQ (.row ⟨false,false,62,3,n,nds fo.ns⟩)),(1,uQ (.row ⟨false,false,89,5,k,lyR 2 fo.ly⟩)),(2,(3*k+1,fam false 3 1 (lyF false fo.ly))),(3,uQ (.row ⟨false,false,58,3,m,cbs fo.cb⟩))]⟩
   (fun s H1=>s= .slc true 4 0 0 (linksF fo).length/\H1=⟨6,[(4,uQ (.row ⟨true,false,96,2,(linksF fo).length,lkR true 5 (linksF fo)⟩)),(5,((linksF fo).length+1,fam true 98 2 (lkF true (linksF fo))))]⟩):=by
 have hb:=h.sh.lyB;have hlb:=hb.1;have hlc:=h.sh.lyC;have hx64:=h.sh.few;have hx8:=h.sh.m8;have hh0:=h.sh.h0;have hh16:=h.sh.h16;have hpl:=presF_len fo 0;obtain⟨T,hT⟩:∃T,linksF fo=T:=⟨_,rfl⟩;have hTl:T.length=(z3m fo 0).length:=by rw[<-hT,linksF,qB]
 have hTa:∀i,i<T.length->lk T i=⟨nth (z3m fo 0) i,upF fo (nth (z3m fo 0) i) (fo.ht.toNat+1)⟩:=fun i hi=>by
  rw[lk_lt hi,z2v (by omega)];subst hT;simp[linksF]
 subst hn hk hm;rw[hT];obtain⟨w,hw⟩:∃w,fo.ht.toNat+1=w:=⟨_,rfl⟩;refine zf.ofC false 58 [.tmp 2] func40 rfl rfl ntmps40 results40 rfl ?_;intro w0 own0 β0 Q hQ hQn;simp only[z18];refine Zrs [1] ?_;refine Zrs [1,3] ?_;refine z6 ?_;refine sg [1,3,11,12,13] rfl ?_;intro K hK;refine Zo Zl ?_;refine Zo Zl ?_;refine Zc1 (Present_spec fo ls h fo.ns.length fo.ly.length fo.cb.length 0 rfl rfl rfl) (id) ?_;iterate 2 (refine Zo Zl ?_)
 refine z8 (Zpr (hK _ _ ?_));clear hK K;refine z2d 3 96 2 (lkR true 7 (T.take 0)) rfl ?_;dsimp only;refine z23 98 2 (lkF true (T.take 0)) ?_;dsimp only;refine zc fun Q0 hN0 hX0 hR0 hE0=> ?_;refine zx (σ:=Nat) (fun i=>i<=(z3m fo 0).length) (fun i=>(z3m fo 0).length-i) (fun i=>[(1,.ptr 4 0 0 0),(3,.slc true 6 0 0 (i)),(11,.slc true 5 0 0 (z3m fo 0).length),(12,.int .i64 (z3m fo 0).length),(13,.int .i64 i)]) (fun i=>⟨8,[(6,uQ (.row ⟨true,false,96,2,i,lkR true 7 (T.take (i))⟩)),(7,((i)+1,fam true 98 2 (lkF true (T.take (i))))),(5,uQ (.row ⟨true,false,3,1,(z3m fo 0).length,ints (z3m fo 0)⟩)),(4,uQ (.row ⟨true,true,34,4,1,fun _=>[.slc false 0 0 0 fo.ns.length,.int .i64 fo.ht,.slc false 1 0 0 fo.ly.length,.slc false 3 0 0 fo.cb.length]⟩)),(0,uQ (.row ⟨false,false,62,3,fo.ns.length,nds fo.ns⟩)),(1,uQ (.row ⟨false,false,89,5,fo.ly.length,lyR 2 fo.ly⟩)),(2,(3*fo.ly.length+1,fam false 3 1 (lyF false fo.ly))),(3,uQ (.row ⟨false,false,58,3,fo.cb.length,cbs fo.cb⟩))]⟩) 0 (qp _) (ρ:=id) (Zg id) ?_;rintro i hi QL1 hL1 hRL1 hEL1;refine Zrs [1,3,11,12,13,14] ?_;refine z6 ?_;refine z7 _ rfl ?_ ?_
 ·intro h14;replace h14:=Znb h14;obtain⟨v,hv⟩:∃v,nth (z3m fo 0) i=v:=⟨_,rfl⟩;obtain⟨_,x,hx,hxi,hxm⟩:=presF_mem.1 (show v∈z3m fo 0 by rw[<-hv,z2v (by omega)];exact qM _);have hTi:=hTa i (by omega);rw[hv] at hTi;refine za (z6 (zc fun Q1 hN1 hX1 hR1 hE1=> ?_));refine Zrs [1,3,5,11,12,13] ?_;refine z6 ?_;rw[hv];refine z3c [1,3,5,6,11,12,13] rfl ?_;intro K hK;iterate 5 (refine Zo Zl ?_)
  rw[show(fo.ht+1).toNat=w from by omega];repeat(with_reducible apply qe;exact sdE)
  iterate 3 (refine Zo Zl ?_)
  refine z8 (Zpr (hK _ _ ?_));clear hK K;refine z6 ?_;refine Zrs [1,3,5,6,11,12,13,25,26] ?_;rw[upF_zero fo v];refine zc fun Q2 hN2 hX2 hR2 hE2=> ?_;refine zx (σ:=Nat) (fun q=>q<=w) (fun q=>w-q) (fun q=>[(1,.ptr 4 0 0 0),(3,.slc true 6 0 0 (i)),(11,.slc true 5 0 0 (z3m fo 0).length),(12,.int .i64 (z3m fo 0).length),(13,.int .i64 i),(5,.int .i64 v),(6,.ptr 9 0 0 0),(25,.int .i64 w),(26,.int .i64 q)]) (fun q=>⟨10,[(9,uQ (.row ⟨true,true,96,2,1,fun _=>[.int .i64 v,.slc true 8 0 0 w]⟩)),(8,uQ (.row ⟨true,false,98,2,w,lvs (upF fo v q)⟩)),(6,uQ (.row ⟨true,false,96,2,i,lkR true 7 (T.take (i))⟩)),(7,((i)+1,fam true 98 2 (lkF true (T.take (i))))),(5,uQ (.row ⟨true,false,3,1,(z3m fo 0).length,ints (z3m fo 0)⟩)),(4,uQ (.row ⟨true,true,34,4,1,fun _=>[.slc false 0 0 0 fo.ns.length,.int .i64 fo.ht,.slc false 1 0 0 fo.ly.length,.slc false 3 0 0 fo.cb.length]⟩)),(0,uQ (.row ⟨false,false,62,3,fo.ns.length,nds fo.ns⟩)),(1,uQ (.row ⟨false,false,89,5,fo.ly.length,lyR 2 fo.ly⟩)),(2,(3*fo.ly.length+1,fam false 3 1 (lyF false fo.ly))),(3,uQ (.row ⟨false,false,58,3,fo.cb.length,cbs fo.cb⟩))]⟩) 0 (qp _) (ρ:=id) (Zg id) ?_;rintro q hq QL2 hL2 hRL2 hEL2;refine Zrs [1,3,5,6,11,12,13,25,26,27] ?_;refine z6 ?_;refine z7 _ rfl ?_ ?_
  ·intro h27;replace h27:=Znb h27;obtain⟨a,b,at_⟩:=h.sh.place hx (lv:=q) (by omega) (by omega);have hpI:=at_.pI;have hpK:=at_.pK;rw[hxi] at hpI hpK;have hnb:=h.nbr at_;have hai:=at_.hi;have hce:=at_.cel;refine za (z6 (zc fun Q3 hN3 hX3 hR3 hE3=> ?_));refine Zrs [1,3,5,6,7,11,12,13,25,26] ?_;refine sg [1,3,5,6,7,8,9,11,12,13,25,26] rfl ?_;intro K hK;iterate 3 (refine Zo Zl ?_)
   refine Zo Zl ?_;refine Zc1 (place_spec fo.ly hb fo.ly.length fo.ns.length fo.cb.length rfl fo.ht v q) (id) ?_;rw[hpI,hpK];iterate 5 (refine Zo Zl ?_)
   refine z8 (Zpr (hK _ _ ?_));clear hK K;refine sg [1,3,5,6,7,8,9,11,12,13,25,26,39] rfl ?_;intro K hK;iterate 3 (refine Zo Zl ?_)
   refine Zo Zl ?_;refine Zc1 (member_spec fo.ly hb hlc fo.ly.length fo.ns.length fo.cb.length rfl fo.ht v q) (id) ?_;refine z8 (Zpr (hK _ _ ?_));clear hK K;refine z7 _ rfl ?_ ?_
   ·intro h39;have hnn:nbF fo v q=lnkF (lyA fo.ly a) ((b:Int)+2):=by rw[nbF,qf h39,hpI,hpK,qE]
    refine Zrd [1,3,5,6,11,12,13,25,26] [0,1,2,3,4,5,6,7,8,9,10,11] [[],[],[],[],[],[],[],[],[],[],[],[8]] [[],[],[],[],[],[],[],[],[],[],[],[8]] ?_;intro K hK;iterate 9 (refine Zo (Zi [] []) ?_)
    refine Zo (Zi [] []) ?_;refine Zc1 (linkM_spec fo.ly hb a fo.ly.length hai ((b:Int)+2) (by omega) (by omega) (by rw[show((b:Int)+2).toNat=b+2 from by omega];exact hnb.1) (by rw[show((b:Int)+2).toNat=b+2 from by omega];exact hnb.2)) (fun z=>if z=0 then 2 else z) ?_;refine Zo (Zi [] []) ?_;refine Zo (Zi [8] [8]) ?_;rw[upF_put (a:=(lnkF (lyA fo.ly a) ((b:Int)+2)).1) (b:=(lnkF (lyA fo.ly a) ((b:Int)+2)).2) fo v (show q<fo.ht.toNat+1 by omega) hnn];repeat(with_reducible apply qe;exact sdE)
    refine z11 (Zpr (hK _ _ ?_));clear hK K;refine ze (hN3 _ _ ?_);refine Zrg [1,3,5,6,11,12,13,25,26] ?_;refine ze (hL2 _ _ ?_);rw[show(q:Int)+1=((q+1:Nat):Int) from by omega];exact⟨q+1,⟨by omega,by omega⟩,id,(Zg id)⟩
   ·intro h39;have hnn:nbF fo v q=(0,0):=by rw[nbF,qb (by rw[h39];exact qn)]
    refine za (ze (hN3 _ _ ?_));refine Zrg [1,3,5,6,11,12,13,25,26] ?_;refine ze (hL2 _ _ ?_);rw[show(q:Int)+1=((q+1:Nat):Int) from by omega,<-upF_same fo v (show q<fo.ht.toNat+1 by omega) hnn];exact⟨q+1,⟨by omega,by omega⟩,id,(Zg id)⟩
  ·intro h27;replace h27:=Znb h27;have hqe:q=w:=by omega
   subst hqe;refine zw (hEL2 _ _ _ (hX2 _ _ ?_));refine Zrg [1,3,11,12,13] ?_;refine ze (hN1 _ _ ?_);have hlv:(lk T i).lv.length=q:=by rw[hTi];exact(upF_len ..).trans hw
   have hTk:∀z,z<i+1->lk (T.take (i+1)) z=lk T z:=fun z hz=>by rw[lk,lk,qx,qx,Qd,qf hz]
   have hTj:∀z,z<i->lk (T.take i) z=lk T z:=fun z hz=>by rw[lk,lk,qx,qx,Qd,qf hz]
   have hout:∀z,z<i+1->app (lkR true 7 (T.take i)) i (z4f 2 1 [SV.int .i64 v,SV.slc true 8 0 0 q]) z=SV.renPL (mvP (fun z=>if z=6 then 11 else z) 7 i 8) (lkR true 7 (T.take (i+1)) z):=fun z hz=>by
    rw[lkR_renP,hTk z hz]
    split
    ·rename_i e;subst e;rw[app,qb (by omega),jb,hlv,hTi];rfl
    ·rw[app,qf (by omega),lkR,hTj z (by omega)];rfl
   refine z4p (fr':=[(1,.ptr 4 0 0 0),(3,.slc true 6 0 0 (i+1)),(11,.slc true 5 0 0 (z3m fo 0).length),(12,.int .i64 (z3m fo 0).length),(13,.int .i64 i)]) (H':=⟨8,[(6,uQ (.row ⟨true,false,96,2,i+1,lkR true 7 (T.take (i+1))⟩)),(7,((i+1)+1,fam true 98 2 (lkF true (T.take (i+1))))),(5,uQ (.row ⟨true,false,3,1,(z3m fo 0).length,ints (z3m fo 0)⟩)),(4,uQ (.row ⟨true,true,34,4,1,fun _=>[.slc false 0 0 0 fo.ns.length,.int .i64 fo.ht,.slc false 1 0 0 fo.ly.length,.slc false 3 0 0 fo.cb.length]⟩)),(0,uQ (.row ⟨false,false,62,3,fo.ns.length,nds fo.ns⟩)),(1,uQ (.row ⟨false,false,89,5,fo.ly.length,lyR 2 fo.ly⟩)),(2,(3*fo.ly.length+1,fam false 3 1 (lyF false fo.ly))),(3,uQ (.row ⟨false,false,58,3,fo.cb.length,cbs fo.cb⟩))]⟩) _ (Zgp (fun z=>if z=6 then 11 else z) (7) (i) (8) (z1i rfl ql (by decide) (zq.of (fun _=>⟨rfl,rfl⟩) rfl (qd _) (hout)) (Obj.lt_row.2 fun q _=>(lkR_lt _ _ _ _ q).2 (qc rfl)) (qc rfl) (z4q rfl rfl ql ⟨fun _=>⟨rfl,rfl⟩,rfl⟩ (QZ _) (fun z hz hne=>⟨by omega,lkF_givesP _ _ _ _ _ _ id (by rw[hTk z (by omega),hTj z (by omega)]),lkFm_lt _ _ _ _⟩) (lkF_newP _ _ _ _ _ (by rw[hTk i (by omega)];exact hlv) (fun z _=>by rw[hTk i (by omega),hTi,<-hw])) (lkFm_lt _ _ _ _) (qc rfl) (z1i rfl ql (by decide) (zq.of (fun _=>⟨rfl,rfl⟩) rfl (qd _) (fun q _=>(z2k _ _ q).symm)) (Obj.lt_row.2 fun q _=>z1t _ _ q) (qc rfl) (z1i rfl ql (by decide) (zq.of (fun _=>⟨rfl,rfl⟩) rfl (qd _) (fun _ _=>rfl)) (Obj.lt_row.2 fun q _=>by simp[SV.ltL,SV.lt]) (qc rfl) (z1i rfl ql (by decide) (zq.of (fun h=>(by cases h)) rfl (qd _) (fun q _=>(z33 _ _ q).symm)) (Obj.lt_row.2 fun q _=>z4e _ _ q) (qc rfl) (z1i rfl ql (by decide) (zq.of (fun h=>(by cases h)) rfl (qd _) (fun q _=>(show lyR 2 fo.ly q=SV.renPL _ (lyR 2 fo.ly q) by rw[lyR_renO _ _ _ _ _ _ _ (by decide)];rfl))) (Obj.lt_row.2 fun q _=>(lyR_lt _ _ _ q).2 (qc rfl)) (qc rfl) (z1n.consO rfl (by decide) ⟨fun h=>(by cases h),rfl⟩ (qd _) (fun q _=>⟨lyF_givesP _ _ _ _ _ _ (fun h=>(by cases h)) rfl,z3l _ _ _ _⟩) (qc rfl) (z1i rfl ql (by decide) (zq.of (fun h=>(by cases h)) rfl (qd _) (fun q _=>(cbs_renP _ _ q).symm)) (Obj.lt_row.2 fun q _=>cbs_lt _ _ q) (qc rfl) trivial))))))))) ?_
   refine Zrg [1,3,11,12,13] ?_;refine ze (hL1 _ _ ?_);rw[show(i:Int)+1=((i+1:Nat):Int) from by omega];exact⟨i+1,⟨by omega,by omega⟩,id,(Zg id)⟩
 ·intro h14;replace h14:=Znb h14;have hie:i=T.length:=by omega
  subst hie;rw[QV];refine zw (hEL1 _ _ _ (hX0 _ _ ?_));refine Zrs [2] ?_;refine zd (hQ _ _ ?_);refine zm (fun z=>if z=4 then 6 else if z=5 then 7 else z) (.slc true 4 0 0 T.length) (⟨6,[(4,uQ (.row ⟨true,false,96,2,T.length,lkR true 5 T⟩)),(5,(T.length+1,fam true 98 2 (lkF true T)))]⟩) (.inl rfl) ?_;refine Zou ?_;refine⟨Zs,Zs,(Zg (fun z=>if z=4 then 6 else if z=5 then 7 else z)),Zs,?_⟩
  all_goals first|trivial|exact⟨rfl,trivial⟩
end
section
def pairN:List Nd:=[⟨1,⟨#[97]⟩,0⟩,⟨2,⟨#[98]⟩,2⟩]
def sanF:Nat->Fo
 |0=>z1u (z1u (z3j pairN [] 2 1) 0 1 1) 1 1 2
 |n+1=>stepFR (sanF n) ((n%2:Nat):Int)
theorem san_mk:MkF pairN 2 1:=⟨by kernel_rfl,by decide,by decide,by decide,by decide,by decide⟩
theorem san_e0:z2t (z3j pairN [] 2 1) 0 1 1=0:=by kernel_rfl
theorem san_e1:z2t (z1u (z3j pairN [] 2 1) 0 1 1) 1 1 2=0:=by kernel_rfl
theorem san_100:busyN (sanF 100).cb=0/\(z3m (sanF 100) 1).length=2/\(linksF (sanF 100)).length=2/\(lk (linksF (sanF 100)) 0).lv.length=2/\(pI (lk (linksF (sanF 100)) 0).lv 1).2=2:=⟨by kernel_rfl,by kernel_rfl,by kernel_rfl,by kernel_rfl,by kernel_rfl⟩
theorem FI.next {fo:Fo}{ls:Nat->List Int}(h:FI fo ls)(p:Int):∃ls',FI (stepFR fo p) ls':=by
 cases hs:stepFB fo p with
 |true=>obtain⟨ls',h',_⟩:=h.step hs (qd _);exact⟨ls',h'⟩
 |false=>exact⟨ls,by rw[stepFR,h.vf,hs];exact h⟩
theorem stepFR_shape {fo:Fo}(hv:z5j fo=true)(p:Int):(stepFR fo p).ns=fo.ns/\(stepFR fo p).ht=fo.ht/\(stepFR fo p).ly.length=fo.ly.length/\(stepFR fo p).cb.length=fo.cb.length:=by
 rw[stepFR,hv];simp only[Qn,qF,Qw]
 split
 ·split
  ·split
   ·simp
   ·simp[beginL,upL]
  ·simp[upL]
 ·simp
theorem san_FI:∀n,∃ls,FI (sanF n) ls
 |0=>⟨_,((FI_new san_mk []).start san_e0).start san_e1⟩
 |n+1=>by
  obtain⟨ls,h⟩:=san_FI n;exact h.next _
theorem san_shape:∀n,(sanF n).ns=pairN/\(sanF n).ht=1/\(sanF n).ly.length=2/\(sanF n).cb.length=2
 |0=>⟨by kernel_rfl,by kernel_rfl,by kernel_rfl,by kernel_rfl⟩
 |n+1=>by
  obtain⟨ls,h⟩:=san_FI n;obtain⟨a,b,c,d⟩:=stepFR_shape h.vf ((n%2:Nat):Int);obtain⟨a',b',c',d'⟩:=san_shape n;exact⟨a.trans a',b.trans b',c.trans c',d.trans d'⟩
theorem pair_rows:z4f 3 2 [SV.int .i64 1,SV.str ⟨#[97]⟩,SV.int .u32 0,SV.int .i64 2,SV.str ⟨#[98]⟩,SV.int .u32 2]=nds pairN:=by
 funext i
 match i with
 |0=>rfl
 |1=>rfl
 |i+2=>rfl
open JnNm (oxE gxE exE)
open D0 (sdE)
theorem pair_spec:zf prog 55 [] ⟨0,[]⟩ (fun s H1=>s= .slc true 0 0 0 2/\H1=⟨1,[(0,uQ (.row ⟨true,false,62,3,2,nds pairN⟩))]⟩):=by
 refine zf.ofC false 4 [.tmp 0] func55 rfl rfl ntmps55 results55 rfl ?_;intro w0 own0 β0 Q hQ hQn;simp only[z18];refine Zrs [] ?_;refine Zrs [0] ?_;refine zd (hQ _ _ ?_);rw[pair_rows];refine zb (H':=⟨1,[(0,uQ (.row ⟨true,false,62,3,2,nds pairN⟩))]⟩) (.inl rfl) ?_;refine Zou ?_;refine⟨Zs,(Zg id),Zs,?_⟩
 first|trivial|exact⟨rfl,trivial⟩
end
section
def san0:Fo:=z3j pairN [] 2 1
def san1:Fo:=z1u san0 0 1 1
theorem san0_sh:san0.ns=pairN/\san0.ht=1/\san0.ly.length=2/\san0.cb.length=2:=⟨by kernel_rfl,by kernel_rfl,by kernel_rfl,by kernel_rfl⟩
theorem san1_sh:san1.ns=pairN/\san1.ht=1/\san1.ly.length=2/\san1.cb.length=2:=⟨by kernel_rfl,by kernel_rfl,by kernel_rfl,by kernel_rfl⟩
theorem san0_FI:∃ls,FI san0 ls:=⟨_,FI_new san_mk []⟩
theorem san1_FI:∃ls,FI san1 ls:=⟨_,(FI_new san_mk []).start san_e0⟩
theorem New_san : zf prog 16 [.slc false 0 0 0 2, .nils, .int .i64 2, .int .i64 1] ⟨1, [(0, uQ (.row ⟨false, false, 62, 3, 2, nds pairN⟩))]⟩
   (fun s H1=>s= .tup [.agg [.slc true 2 0 0 2,.int .i64 1,.slc true 3 0 0 2,.slc true 5 0 0 2],.int .i64 0]/\H1=⟨6,[(2,uQ (.row ⟨true,false,62,3,2,nds pairN⟩)),(3,uQ (.row ⟨true,false,89,5,2,lyR 4 (san0).ly⟩)),(4,(3*2+1,fam true 3 1 (lyF true (san0).ly))),(5,uQ (.row ⟨true,false,58,3,2,cbs (san0).cb⟩))]⟩):=by
 have h:=New_nil pairN 2 2 1 rfl san_mk.ck (by decide) (by decide) (by decide) (by decide) (by decide);rw[show(z3j pairN [] 2 1).ly.length=2 from san0_sh.2.2.1] at h;exact h
theorem start_san {fo gn:Fo}{p k v:Int}(hf:fo.ns=pairN/\fo.ht=1/\fo.ly.length=2/\fo.cb.length=2)(hI:∃ls,FI fo ls)(hg:z1u fo p k v=gn)(hs:gn.ns=pairN/\gn.ht=1/\gn.ly.length=2/\gn.cb.length=2)(he:z2t fo p k v=0):
  zf prog 25 [.agg [.slc false 0 0 0 2,.int .i64 1,.slc false 1 0 0 2,.slc false 3 0 0 2],.int .i64 p,.int .i64 k,.int .i64 v] ⟨4,[(0,uQ (.row ⟨false,false,62,3,2,nds pairN⟩)),(1,uQ (.row ⟨false,false,89,5,2,lyR 2 (fo).ly⟩)),(2,(3*2+1,fam false 3 1 (lyF false (fo).ly))),(3,uQ (.row ⟨false,false,58,3,2,cbs (fo).cb⟩))]⟩
   (fun s H1=>s= .tup [.agg [.slc true 4 0 0 2,.int .i64 1,.slc true 5 0 0 2,.slc true 7 0 0 2],.int .i64 0]/\H1=⟨8,[(4,uQ (.row ⟨true,false,62,3,2,nds pairN⟩)),(5,uQ (.row ⟨true,false,89,5,2,lyR 6 (gn).ly⟩)),(6,(3*2+1,fam true 3 1 (lyF true (gn).ly))),(7,uQ (.row ⟨true,false,58,3,2,cbs (gn).cb⟩))]⟩):=by
 obtain⟨ls,h⟩:=hI;have g:=Start_spec fo ls h 2 2 2 p k v (by rw[hf.1];rfl) hf.2.2.1 hf.2.2.2;rw[hg,he,hf.1,hf.2.1,hs.1,hs.2.1,hs.2.2.1,hs.2.2.2] at g;exact g
theorem step_san (i:Nat):
  zf prog 27 [.agg [.slc false 0 0 0 2,.int .i64 1,.slc false 1 0 0 2,.slc false 3 0 0 2],.int .i64 ((i%2:Nat):Int)] ⟨4,[(0,uQ (.row ⟨false,false,62,3,2,nds pairN⟩)),(1,uQ (.row ⟨false,false,89,5,2,lyR 2 (sanF i).ly⟩)),(2,(3*2+1,fam false 3 1 (lyF false (sanF i).ly))),(3,uQ (.row ⟨false,false,58,3,2,cbs (sanF i).cb⟩))]⟩
   (fun s H1=>s= .tup [.agg [.slc true 4 0 0 2,.int .i64 1,.slc true 5 0 0 2,.slc true 7 0 0 2],.bool (stepFB (sanF i) ((i%2:Nat):Int))]/\H1=⟨8,[(4,uQ (.row ⟨true,false,62,3,2,nds pairN⟩)),(5,uQ (.row ⟨true,false,89,5,2,lyR 6 (sanF (i+1)).ly⟩)),(6,(3*2+1,fam true 3 1 (lyF true (sanF (i+1)).ly))),(7,uQ (.row ⟨true,false,58,3,2,cbs (sanF (i+1)).cb⟩))]⟩):=by
 obtain⟨ls,h⟩:=san_FI i;have hf:=san_shape i;have g:=Step_spec (sanF i) ls h 2 2 2 ((i%2:Nat):Int) (by rw[hf.1];rfl) hf.2.2.1 hf.2.2.2;rw[hf.1,hf.2.1] at g;exact g
theorem links_san : zf prog 40 [.agg [.slc false 0 0 0 2, .int .i64 1, .slc false 1 0 0 2, .slc false 3 0 0 2]] ⟨4, [(0, uQ (.row ⟨false, false, 62, 3, 2, nds pairN⟩)), (1, uQ (.row ⟨false, false, 89, 5, 2, lyR 2 (sanF 100).ly⟩)), (2, (3 * 2 + 1, fam false 3 1 (lyF false (sanF 100).ly))), (3, uQ (.row ⟨false, false, 58, 3, 2, cbs (sanF 100).cb⟩))]⟩
   (fun s H1=>s= .slc true 4 0 0 2/\H1=⟨6,[(4,uQ (.row ⟨true,false,96,2,2,lkR true 5 (linksF (sanF 100))⟩)),(5,(2+1,fam true 98 2 (lkF true (linksF (sanF 100)))))]⟩):=by
 obtain⟨ls,h⟩:=san_FI 100;have hf:=san_shape 100;have g:=Links_spec (sanF 100) ls h 2 2 2 (by rw[hf.1];rfl) hf.2.2.1 hf.2.2.2;rw[hf.1,hf.2.1,san_100.2.2.1] at g;exact g
theorem present_san : zf prog 33 [.agg [.slc false 0 0 0 2, .int .i64 1, .slc false 1 0 0 2, .slc false 3 0 0 2], .int .i64 1] ⟨4, [(0, uQ (.row ⟨false, false, 62, 3, 2, nds pairN⟩)), (1, uQ (.row ⟨false, false, 89, 5, 2, lyR 2 (sanF 100).ly⟩)), (2, (3 * 2 + 1, fam false 3 1 (lyF false (sanF 100).ly))), (3, uQ (.row ⟨false, false, 58, 3, 2, cbs (sanF 100).cb⟩))]⟩
   (fun s H1=>s= .slc true 4 0 0 2/\H1=⟨5,[(4,uQ (.row ⟨true,false,3,1,2,ints (z3m (sanF 100) 1)⟩))]⟩):=by
 obtain⟨ls,h⟩:=san_FI 100;have hf:=san_shape 100;have g:=Present_spec (sanF 100) ls h 2 2 2 1 (by rw[hf.1];rfl) hf.2.2.1 hf.2.2.2;rw[hf.1,hf.2.1,san_100.2.1] at g;exact g
theorem check_san:zf prog 32 [.agg [.slc false 0 0 0 2,.int .i64 1,.slc false 1 0 0 2,.slc false 3 0 0 2]] ⟨4,[(0,uQ (.row ⟨false,false,62,3,2,nds pairN⟩)),(1,uQ (.row ⟨false,false,89,5,2,lyR 2 (sanF 100).ly⟩)),(2,(3*2+1,fam false 3 1 (lyF false (sanF 100).ly))),(3,uQ (.row ⟨false,false,58,3,2,cbs (sanF 100).cb⟩))]⟩ (fun s H1=>s= .bool true/\H1=⟨4,[]⟩):=by
 obtain⟨ls,h⟩:=san_FI 100;have hf:=san_shape 100;have g:=Check_spec (sanF 100) ls h 2 2 2 (by rw[hf.1];rfl) hf.2.2.1 hf.2.2.2;rw[hf.1,hf.2.1] at g;exact g
theorem san_bound:boundF (sanF 100)=0:=by rw[boundF,san_100.1];simp
theorem bound_san:zf prog 35 [.agg [.slc false 0 0 0 2,.int .i64 1,.slc false 1 0 0 2,.slc false 3 0 0 2]] ⟨4,[(0,uQ (.row ⟨false,false,62,3,2,nds pairN⟩)),(1,uQ (.row ⟨false,false,89,5,2,lyR 2 (sanF 100).ly⟩)),(2,(3*2+1,fam false 3 1 (lyF false (sanF 100).ly))),(3,uQ (.row ⟨false,false,58,3,2,cbs (sanF 100).cb⟩))]⟩ (fun s H1=>s= .int .i64 0/\H1=⟨4,[]⟩):=by
 obtain⟨ls,h⟩:=san_FI 100;have hf:=san_shape 100;have g:=Bound_spec (sanF 100) ls h 2 2 2 (by rw[hf.1];rfl) hf.2.2.1 hf.2.2.2;rw[hf.1,hf.2.1,san_bound] at g;exact g
end
section
theorem san_s0:z1u san1 1 1 2=sanF 0:=rfl
attribute [local irreducible] sanF
open JoFm (gxE axE exE)
open JnNm (oxE)
open D0 (sdE)
theorem sane13_spec:zf prog 19 [] ⟨0,[]⟩ (fun s H1=>s= .bool true/\H1=⟨0,[]⟩):=by
 refine zf.ofC false 83 [.tmp 0] func19 rfl rfl ntmps19 results19 rfl ?_;intro w0 own0 β0 Q hQ hQn;simp only[z18];refine Zrs [] ?_;refine sg [1,2] rfl ?_;intro K hK;refine Zo Zl ?_;refine Zc1 (pair_spec) (id) ?_;refine Zo Zl ?_;refine Zc1 (New_san) (id) ?_;iterate 6 (refine Zo Zl ?_)
 refine z8 (Zpr (hK _ _ ?_));clear hK K;refine z6 ?_;refine Zrs [1,17] ?_;refine z7 _ rfl ?_ ?_
 ·intro h17
  exfalso;simp at h17
 ·intro h17
  refine za ?_;refine sg [1,2] rfl ?_;intro K hK;refine Zo Zl ?_;refine Zo Zl ?_;refine Zc1 (start_san (gn:=san1) san0_sh san0_FI rfl san1_sh san_e0) (fun q=>q+2) ?_;iterate 5 (refine Zo Zl ?_)
  refine z8 (Zpr (hK _ _ ?_));clear hK K;refine z6 ?_;refine Zrs [1,24] ?_;refine z7 _ rfl ?_ ?_
  ·intro h24
   exfalso;simp at h24
  ·intro h24
   refine za ?_;refine sg [1,2] rfl ?_;intro K hK;refine Zo Zl ?_;refine Zo Zl ?_;refine Zc1 (start_san (gn:=sanF 0) san1_sh san1_FI san_s0 (san_shape 0) san_e1) (fun q=>q+7) ?_;iterate 5 (refine Zo Zl ?_)
   refine z8 (Zpr (hK _ _ ?_));clear hK K;refine z6 ?_;refine Zrs [1,2,3] ?_;refine zc fun Q0 hN0 hX0 hR0 hE0=> ?_;refine zx (σ:=Nat) (fun i=>i<=100) (fun i=>100-i) (fun i=>[(1,.ptr 6 0 0 0),(2,.int .i64 0),(3,.int .i64 i)]) (fun i=>⟨11,[(6,uQ (.row ⟨true,true,34,4,1,fun _=>[.slc true 7 0 0 2,.int .i64 1,.slc true 8 0 0 2,.slc true 10 0 0 2]⟩)),(7,uQ (.row ⟨true,false,62,3,2,nds pairN⟩)),(8,uQ (.row ⟨true,false,89,5,2,lyR 9 (sanF i).ly⟩)),(9,(3*2+1,fam true 3 1 (lyF true (sanF i).ly))),(10,uQ (.row ⟨true,false,58,3,2,cbs (sanF i).cb⟩))]⟩) 0 (qp _) (ρ:=fun q=>if q=6 then 6 else q+4) (Zg (fun q=>if q=6 then 6 else q+4)) ?_;rintro i hi QL1 hL1 hRL1 hEL1;refine z6 ?_;refine Zrs [1,2,3,35] ?_;refine z7 _ rfl ?_ ?_
   ·intro h35;replace h35:=Znb h35;refine za (z6 (zc fun Q1 hN1 hX1 hR1 hE1=> ?_));refine z3c [1,2,3] rfl ?_;intro K hK;iterate 3 (refine Zo Zl ?_)
    refine Zo Zl ?_;rw[show Int.tmod (i:Int) 2=((i%2:Nat):Int) from by rw[Int.tmod_eq_emod_of_nonneg (by omega)];omega];refine Zc1 (step_san i) (fun q=>q+7) ?_;iterate 4 (refine Zo Zl ?_)
    refine z8 (Zpr (hK _ _ ?_));clear hK K;refine ze (hN1 _ _ ?_);refine Zrg [1,2,3] ?_;refine ze (hL1 _ _ ?_);rw[show(i:Int)+1=((i+1:Nat):Int) from by omega];exact⟨i+1,⟨by omega,by omega⟩,fun q=>if q=6 then 6 else q+4,(Zg (fun q=>if q=6 then 6 else q+4))⟩
   ·intro h35;replace h35:=Znb h35;have hie:i=100:=by omega
    subst hie;refine zw (hEL1 _ _ _ (hX0 _ _ ?_));refine sg [1,4] rfl ?_;intro K hK;refine Zo Zl ?_;refine Zo Zl ?_;refine Zc1 (links_san) (fun q=>q+7) ?_;have hl0:=san_100.2.2.2.1;have hl1:=san_100.2.2.2.2;refine Zo Zl ?_;refine z8 (Zpr (hK _ _ ?_));clear hK K;refine sg [0] rfl ?_;intro K hK;refine Zo Zl ?_;refine Zo Zl ?_;refine Zc1 (present_san) (fun q=>q+7) ?_;iterate 25 (refine Zo Zl ?_)
    first
    |rw[show((((2:Nat):Int)==2) && (((2:Nat):Int)==2) && ((((lk (linksF (sanF 100)) 0).lv.length:Nat):Int)==2) && ((pI (lk (linksF (sanF 100)) 0).lv 1).2==2))=true from by rw[hl0,hl1];rfl]
    |rw[show((((2:Nat):Int)==2) && ((((lk (linksF (sanF 100)) 0).lv.length:Nat):Int)==2) && ((pI (lk (linksF (sanF 100)) 0).lv 1).2==2))=true from by rw[hl0,hl1];rfl]
    repeat(with_reducible apply qe;exact sdE)
    iterate 2 (refine Zo Zl ?_)
    refine z16 ?_;refine z2e rfl rfl ?_;refine Zgr ?_;refine⟨fun _=> ?_,fun h=>(by cases h)⟩;refine Zo id ?_;refine Zc1 (check_san) (fun q=>q+7) ?_;iterate 3 (refine Zo Zl ?_)
    refine z16 ?_;refine z2e rfl rfl ?_;refine Zgr ?_;refine⟨fun _=> ?_,fun h=>(by cases h)⟩;refine Zo id ?_;refine Zc1 (bound_san) (fun q=>q+7) ?_;iterate 3 (refine Zo Zl ?_)
    refine z8 (Zpr (hK _ _ ?_));clear hK K;refine zd (hQ _ _ ?_);refine zb (H':=⟨0,[]⟩) (.inl rfl) ?_;refine Zou ?_;refine⟨Zs,(Zg id),Zs,?_⟩
    first|trivial|exact⟨rfl,trivial⟩
end
section
def JoMm.exE:=aj9 @zg @zi @zj @zo @zl ec13 @zp z43 (aj6 z4y ec28 ec22 @z29 ec23 ec24)
def JoMm.gxE:=aj6 z43 ec16 z4y ec25 ec26 ec29
def JoMm.axE:=aj9 @zg @zi @zj @zo @zl ec13 @zp z43 (aj8 z4y ec28 ec22 @z29 ec24 @z26 @z40 ec27)
open JoMm (gxE axE exE)
open D0 (oxE sdE)
theorem refClasses_spec (xs:List Nd)(n:Nat)(hn:xs.length=n)(lv:Int)(hx:n<=1000000):
  zf prog 130 [.slc false 0 0 0 n,.int .i64 lv] ⟨1,[(0,uQ (.row ⟨false,false,62,3,n,nds xs⟩))]⟩
   (fun s H1=>s= .slc true 1 0 0 (z4t xs lv).length/\H1=⟨3,[(1,uQ (.row ⟨true,false,23,1,(z4t xs lv).length,clR true 2 (z4t xs lv)⟩)),(2,((z4t xs lv).length+1,fam true 62 3 (clF true (z4t xs lv))))]⟩):=by
 subst hn;refine zf.ofC false 62 [.tmp 4] func130 rfl rfl ntmps130 results130 rfl ?_;intro w0 own0 β0 Q hQ hQn;simp only[z18];refine Zrs [0,1] ?_;refine Zrs [0,1,5] ?_;refine z6 ?_;refine Zrs [0,1,5,6] ?_;refine z2d 5 23 1 (clR true 2 []) rfl ?_;dsimp only;refine z23 62 3 (clF true []) ?_;dsimp only;refine zc fun Q0 hN0 hX0 hR0 hE0=> ?_;refine zx (σ:=Nat) (fun i=>i<=xs.length/\(16<lv->i=0)) (fun i=>xs.length-i) (fun i=>[(0,.slc false 0 0 0 xs.length),(1,.int .i64 lv),(5,.slc true 1 0 0 (clsG lv (xs.take i) []).length),(6,.int .i64 i)]) (fun i=>⟨3,[(1,uQ (.row ⟨true,false,23,1,(clsG lv (xs.take i) []).length,clR true 2 (clsG lv (xs.take i) [])⟩)),(2,((clsG lv (xs.take i) []).length+1,fam true 62 3 (clF true (clsG lv (xs.take i) [])))),(0,uQ (.row ⟨false,false,62,3,xs.length,nds xs⟩))]⟩) 0 ⟨qp _,fun _=>rfl⟩ (ρ:=id) (have xE:=@clsG.eq_1;Zgx id) ?_;rintro i hi QL1 hL1 hRL1 hEL1;refine z6 ?_;refine Zrs [0,1,5,6,15] ?_;refine z7 _ rfl ?_ ?_
 ·intro h15;replace h15:=Znb h15;obtain⟨hi,hi0⟩:=hi;have hi15:i<xs.length/\lv<=16:=by simp at h15;omega
  have hok:=clsG_ok (by omega:lv<=16) (xs.take i) (s:=[]) (cs:=[]) ⟨fun c h=>(by cases h),fun c h=>(by cases h),Jo⟩ fun y h=>(by cases h);obtain⟨cs,hcs⟩:∃cs,clsG lv (xs.take i) []=cs:=⟨_,rfl⟩;rw[hcs] at hok ⊢;have hne:∀k,k<cs.length->cnd cs k≠[]:=fun k hk=>by rw[cnd_lt hk];exact hok.1.ne _ (qM hk)
  have hcl:cs.length<=i:=clsG_len lv xs hi hcs;refine za (z6 (zc fun Q1 hN1 hX1 hR1 hE1=> ?_));refine Zrs [0,1,5,6,7] ?_;refine z6 (zc fun Q2 hN2 hX2 hR2 hE2=> ?_);refine zx (σ:=Nat) (fun k=>k<=cs.length/\∀q,q<k->z49 (hdN (cnd cs q)).word (nd xs i).word lv=false) (fun k=>cs.length-k) (fun k=>[(0,.slc false 0 0 0 xs.length),(1,.int .i64 lv),(5,.slc true 1 0 0 cs.length),(6,.int .i64 i),(7,.int .i64 k)]) (fun k=>⟨3,[(1,uQ (.row ⟨true,false,23,1,cs.length,clR true 2 cs⟩)),(2,(cs.length+1,fam true 62 3 (clF true cs))),(0,uQ (.row ⟨false,false,62,3,xs.length,nds xs⟩))]⟩) 0 ⟨qp _,fun q h=>absurd h (qI _)⟩ (ρ:=id) (Zg id) ?_;rintro k hk QL2 hL2 hRL2 hEL2;obtain⟨hk1,hk2⟩:=hk;have hcn:k<cs.length->0<(cnd cs k).length:=fun g=>List.length_pos_iff.2 (hne k g);refine z6 (z6 ?_);refine Zrd [0,1,5,6,7,38] [0,1,2,3,4,5,6,7,8,9,10,11,12,13,14,15,16,17,18,19,20] [[],[],[],[],[],[],[],[],[],[],[],[],[],[],[],[],[],[],[],[],[]] [[],[],[],[],[],[],[],[],[],[],[],[],[],[],[],[],[],[],[],[],[]] ?_;intro K hK
  have hk6:∀B:Bool,(B=true->k<cs.length/\z49 (hdN (cnd cs k)).word (nd xs i).word lv=false)->(B=false->k=cs.length\/k<cs.length/\z49 (hdN (cnd cs k)).word (nd xs i).word lv=true)->K [(0,.slc false 0 0 0 xs.length),(1,.int .i64 lv),(5,.slc true 1 0 0 cs.length),(6,.int .i64 i),(7,.int .i64 k),(38,.bool B)] ⟨3,[(1,uQ (.row ⟨true,false,23,1,cs.length,clR true 2 cs⟩)),(2,(cs.length+1,fam true 62 3 (clF true cs))),(0,uQ (.row ⟨false,false,62,3,xs.length,nds xs⟩))]⟩:=by
   intro B hB1 hB2;refine hK _ _ ?_;clear hK K;refine z7 _ rfl ?_ ?_
   ·intro h38;obtain⟨hB3,hB4⟩:=hB1 h38;refine za (zc fun Q3 hN3 hX3 hR3 hE3=> ?_);refine Zrg [0,1,5,6,7] ?_;refine ze (hN3 _ _ (ze (hL2 _ _ ?_)));rw[show(k:Int)+1=((k+1:Nat):Int) from by omega];refine⟨k+1,⟨⟨by omega,fun q hq=> ?_⟩,by omega⟩,id,(Zg id)⟩
    by_cases e:q=k
    ·subst e;exact hB4
    ·exact hk2 q (by omega)
   ·intro h38;have hB3:=hB2 h38;refine zw (hEL2 _ _ _ (hX2 _ _ (z6 ?_)));refine Zrs [0,1,5,6,7,44] ?_;refine z7 _ rfl ?_ ?_
    ·intro h44;replace h44:=Znb h44;have hkl:k=cs.length:=by omega
     subst hkl;refine Zrg [0,1,5,6,7] ?_;refine Zrd [0,1,5,6] [0,1,2,3,4,5,6,7,8,9,10,11,12,13] [[],[],[],[],[],[],[],[],[],[],[],[],[],[4]] [[],[],[],[],[],[],[],[],[],[],[],[],[],[4]] ?_;intro K hK;iterate 13 (refine Zo (Zi [] []) ?_)
     refine Zo (Zi [4] [4]) ?_;refine z11 (Zpr (hK _ _ ?_));clear hK K;refine ze (hN1 _ _ ?_)
     have hout:∀q,q<cs.length+1->(if q=cs.length then [SV.slc true 6 0 0 1] else app (clR true 2 cs) cs.length (z4f 1 1 [SV.nils]) q)=SV.renPL (mvP (fun q=>if q=1 then 4 else q) 2 cs.length 6) (clR true 2 (cs++[[nd xs i]]) q):=fun q hq=>by
      rw[clR_renP]
      split
      ·rename_i e;subst e;rw[cnd_last];rfl
      ·rw[cnd_append (by omega),app,qf (by omega)];rfl
     refine z4p (fr':=[(0,.slc false 0 0 0 xs.length),(1,.int .i64 lv),(5,.slc true 1 0 0 (cs.length+1)),(6,.int .i64 i)]) (H':=⟨3,[(1,uQ (.row ⟨true,false,23,1,cs.length+1,clR true 2 (cs++[[nd xs i]])⟩)),(2,(cs.length+1+1,fam true 62 3 (clF true (cs++[[nd xs i]])))),(0,uQ (.row ⟨false,false,62,3,xs.length,nds xs⟩))]⟩) _ (Zgp (fun q=>if q=1 then 4 else q) (2) (cs.length) (6) (z1i rfl ql (by decide) (zq.of (fun _=>⟨rfl,rfl⟩) rfl (qd _) hout) (Obj.lt_row.2 fun q _=>(clR_lt _ _ _ _ q).2 (qc rfl)) (qc rfl) (z4q rfl rfl ql ⟨fun _=>⟨rfl,rfl⟩,rfl⟩ (QZ _) (fun q hq hne=>⟨by omega,clF_givesP _ _ _ _ _ _ id (cnd_append (by omega)),clFm_lt _ _ _ _⟩) (clF_newP _ _ _ _ _ rfl (cnd_last _ _)) (clFm_lt _ _ _ _) (qc rfl) (z1i rfl ql (by decide) (zq.of (fun h=>by cases h) rfl (qd _) fun q _=>(z33 _ _ q).symm) (Obj.lt_row.2 fun q _=>z4e _ _ q) (qc rfl) trivial)))) ?_;refine Zrg [0,1,5,6] ?_;refine ze (hL1 _ _ ?_);have hstep:clsG lv (xs.take (i+1)) []=cs++[[nd xs i]]:=by rw[take_nd (by omega),clsG_snoc,hcs,insC_new hk2]
     rw[show(i:Int)+1=((i+1:Nat):Int) from by omega];refine⟨i+1,⟨⟨by omega,by omega⟩,by omega⟩,id,?_⟩;simp only[hstep,qU,Qf];exact(Zg id)
    ·intro h44;replace h44:=Znb h44
     obtain⟨hkl,hsm⟩:k<cs.length/\z49 (hdN (cnd cs k)).word (nd xs i).word lv=true:=by
      rcases hB3 with g|g
      ·omega
      ·exact g
     have hml:(cnd cs k).length<=i:=by
      have h1:=hok.1.eq (cnd cs k) (by rw[cnd_lt hkl];exact qM hkl);have h2:(grpW ([]++xs.take i) lv (hdN (cnd cs k)).word).length<=([]++xs.take i).length:=jC ..;rw[<-h1] at h2;simp at h2;omega
     refine za ?_;refine Zrd [0,1,5,6] [0,1,2,3,4,5,6,7,8,9,10,11,12,13] [[],[],[],[],[],[],[],[],[],[],[],[2],[],[1]] [[2],[2],[],[],[],[],[],[],[],[],[],[2],[2],[1,2]] ?_;intro K hK;iterate 2 (refine Zo (Zi [] [2]) ?_)
     iterate 9 (refine Zo (Zi [] []) ?_)
     refine Zo (Zi [2] [2]) ?_;refine Zo (Zi [] [2]) ?_;refine Zo (Zi [1] [1,2]) ?_;refine z11 (Zpr (hK _ _ ?_));clear hK K;refine ze (hN1 _ _ ?_)
     have hout:∀q,q<cs.length->(if q=k then [SV.slc true 4 0 0 ((cnd cs k).length+1)] else clR true 2 cs q)=SV.renPL (mvP id 2 k 4) (clR true 2 (cs.set k (cnd cs k++[nd xs i])) q):=fun q hq=>by
      rw[clR_renP,cnd_set _ _ _ _ hkl]
      split
      ·simp
      ·rfl
     refine z4p (fr':=[(0,.slc false 0 0 0 xs.length),(1,.int .i64 lv),(5,.slc true 1 0 0 cs.length),(6,.int .i64 i)]) (H':=⟨3,[(1,uQ (.row ⟨true,false,23,1,cs.length,clR true 2 (cs.set k (cnd cs k++[nd xs i]))⟩)),(2,(cs.length+1,fam true 62 3 (clF true (cs.set k (cnd cs k++[nd xs i]))))),(0,uQ (.row ⟨false,false,62,3,xs.length,nds xs⟩))]⟩) _ (Zgp (id) (2) (k) (4) (z1i rfl ql (by decide) (zq.of (fun _=>⟨rfl,rfl⟩) rfl (qd _) hout) (Obj.lt_row.2 fun q _=>(clR_lt _ _ _ _ q).2 (qc rfl)) (qc rfl) (z4q rfl rfl ql ⟨fun _=>⟨rfl,rfl⟩,rfl⟩ (QZ _) (fun q hq hne=>⟨by omega,by rw[qb hne];exact clF_givesP _ _ _ _ _ _ id (by rw[cnd_set _ _ _ _ hkl,qb hne]),clFm_lt _ _ _ _⟩) (clF_newP _ _ _ _ _ (by simp) (by rw[cnd_set _ _ _ _ hkl,qf rfl])) (clFm_lt _ _ _ _) (qc rfl) (z1i rfl ql (by decide) (zq.of (fun h=>by cases h) rfl (qd _) fun q _=>(z33 _ _ q).symm) (Obj.lt_row.2 fun q _=>z4e _ _ q) (qc rfl) trivial)))) ?_;refine Zrg [0,1,5,6] ?_;refine ze (hL1 _ _ ?_);have hstep:clsG lv (xs.take (i+1)) []=cs.set k (cnd cs k++[nd xs i]):=by rw[take_nd (by omega),clsG_snoc,hcs,insC_old hkl hsm hk2]
     rw[show(i:Int)+1=((i+1:Nat):Int) from by omega];refine⟨i+1,⟨⟨by omega,by omega⟩,by omega⟩,id,?_⟩;simp only[hstep,qC];exact(Zg id)
  iterate 18 (refine Zo (Zi [] []) ?_)
  refine runI_cons _ [] [] rfl rfl rfl ?_;refine z2e rfl rfl ?_;refine Zgr ?_;refine z1r ?_ ?_
  ·intro hg18
   first
    |(simp at hg18;done)
    |skip
     try replace hg18:=Znb hg18
     refine Zo id ?_;refine Zc1 (refSame_w_spec (nd (cnd cs k) 0).word (nd xs i).word lv) (id) ?_;iterate 2 (refine Zo (Zi [] []) ?_)
     refine z11 ?_;refine Zpr ?_;refine hk6 _ (fun g=> ?_) (fun g=> ?_)
     ·rw[qh,qj,qk] at g;exact⟨by omega,g.2⟩
     ·rw[qG hg18,Qb,qq] at g;exact .inr ⟨by omega,g⟩
  ·intro hg18;refine⟨.bool false,?_⟩
   first
    |(simp at hg18;done)
    |skip
     try replace hg18:=Znb hg18
     iterate 2 (refine Zo (Zi [] []) ?_)
     refine z11 ?_;refine Zpr ?_;refine hk6 _ (fun g=> ?_) (fun g=> ?_)
     ·rw[qj] at g;omega
     ·exact .inl (by omega)
 ·intro h15;obtain⟨hi,hi0⟩:=hi;have hi15:¬(i<xs.length/\lv<=16):=by simp at h15;omega
  refine zw (hEL1 _ _ _ (hX0 _ _ ?_));refine Zrs [4] ?_;refine zd (hQ _ _ ?_)
  have he:clsG lv (xs.take i) []=z4t xs lv:=by
   by_cases h16:16<lv
   ·rw[hi0 h16,z4t,qf h16];rfl
   ·rw[Qo (by omega),z4t,qb (by omega)]
  rw[he];refine zm (id) (.slc true 1 0 0 (z4t xs lv).length) (⟨3,[(1,uQ (.row ⟨true,false,23,1,(z4t xs lv).length,clR true 2 (z4t xs lv)⟩)),(2,((z4t xs lv).length+1,fam true 62 3 (clF true (z4t xs lv))))]⟩) (.inl rfl) ?_;refine Zou ?_;refine⟨Zs,Zs,(Zg (id)),Zs,?_⟩
  all_goals first|trivial|exact⟨rfl,trivial⟩
theorem refClasses6_spec (xs:List Nd)(n:Nat)(hn:xs.length=n)(lv:Int)(hx:n<=1000000):
  zf prog 92 [.slc false 0 0 0 n,.int .i64 lv] ⟨1,[(0,uQ (.row ⟨false,false,62,3,n,nds xs⟩))]⟩
   (fun s H1=>s= .slc true 1 0 0 (z4t (z52 xs) lv).length/\H1=⟨3,[(1,uQ (.row ⟨true,false,23,1,(z4t (z52 xs) lv).length,clR true 2 (z4t (z52 xs) lv)⟩)),(2,((z4t (z52 xs) lv).length+1,fam true 62 3 (clF true (z4t (z52 xs) lv))))]⟩):=by
 subst hn;have hsl:(z52 xs).length=xs.length:=srtN_length xs;refine zf.ofC false 9 [.tmp 4] func92 rfl rfl ntmps92 results92 rfl ?_;intro w0 own0 β0 Q hQ hQn;simp only[z18];refine Zrs [0,1] ?_;refine sg [4] rfl ?_;intro K hK;refine Zo Zl ?_;refine Zo Zl ?_;refine Zc1 (refSort_spec xs xs.length rfl hx) (id) ?_;refine Zo Zl ?_;refine Zo Zl ?_;refine Zc1 (refClasses_spec (z52 xs) xs.length hsl lv hx) (fun _=>1) ?_;refine Zo Zl ?_;refine z8 (Zpr (hK _ _ ?_));clear hK K;refine zd (hQ _ _ ?_);refine zm (fun q=>if q=1 then 2 else if q=2 then 3 else q) (.slc true 1 0 0 (z4t (z52 xs) lv).length) (⟨3,[(1,uQ (.row ⟨true,false,23,1,(z4t (z52 xs) lv).length,clR true 2 (z4t (z52 xs) lv)⟩)),(2,((z4t (z52 xs) lv).length+1,fam true 62 3 (clF true (z4t (z52 xs) lv))))]⟩) (.inl rfl) ?_;refine Zou ?_;refine⟨Zs,Zs,(Zg (fun q=>if q=1 then 2 else if q=2 then 3 else q)),Zs,?_⟩
 all_goals first|trivial|exact⟨rfl,trivial⟩
end
section
theorem put_Bn (l:List Cl)(c:Nat)(b:Bool)(h:c<l.length):(fun i=>if i=c then [SV.str (cl l c).key,.int .i64 (cl l c).left,.int .i64 (cl l c).right,.int .i64 (cl l c).lock,.bool b] else [SV.str (cl l i).key,.int .i64 (cl l i).left,.int .i64 (cl l i).right,.int .i64 (cl l i).lock,.bool (cl l i).gone])=z2m (setB l c b):=cls_put' l c {cl l c with gone:=b} h
def LlZm.exE:=aj9 @zg @zi @zn @zk ec1 ec2 @zj @zt (aj9 @zu ec9 ec3 ec4 ec10 @z1d.eq_1 @zz.eq_1 ec38 (aj ec39 @ints.eq_1))
def LlZm.axE:=aj9 @zg @zi @zn @zk ec1 ec2 @zj @zt (aj9 @zu ec9 ec3 ec4 ec10 @z1d.eq_1 @zz.eq_1 ec38 (aj7 ec39 @z1q @z2n @pAt_ren @renL_ite ec42 @z31))
open LlWm (gxE)
open LlZm (axE exE)
open LlBm (oxE)
open D0 (sdE)
theorem refNew_spec (keys:List ByteArray)(inn:List Bool)(n m:Nat)(hn:keys.length=n)(hi:inn.length=n)(hn12:n<=64)(hm1:1<=m)(hm8:m<=8)(hk:∀i,i<n->okKey (kAt keys i)=true)(hd:keys.Nodup):
  zf prog 93 [.slc false 0 0 0 n,.slc false 1 0 0 n,.int .i64 m] ⟨2,[(0,inStr keys),(1,inBo inn)]⟩
   (fun s H1=>s= .tup [lsS (newK keys inn n,List.replicate m noPr),.int .i64 0]/\H1=lsH (newK keys inn n,List.replicate m noPr)):=by
 subst hn;have hcl:(lnk (celO keys keys.length) 0 (ordN keys inn keys.length)).length=keys.length+2:=by rw[lnk_length,celO_len]
 have hzl:(ordZ keys inn keys.length).length<=keys.length+2:=by
  have:=ordR_pos keys inn keys.length;rw[<-ordZ_of,qU,Qf];omega
 generalize hL:lnk (celO keys keys.length) 0 (ordN keys inn keys.length)=L at*
 refine zf.ofC false 65 [.cell 6 85,.tmp 7] func93 rfl rfl ntmps93 results93 rfl ?_;intro w0 own0 β0 Q hQ hQn;simp only[z18];refine Zrs [0,1,2,6] ?_;refine z6 ?_;refine sg [0,1,2,6,8] rfl ?_;intro K hK;iterate 3 (refine Zo Zl ?_)
 refine Zo Zl ?_;refine Zc1 (newError_spec keys inn keys.length m rfl hi hn12 hm1 hm8 hk hd) (id) ?_;refine Zo Zl ?_;refine z8 (Zpr (hK _ _ ?_));clear hK K;refine Zrs [0,1,2,6,8,18] ?_;refine z7 _ rfl ?_ ?_
 ·intro h18
  exfalso;simp at h18
 ·intro h18
  refine za ?_;refine sg [0,1,2,6,9,10] rfl ?_;intro K hK;iterate 2 (refine Zo Zl ?_)
  refine Zo Zl ?_;have h:=chained_spec keys inn keys.length rfl hi hn12;rw[hL] at h;refine Zc1 (h) (id) ?_;iterate 5 (refine Zo Zl ?_)
  refine z8 (Zpr (hK _ _ ?_));clear hK K;refine z6 ?_;refine Zrs [0,1,2,6,9,10,11] ?_;refine zc fun Q0 hN0 hX0 hR0 hE0=> ?_;refine zx (σ:=Nat) (fun i=>i<=keys.length) (fun i=>keys.length-i) (fun i=>[(0,.slc false 0 0 0 keys.length),(1,.slc false 1 0 0 keys.length),(2,.int .i64 m),(6,.ptr 2 0 0 0),(9,.slc true 3 0 0 (keys.length+2)),(10,.slc true 4 0 0 (ordZ keys inn keys.length).length),(11,.int .i64 i)]) (fun i=>⟨5,[(4,zz (ordZ keys inn keys.length)),(3,uQ (.row ⟨true,false,117,5,keys.length+2,z2m (gonN L inn i)⟩)),(2,uQ (.row ⟨true,true,85,2,1,fun _=>[.nils,.nils]⟩)),(0,inStr keys),(1,inBo inn)]⟩) 0 (qp _) (ρ:=id) (have xE:=aj @gonN.eq_1 @gonN.eq_2;Zgx id) ?_;rintro i hle QL1 hL1 hRL1 hEL1;refine z6 ?_;refine Zrs [0,1,2,6,9,10,11,30] ?_;refine z7 _ rfl ?_ ?_
  ·intro h30;replace h30:=Znb h30;have hli:i<keys.length:=by omega
   have hgl:=gonN_len L inn i;refine za (z6 (zc fun Q1 hN1 hX1 hR1 hE1=> ?_));refine z3c [0,1,2,6,9,10,11] rfl ?_;intro K hK;iterate 9 (refine Zo Zl ?_)
   rw[show(i:Int)+2=((i+2:Nat):Int) from by omega];repeat(with_reducible apply qe;exact sdE)
   iterate 2 (refine Zo Zl ?_)
   rw[put_Bn (gonN L inn i) (i+2) (!bAt inn i) (by omega)];repeat(with_reducible apply qe;exact sdE)
   refine z8 (Zpr (hK _ _ ?_));clear hK K;refine ze (hN1 _ _ ?_);refine Zrg [0,1,2,6,9,10,11] ?_;refine ze (hL1 _ _ ?_);rw[show(i:Int)+1=((i+1:Nat):Int) from by omega];refine⟨i+1,⟨by omega,by omega⟩,id,?_⟩;simp only[gonN];exact(Zg id)
  ·intro h30;replace h30:=Znb h30;have hni:i=keys.length:=by omega
   subst hni;have hgl:=gonN_len L inn keys.length;refine zw (hEL1 _ _ _ (hX0 _ _ (z6 ?_)));refine Zrs [2,6,9,10,12] ?_;refine zc fun Q2 hN2 hX2 hR2 hE2=> ?_;refine zx (σ:=Nat×List Cl) (fun σ=>((1<=σ.1/\σ.1<=(ordZ keys inn keys.length).length)/\σ.2.length=keys.length+2)/\lefL σ.2 (nth (ordZ keys inn keys.length) (σ.1-1)) ((ordZ keys inn keys.length).drop σ.1)=newK keys inn keys.length) (fun σ=>(ordZ keys inn keys.length).length-σ.1) (fun σ=>[(2,.int .i64 m),(6,.ptr 2 0 0 0),(9,.slc true 3 0 0 (keys.length+2)),(10,.slc true 4 0 0 (ordZ keys inn keys.length).length),(12,.int .i64 σ.1)]) (fun σ=>⟨5,[(4,zz (ordZ keys inn keys.length)),(3,uQ (.row ⟨true,false,117,5,keys.length+2,z2m σ.2⟩)),(2,uQ (.row ⟨true,true,85,2,1,fun _=>[.nils,.nils]⟩))]⟩) (1,gonN L inn keys.length) ⟨⟨⟨qd _,by dsimp only;rw[ordZ];simp⟩,by dsimp only;omega⟩,by rw[<-newK_ref,hL];rfl⟩ (ρ:=id) (Zg id) ?_;rintro⟨j,cs⟩ hj QL2 hL2 hRL2 hEL2;refine z6 ?_;refine Zrs [2,6,9,10,12,46] ?_;refine z7 _ rfl ?_ ?_
   ·intro h46;replace h46:=Znb h46;obtain⟨⟨⟨hj1,hj2⟩,hj3⟩,hj4⟩:=hj;dsimp only at hj1 hj2 hj3 hj4;have hjl:j<(ordZ keys inn keys.length).length:=by omega
    have hz1:=ordZ_mem (keys:=keys) (inn:=inn) (n:=keys.length) (q:=j) (by omega);have hz2:=ordZ_mem (keys:=keys) (inn:=inn) (n:=keys.length) (q:=j-1) (by omega);refine za (z6 (zc fun Q3 hN3 hX3 hR3 hE3=> ?_));refine Zrd [2,6,9,10,12] [0,1,2,3,4,5,6,7,8,9,10,11,12] [[],[],[],[],[],[],[],[],[],[],[],[],[3]] [[],[],[],[],[],[],[],[],[],[],[],[],[3]] ?_;intro K hK;iterate 9 (refine Zo (Zi [] []) ?_)
    rw[show(j:Int)-1=((j-1:Nat):Int) from by omega];repeat(with_reducible apply qe;exact sdE)
    iterate 3 (refine Zo (Zi [] []) ?_)
    refine Zo (Zi [3] [3]) ?_;rw[put_F cs (nth (ordZ keys inn keys.length) j) (nth (ordZ keys inn keys.length) (j-1)) (by omega)];repeat(with_reducible apply qe;exact sdE)
    refine z11 (Zpr (hK _ _ ?_));clear hK K;refine ze (hN3 _ _ ?_);refine Zrg [2,6,9,10,12] ?_;refine ze (hL2 _ _ ?_);rw[show(j:Int)+1=((j+1:Nat):Int) from by omega];refine⟨(j+1,z4g cs (nth (ordZ keys inn keys.length) j) (nth (ordZ keys inn keys.length) (j-1))),⟨⟨⟨⟨by dsimp only;omega,by dsimp only;omega⟩,by dsimp only;rw[z5a];exact hj3⟩,?_⟩,by dsimp only;omega⟩,id,(Zg id)⟩;dsimp only;rw[<-hj4,jo hjl,lefL,<-z2v hjl]
    rfl
   ·intro h46;replace h46:=Znb h46;obtain⟨⟨⟨hj1,hj2⟩,hj3⟩,hj4⟩:=hj;dsimp only at hj1 hj2 hj3 hj4;rw[jS (by omega)] at hj4;have hj6:cs=newK keys inn keys.length:=hj4;refine zw (hEL2 _ _ _ (hX2 _ _ ?_));refine sg [6,7] rfl ?_;intro K hK;iterate 3 (refine Zo Zl ?_)
    rw[prs_zero m];repeat(with_reducible apply qe;exact sdE)
    iterate 3 (refine Zo Zl ?_)
    refine z8 (Zpr (hK _ _ ?_));clear hK K;refine zd (hQ _ _ ?_);unfold lsH lsS;dsimp only;rw[<-hj6,hj3,Qk];refine zm (fun q=>if q=2 then 3 else if q=3 then 5 else q) (.tup [.agg [.slc true 2 0 0 (keys.length+2),.slc true 3 0 0 m],.int .i64 0]) (⟨4,[(3,uQ (.row ⟨true,false,110,7,m,prs (List.replicate m noPr)⟩)),(2,uQ (.row ⟨true,false,117,5,keys.length+2,z2m cs⟩))]⟩) (.inl rfl) ?_;refine Zou ?_;refine⟨Zs,Zs,(Zg (fun q=>if q=2 then 3 else if q=3 then 5 else q)),Zs,?_⟩
    all_goals first|trivial|(simp only[z3h,z2x,hj3,Qk];done)|(exact⟨rfl,by simp only[z3h,z2x,hj3,Qk]⟩)
end
section
def idL5 (xs:List Nd):List Int:=xs.map (·.id)
theorem idL5_take {xs:List Nd}{i:Nat}(h:i<xs.length):idL5 (xs.take (i+1))=idL5 (xs.take i)++[(nd xs i).id]:=by
 rw[take_nd h];simp[idL5]
def IrB5m.exE:=aj9 @zg @zi @zj @zo @zl ec13 @zp z43 (aj8 z4y @zk @z12 @zn @ints.eq_1 @z1c @z21 @zz.eq_1)
def IrB5m.gxE:=aj6 z43 ec16 z4y @z1v @z1t @zz.eq_1
open IrB5m (gxE exE)
open D0 (oxE sdE)
theorem ids5_spec (xs:List Nd)(n:Nat)(hn:xs.length=n)(hx:n<=1000000):
  zf prog 94 [.slc false 0 0 0 n] ⟨1,[(0,uQ (.row ⟨false,false,62,3,n,nds xs⟩))]⟩
   (fun s H1=>s= .slc true 1 0 0 n/\H1=⟨2,[(1,uQ (.row ⟨true,false,3,1,n,ints (idL5 xs)⟩))]⟩):=by
 subst hn;refine zf.ofC false 20 [.tmp 2] func94 rfl rfl ntmps94 results94 rfl ?_;intro w0 own0 β0 Q hQ hQn;simp only[z18];refine Zrs [0] ?_;refine Zrs [0,3] ?_;refine z6 ?_;refine Zrs [0,3,4] ?_;refine z2d 3 3 1 (ints (idL5 (xs.take 0))) rfl ?_;dsimp only;refine zc fun Q0 hN0 hX0 hR0 hE0=> ?_;refine zx (σ:=Nat) (fun i=>i<=xs.length) (fun i=>xs.length-i) (fun i=>[(0,.slc false 0 0 0 xs.length),(3,.slc true 1 0 0 i),(4,.int .i64 i)]) (fun i=>⟨2,[(1,uQ (.row ⟨true,false,3,1,i,ints (idL5 (xs.take i))⟩)),(0,uQ (.row ⟨false,false,62,3,xs.length,nds xs⟩))]⟩) 0 (qp _) (ρ:=id) (Zg id) ?_;rintro i hi QL1 hL1 hRL1 hEL1;refine z6 ?_;refine Zrs [0,3,4,8] ?_;refine z7 _ rfl ?_ ?_
 ·intro h8;replace h8:=Znb h8;refine za (z6 (zc fun Q1 hN1 hX1 hR1 hE1=> ?_));refine Zrg [0,3,4] ?_;refine ze (hN1 _ _ ?_);refine Zrg [0,3,4] ?_;refine ze (hL1 _ _ ?_);rw[app_intsN (by rw[idL5,qB,qO];omega),<-idL5_take (by omega),show(i:Int)+1=((i+1:Nat):Int) from by omega];exact⟨i+1,⟨by omega,by omega⟩,fun q=>if q=1 then 3 else q,(Zg (fun q=>if q=1 then 3 else q))⟩
 ·intro h8
  refine zw (hEL1 _ _ _ (hX0 _ _ ?_));refine Zrs [2] ?_;refine zd (hQ _ _ ?_)
  have hin:i=xs.length:=by
   have:¬(i:Int)<xs.length:=by simpa using h8
   omega
  rw[hin,Qo (qd _)];refine zb (H':=⟨2,[(1,uQ (.row ⟨true,false,3,1,xs.length,ints (idL5 xs)⟩))]⟩) (.inl rfl) ?_;refine Zou ?_;refine⟨Zs,(Zg id),Zs,?_⟩
  all_goals first|trivial|exact⟨rfl,trivial⟩
def cnPd (i:Nat):Pn:=fun id k=>if id=0 then(0,i+1) else(id,k)
theorem ids5M_spec (cs : List (List Nd)) (i k : Nat) (hk : cs.length = k) (hi : i < k) (hx : (cnd cs i).length <= 1000000) :
    zf prog 94 [.slc false 0 (i+1) 0 (cnd cs i).length] ⟨1,[(0,(k+1,fam false 62 3 (clF false cs)))]⟩
      (fun s H1=>s= .slc true 1 0 0 (cnd cs i).length/\H1=⟨2,[(1,uQ (.row ⟨true,false,3,1,(cnd cs i).length,ints (idL5 (cnd cs i))⟩))]⟩):=by
  have g:=(ids5_spec (cnd cs i) _ rfl hx).mem (cnPd i) (os1:=[(0,(k+1,fam false 62 3 (clF false cs)))])
    (by
      refine⟨⟨ql,fun k=>rfl,fun k' hk=>⟨Obj.lt_row.2 fun q _=>z4e _ _ q,?_⟩⟩,trivial⟩;simp only[cnPd,Qh,Sk.find];refine⟨by omega,?_⟩;rw[z2h]
      exact⟨fun h=>(by cases h),rfl,qd _,fun q _=>(z33 _ _ q).symm⟩)
    ⟨by simp [SV.lt], trivial⟩ (by intro id k hid; simp only [cnPd]; split; · exact ql
                                   · exact hid) (by
      intro x hx k;simp only[qL] at hx;subst hx
      exact clF_fown false _ _ cs k)
  have e:SV.renPL (cnPd i) [.slc false 0 0 0 (cnd cs i).length]=[.slc false 0 (i+1) 0 (cnd cs i).length]:=by simp[SV.renPL,SV.renP,cnPd]
  rw[e] at g;refine g.imp ?_;rintro s H' ⟨s0,H0',⟨rfl,rfl⟩,rfl,rfl⟩;refine⟨by simp[SV.renP,memP],?_⟩;simp only[renPOs,q7,QY,uQ,Obj.renP,z2k]
end
end Go.Proofs
