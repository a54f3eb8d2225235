/-
  Walks and plain facts, joined: part 15 of 18.
  Conditions: those that each statement names.
-/
import Derived.Test.YtpnefndionckaaaGreatDoorRpk
import Derived.Test.YtpnefndionckaaaGreatDoorRpg
import Derived.Test.YtpnefndionckaaaGreatDoorRpc
import Derived.Test.YtpnefndionckaaaGreatDoorRph
set_option linter.unusedSimpArgs false
set_option linter.unusedVariables false
set_option linter.defProp false
set_option maxRecDepth 4000
set_option maxHeartbeats 8000000
namespace Go.Proofs
open Tryz
open Go.Sk
section
def lyW (f:Nat)(L:List Ly)(i b c:Nat)(r:List Cl×List Pr):Nat->List SV:=fun j=>if j=i then [.int .i64 (lyA L j).lvl,.int .u32 (lyA L j).wd,.slc true f (3*j+1) 0 (lyA L j).ids.length,.slc true b 0 0 r.1.length,.slc true c 0 0 r.2.length] else lyR f L j
def lyW_ren (ρ:Nat->Nat)(f:Nat)(L:List Ly)(i b c:Nat)(r:List Cl×List Pr):(fun j=>SV.renL ρ (lyW f L i b c r j))=lyW (ρ f) L i (ρ b) (ρ c) r:=by
 funext j
 unfold lyW
 split
 ·simp[SV.renL,SV.ren]
 exact lyR_ren' ρ f L j
def lyW_ren' (ρ:Nat->Nat)(f:Nat)(L:List Ly)(i b c:Nat)(r:List Cl×List Pr)(j:Nat):SV.renL ρ (lyW f L i b c r j)=lyW (ρ f) L i (ρ b) (ρ c) r j:=jv (lyW_ren ρ f L i b c r) j
def lyW_lt {m f:Nat}{L:List Ly}{i b c:Nat}{r:List Cl×List Pr}(hf:f<m)(hb:b<m)(hc:c<m)(j:Nat):SV.ltL m (lyW f L i b c r j):=by
 unfold lyW
 split
 ·simp[SV.ltL,SV.lt,hf,hb,hc]
 exact(z67 m f L j).2 hf
def lyW_in (f:Nat)(L:List Ly)(i b c:Nat)(r:List Cl×List Pr)(j:Nat):((if j=i then [SV.int .i64 (lyA L i).lvl,.int .u32 (lyA L i).wd,.slc true f (3*i+1) 0 (lyA L i).ids.length,.slc true b 0 0 r.1.length,.slc true c 0 0 r.2.length] else [.int .i64 (lyA L j).lvl,.int .u32 (lyA L j).wd,.slc true f (3*j+1) 0 (lyA L j).ids.length,.slc true f (3*j+2) 0 (lyA L j).cs.length,.slc true f (3*j+3) 0 (lyA L j).ps.length])=lyW f L i b c r j)=True:=eq_true (by
 unfold lyW
 split
 ·rename_i e;rw[e]
 rfl)
def startM_spec (L:List Ly)(hb:lyB L)(i k:Nat)(hi:i<k)(p kind cell:Int):
  zj prog 101 [.agg [.slc false 0 (3*i+2) 0 (lyA L i).cs.length,.slc false 0 (3*i+3) 0 (lyA L i).ps.length],.int .i64 p,.int .i64 kind,.int .i64 cell] ⟨2,[(0,(3*k+1,fam false 3 1 (lyF false L)))]⟩
   (fun s H1=>s= .tup [lsS (z2o (lyA L i).cs (lyA L i).ps p kind cell),.int .i64 (z2t (lyA L i).cs (lyA L i).ps p kind cell)]/\H1=lsH (z2o (lyA L i).cs (lyA L i).ps p kind cell)):=by
 have hbi:=hb.2 i;refine(lyLs L i k hi (start_spec (lyA L i).cs (lyA L i).ps _ _ rfl rfl (by omega) (by omega) p kind cell) (by simp[SV.ltL,SV.lt]) fun π=>rfl).imp ?_;rintro s H' ⟨s0,H0',⟨rfl,rfl⟩,rfl,rfl⟩;refine⟨by simp[lsS,SV.renP,SV.renPL,memP],?_⟩;simp only[lsH,renPOs,q8,QU,z2p,z2c,uQ,rO,rI,rV,Obj.renP,z51,z3n]
def stepM_spec (L:List Ly)(hb:lyB L)(i k:Nat)(hi:i<k)(p:Int):
  zj prog 106 [.agg [.slc false 0 (3*i+2) 0 (lyA L i).cs.length,.slc false 0 (3*i+3) 0 (lyA L i).ps.length],.int .i64 p] ⟨2,[(0,(3*k+1,fam false 3 1 (lyF false L)))]⟩
   (fun s H1=>s= .tup [lsS (stepR (lyA L i).cs (lyA L i).ps p),.bool (z5u (lyA L i).cs (lyA L i).ps p)]/\H1=lsH (stepR (lyA L i).cs (lyA L i).ps p)):=by
 have hbi:=hb.2 i;refine(lyLs L i k hi (stepL_spec (lyA L i).cs (lyA L i).ps _ _ rfl rfl (by omega) (by omega) p) (by simp[SV.ltL,SV.lt]) fun π=>rfl).imp ?_;rintro s H' ⟨s0,H0',⟨rfl,rfl⟩,rfl,rfl⟩;refine⟨by simp[lsS,SV.renP,SV.renPL,memP],?_⟩;simp only[lsH,renPOs,q8,QU,z2p,z2c,uQ,rO,rI,rV,Obj.renP,z51,z3n]
def begR (L:List Ly)(p:Int)(c:Cb):List Cl×List Pr:=z2o (lyA L (plI L c.node c.lvl).toNat).cs (lyA L (plI L c.node c.lvl).toNat).ps p c.kind (plK L c.node c.lvl)
def ec99:=aj @lsS.eq_1 @lsH.eq_1
def JnTm.exE:=aj9 @z11 @zd @zf @zo @zh @zx @z10 ec2 (aj9 @zg @zp @zm @zi z58 @zn z3g z3w (aj9 @zq ec3 ec5 @z1a.eq_1 @zu.eq_1 @ints.eq_1 ec34 ec35 (aj ec36 ec99)))
def ec45:=aj3 @lyW_ren' @lyW_lt @lyW_in
def JnTm.gxE:=aj9 @z11 z3g ec16 z3w ec3 ec7 ec8 @z1a.eq_1 (aj7 @zu.eq_1 @z20 @z1u ec37 ec26 ec29 ec45)
def JnTm.axE:=aj9 @z11 @zd @zf @zo @zh @zx @z10 ec2 (aj9 @zg @zp @zm @zi z58 @zn z3g z3w (aj9 @zq ec3 ec5 @z1a.eq_1 @zu.eq_1 ec34 ec35 ec99 (aj7 @z1p @z21 @z2j @z2r ec38 @z38 @lyW_ren)))
open JnTm (gxE axE exE)
open JnNm (oxE)
open D0 (sdE)
def begin_spec (L:List Ly)(C:List Cb)(hb:lyB L)(n k m p:Nat)(ht:Int)(hk:L.length=k)(hm:C.length=m)(hm6:m<=1000000)(hp:p<m)(hI:0<=plI L (cbA C p).node (cbA C p).lvl)(he:beginE L p (cbA C p)=0):
  zj prog 63 [.agg [.slc false 0 0 0 n,.int .i64 ht,.slc true 1 0 0 k,.slc false 3 0 0 m],.int .i64 p] ⟨4,[(1,rO 89 5 k (lyR 2 L)),(2,(3*k+1,fam false 3 1 (lyF false L))),(3,rI 58 3 m (cbs C))]⟩
   (fun s H1=>s= .int .i64 0/\H1=⟨6,[(1,rO 89 5 k (lyW 2 L (plI L (cbA C p).node (cbA C p).lvl).toNat 4 5 (begR L p (cbA C p)))),(4,z2c (begR L p (cbA C p)).1),(5,z2p (begR L p (cbA C p)).2)]⟩):=by
 subst hk hm;have hlen:=hb.1;obtain⟨i,hi,hIi,hlv,q,hq,hKk,_⟩:=plI_at hI;rw[beginE,hIi,hKk,qq] at he;have hr:begR L p (cbA C p)=z2o (lyA L i).cs (lyA L i).ps p (cbA C p).kind ((q:Int)+2):=by rw[begR,hIi,hKk,qq]
 rw[hr,hIi,qq];refine Zf false 47 [.tmp 4] func63 ntmps63 results63 fun w0 own0 β0 Q hQ hQn=> ?_;refine Zrs [1,2] ?_;refine Zrs [1,2,5] ?_;refine sg [1,2,5,6,7] rfl ?_;intro K hK;iterate 5 (refine Zo Zl ?_)
 refine Zd Zl (place_spec L hb L.length n C.length rfl ht (cbA C p).node (cbA C p).lvl) (id) ?_;rw[hIi,hKk];refine Zkl hK ?_;clear hK K;refine z6 ?_;refine Zrt [2,6,8,9] (.op 0 (.op 1 (.op 2 (.op 3 (.op 4 (.op 5 (.op 6 (.op 7 (.op 8 (.op 9 (.two 10 14 (.op 11 (.op 12 (.op 13 (.op 14 (.op 15 (.op 16 .done)))))) (.op 10 (.op 11 (.op 12 (.op 13 (.op 15 (.op 16 .done))))))))))))))))) [] [] ?_;intro K hK hG
 have hk3:K [(2,.ptr 4 0 0 0),(6,.int .i64 i),(8,.ptr 8 0 0 0),(9,.int .i64 0)] ⟨9,[(8,rV 85 2 1 (fun _=>[.slc true 6 0 0 (z2o (lyA L i).cs (lyA L i).ps p (cbA C p).kind ((q:Int)+2)).1.length,.slc true 7 0 0 (z2o (lyA L i).cs (lyA L i).ps p (cbA C p).kind ((q:Int)+2)).2.length])),(7,z2p (z2o (lyA L i).cs (lyA L i).ps p (cbA C p).kind ((q:Int)+2)).2),(6,z2c (z2o (lyA L i).cs (lyA L i).ps p (cbA C p).kind ((q:Int)+2)).1),(4,rV 34 4 1 (fun _=>[.slc false 0 0 0 n,.int .i64 ht,.slc true 1 0 0 L.length,.slc false 3 0 0 C.length])),(1,rO 89 5 L.length (lyR 2 L)),(2,(3*L.length+1,fam false 3 1 (lyF false L)))]⟩:=by
  refine hK _ _ ?_;clear hG hK K;refine z6 (Zrs [2,6,8,9,39] ?_);refine Zcm ?_ ?_
  ·intro h39
   try replace h39:=Znb h39
   refine Zrg [9] ?_;refine Zrs [4] (zb (hQ _ _ ?_));exact Zos (fun x=>if x=4 then 6 else if x=5 then 7 else x) (.int .i64 0) (⟨6,[(1,rO 89 5 L.length (lyW 2 L i 4 5 (z2o (lyA L i).cs (lyA L i).ps p (cbA C p).kind ((q:Int)+2)))),(4,z2c (z2o (lyA L i).cs (lyA L i).ps p (cbA C p).kind ((q:Int)+2)).1),(5,z2p (z2o (lyA L i).cs (lyA L i).ps p (cbA C p).kind ((q:Int)+2)).2)]⟩)
  intro h39
  exfalso;simp at h39
 iterate 10 (refine Zo (ZT [] [] []) ?_)
 refine z2e ?_ ?_
 ·skip
  refine Zd (ZT [] [] []) (startM_spec L hb i L.length hi p (cbA C p).kind ((q:Int)+2)) (fun x=>if x=0 then 2 else 0) ?_;rw[he];iterate 3 (refine Zo (ZT [] [] []) ?_)
  refine Zo (ZT [] [] [8]) ?_;refine Zo (ZT [8] [] [8]) ?_;refine Zo (ZT [8] [] [8]) ?_;refine z14 ?_;refine Zpr ?_;exact hG _ _ _ _ id (Zg id) hk3
 skip
 refine Zo (ZT [] [] [6]) ?_;refine Zd (ZT [6] [] [6]) (startM_spec L hb i L.length hi p (cbA C p).kind ((q:Int)+2)) (fun x=>if x=0 then 2 else 0) ?_;rw[he];iterate 5 (refine Zo (ZT [6] [] [6]) ?_)
 refine z14 ?_;refine Zpr ?_;exact hG _ _ _ _ (fun x=>if x=6 then 7 else if x=7 then 8 else if x=8 then 6 else x) (Zg (fun x=>if x=6 then 7 else if x=7 then 8 else if x=8 then 6 else x)) hk3
end
section
def fam0_rowK (ρ:Nat->Nat)(e:Go.TypeId)(sz:Nat)(G:Nat->Sk.Obj)(f:Nat->List SV):z1e ρ (fam true e sz G 0) (.row ⟨true,false,e,sz,0,f⟩)=True:=eq_true ⟨fun _=>⟨rfl,rfl⟩,rfl,qd _,fun i hi=>absurd hi (qI _)⟩
def lyW_out (f:Nat)(L:List Ly)(b c:Nat)(r:List Cl×List Pr):(∀j,j<L.length->lyR f L j=lyW f L L.length b c r j)=True:=eq_true fun j hj=>by rw[lyW,qc (by omega)]
def cbs_put' (C:List Cb)(k:Nat)(a b c:Int)(h:k<C.length):(fun i=>if i=k then [SV.int .i64 a,SV.int .i64 b,SV.int .i64 c] else [SV.int .i64 (cbA C i).kind,SV.int .i64 (cbA C i).node,SV.int .i64 (cbA C i).lvl])=cbs (C.set k ⟨a,b,c⟩):=cbs_put C k a b c h
def clmI (L:List Ly)(ht:Int)(c:Cb):Nat:=if outB ht (nxC c) then L.length else(plI L (nxC c).node (nxC c).lvl).toNat
def clmR (L:List Ly)(ht p:Int)(c:Cb):List Cl×List Pr:=if outB ht (nxC c) then([],[]) else begR L p (nxC c)
def clmC (ht:Int)(c:Cb):Cb:=if outB ht (nxC c) then noCb else nxC c
def JnUm.gxE:=aj9 @z11 z3g ec16 z3w ec3 ec7 ec8 @z1a.eq_1 (aj9 @zu.eq_1 @z20 @z1u ec37 ec26 ec29 ec45 @lyW_out @fam0_rowK)
open JnUm (gxE)
open JnTm (axE exE)
open JnNm (oxE)
open D0 (sdE)
def climb_spec (L:List Ly)(C:List Cb)(hb:lyB L)(n k m p:Nat)(ht:Int)(hk:L.length=k)(hm:C.length=m)(hm6:m<=1000000)(hp:p<m)(hl: -1000<=(cbA C p).lvl/\(cbA C p).lvl<=1000)
  (hin:outB ht (nxC (cbA C p))=false->0<=plI L (nxC (cbA C p)).node (nxC (cbA C p)).lvl/\beginE L p (nxC (cbA C p))=0):
  zj prog 105 [.agg [.slc false 0 0 0 n,.int .i64 ht,.slc true 1 0 0 k,.slc true 3 0 0 m],.int .i64 p] ⟨4,[(1,rO 89 5 k (lyR 2 L)),(2,(3*k+1,fam false 3 1 (lyF false L))),(3,rO 58 3 m (cbs C))]⟩
   (fun s H1=>s= .bool true/\H1=⟨6,[(1,rO 89 5 k (lyW 2 L (clmI L ht (cbA C p)) 4 5 (clmR L ht p (cbA C p)))),(4,z2c (clmR L ht p (cbA C p)).1),(5,z2p (clmR L ht p (cbA C p)).2),(3,rO 58 3 m (cbs (C.set p (clmC ht (cbA C p)))))]⟩):=by
 subst hk hm;have hlen:=hb.1;have hcp:=z4x (x:=nxC (cbA C p)) hp;refine Zf false 50 [.tmp 4] func105 ntmps105 results105 fun w0 own0 β0 Q hQ hQn=> ?_;refine Zrs [1,2] ?_;refine Zrs [1,2,5] (z6 ?_);refine Zrs [1,2,5,14] ?_;refine Zcn ?_ ?_
 ·intro h14;have hnx:nxC (cbA C p)=⟨(cbA C p).kind,(cbA C p).node,(cbA C p).lvl+1⟩:=by rw[nxC,qe h14]
  refine z3v [1,2,5] rfl ?_;intro K hK;iterate 8 (refine Zo Zl ?_)
  rw[cbs_put' _ _ _ _ _ hp,<-hnx];refine Zad ?_;refine Zk hK ?_;clear hK K;refine z6 (z6 ?_);clear hnx;obtain⟨C',hC'⟩:∃C',C.set p (nxC (cbA C p))=C':=⟨_,rfl⟩;have hcl:C'.length=C.length:=by rw[<-hC',qy]
  rw[hC'] at hcp ⊢;obtain⟨c',hc'⟩:∃c',nxC (cbA C p)=c':=⟨_,rfl⟩;rw[hc'] at hcp hin;refine Zrq [1,2,5,42] [0,1,2,3,4,5,6,7,8,9,10,11,12,13] ?_;refine Zcm ?_ ?_
  ·intro h42;rw[hcp] at h42;have ho:outB ht c'=true:=h42;refine sg [] rfl ?_;intro K hK;iterate 4 (refine Zo Zl ?_)
   rw[cbs_put' _ _ _ _ _ (by omega),show(⟨0,0,0⟩:Cb)=noCb from rfl];refine Zad ?_;refine Zk hK ?_;clear hK K;refine Zrs [4] ?_;refine z29 117 5 (lyF true []) ?_;dsimp only;refine z29 110 7 (lyF true []) ?_;dsimp only;refine zb (hQ _ _ ?_);have e1:clmI L ht (cbA C p)=L.length:=by rw[clmI,hc',ho];rfl
   have e2:clmR L ht p (cbA C p)=([],[]):=by rw[clmR,hc',ho];rfl
   have e3:C.set p (clmC ht (cbA C p))=C'.set p noCb:=by rw[clmC,hc',ho,<-hC',List.set_set];rfl
   rw[e1,e2,e3];exact Zos (fun x=>if x=4 then 5 else if x=5 then 6 else x) (.bool true) (⟨6,[(1,rO 89 5 L.length (lyW 2 L L.length 4 5 ([],[]))),(4,z2c []),(5,z2p []),(3,rO 58 3 C.length (cbs (C'.set p noCb)))]⟩)
  intro h42;rw[hcp] at h42;have ho:outB ht c'=false:=h42;obtain⟨g1,g2⟩:=hin ho;refine z7 (sg [4] rfl ?_);intro K hK;iterate 2 (refine Zo Zl ?_)
  refine Zd Zl (begin_spec L C' hb n L.length C.length p ht rfl hcl hm6 hp (by rw[hcp];exact g1) (by rw[hcp];exact g2)) (id) ?_;rw[hcp];refine Zkl hK ?_;clear hK K;refine zb (hQ _ _ ?_);have e1:clmI L ht (cbA C p)=(plI L c'.node c'.lvl).toNat:=by rw[clmI,hc',ho];rfl
  have e2:clmR L ht p (cbA C p)=begR L p c':=by rw[clmR,hc',ho];rfl
  have e3:C.set p (clmC ht (cbA C p))=C':=by rw[clmC,hc',ho,<-hC',hc'];rfl
  rw[e1,e2,e3];exact Zos (fun x=>if x=4 then 5 else if x=5 then 6 else x) (.bool true) (⟨6,[(1,rO 89 5 L.length (lyW 2 L (plI L c'.node c'.lvl).toNat 4 5 (begR L p c'))),(4,z2c (begR L p c').1),(5,z2p (begR L p c').2),(3,rO 58 3 C.length (cbs C'))]⟩)
 intro h14;have hnx:nxC (cbA C p)=⟨(cbA C p).kind,(cbA C p).node,(cbA C p).lvl-1⟩:=by rw[nxC,qc h14]
 refine z3v [1,2,5] rfl ?_;intro K hK;iterate 8 (refine Zo Zl ?_)
 rw[cbs_put' _ _ _ _ _ hp,<-hnx];refine Zad ?_;refine Zk hK ?_;clear hK K;refine z6 (z6 ?_);clear hnx;obtain⟨C',hC'⟩:∃C',C.set p (nxC (cbA C p))=C':=⟨_,rfl⟩;have hcl:C'.length=C.length:=by rw[<-hC',qy]
 rw[hC'] at hcp ⊢;obtain⟨c',hc'⟩:∃c',nxC (cbA C p)=c':=⟨_,rfl⟩;rw[hc'] at hcp hin;refine Zrq [1,2,5,42] [0,1,2,3,4,5,6,7,8,9,10,11,12,13] ?_;refine Zcm ?_ ?_
 ·intro h42;rw[hcp] at h42;have ho:outB ht c'=true:=h42;refine sg [] rfl ?_;intro K hK;iterate 4 (refine Zo Zl ?_)
  rw[cbs_put' _ _ _ _ _ (by omega),show(⟨0,0,0⟩:Cb)=noCb from rfl];refine Zad ?_;refine Zk hK ?_;clear hK K;refine Zrs [4] ?_;refine z29 117 5 (lyF true []) ?_;dsimp only;refine z29 110 7 (lyF true []) ?_;dsimp only;refine zb (hQ _ _ ?_);have e1:clmI L ht (cbA C p)=L.length:=by rw[clmI,hc',ho];rfl
  have e2:clmR L ht p (cbA C p)=([],[]):=by rw[clmR,hc',ho];rfl
  have e3:C.set p (clmC ht (cbA C p))=C'.set p noCb:=by rw[clmC,hc',ho,<-hC',List.set_set];rfl
  rw[e1,e2,e3];exact Zos (fun x=>if x=4 then 5 else if x=5 then 6 else x) (.bool true) (⟨6,[(1,rO 89 5 L.length (lyW 2 L L.length 4 5 ([],[]))),(4,z2c []),(5,z2p []),(3,rO 58 3 C.length (cbs (C'.set p noCb)))]⟩)
 intro h42;rw[hcp] at h42;have ho:outB ht c'=false:=h42;obtain⟨g1,g2⟩:=hin ho;refine z7 (sg [4] rfl ?_);intro K hK;iterate 2 (refine Zo Zl ?_)
 refine Zd Zl (begin_spec L C' hb n L.length C.length p ht rfl hcl hm6 hp (by rw[hcp];exact g1) (by rw[hcp];exact g2)) (id) ?_;rw[hcp];refine Zkl hK ?_;clear hK K;refine zb (hQ _ _ ?_);have e1:clmI L ht (cbA C p)=(plI L c'.node c'.lvl).toNat:=by rw[clmI,hc',ho];rfl
 have e2:clmR L ht p (cbA C p)=begR L p c':=by rw[clmR,hc',ho];rfl
 have e3:C.set p (clmC ht (cbA C p))=C':=by rw[clmC,hc',ho,<-hC',hc'];rfl
 rw[e1,e2,e3];exact Zos (fun x=>if x=4 then 5 else if x=5 then 6 else x) (.bool true) (⟨6,[(1,rO 89 5 L.length (lyW 2 L (plI L c'.node c'.lvl).toNat 4 5 (begR L p c'))),(4,z2c (begR L p c').1),(5,z2p (begR L p c').2),(3,rO 58 3 C.length (cbs C'))]⟩)
end
section
def stOn (C:List Cb)(p:Int):Bool:=inC C p && (cbA C p.toNat).kind !=0
def stI (fo:Fo)(p:Int):Nat:=if stOn fo.cb p then(if endB fo p then clmI fo.ly fo.ht (cbA fo.cb p.toNat) else curI fo p) else fo.ly.length
def stR (fo:Fo)(p:Int):List Cl×List Pr:=if stOn fo.cb p then(if endB fo p then clmR fo.ly fo.ht p (cbA fo.cb p.toNat) else stepR (lyA fo.ly (curI fo p)).cs (lyA fo.ly (curI fo p)).ps p) else([],[])
def stC (fo:Fo)(p:Int):List Cb:=if stOn fo.cb p && endB fo p then fo.cb.set p.toNat (clmC fo.ht (cbA fo.cb p.toNat)) else fo.cb
def stS (fo:Fo)(p:Int):Bool:=stOn fo.cb p && (endB fo p||z5u (lyA fo.ly (curI fo p)).cs (lyA fo.ly (curI fo p)).ps p)
structure StH (fo:Fo) (p:Int):Prop where
 pl:0<=plI fo.ly (cbA fo.cb p.toNat).node (cbA fo.cb p.toNat).lvl
 lv: -1000<=(cbA fo.cb p.toNat).lvl/\(cbA fo.cb p.toNat).lvl<=1000
 pn:p<(lyA fo.ly (curI fo p)).ps.length
 go:endB fo p=true->outB fo.ht (nxC (cbA fo.cb p.toNat))=false->0<=plI fo.ly (nxC (cbA fo.cb p.toNat)).node (nxC (cbA fo.cb p.toNat)).lvl/\beginE fo.ly p (nxC (cbA fo.cb p.toNat))=0
open JnUm (gxE)
open JnTm (axE exE)
open JnNm (oxE)
open D0 (sdE)
def step_specF (fo:Fo)(hb:lyB fo.ly)(n k m:Nat)(p:Int)(hk:fo.ly.length=k)(hm:fo.cb.length=m)(hm6:m<=1000000)(hS:stOn fo.cb p=true->StH fo p):
  zj prog 67 [.agg [.slc false 0 0 0 n,.int .i64 fo.ht,.slc true 1 0 0 k,.slc true 3 0 0 m],.int .i64 p] ⟨4,[(1,rO 89 5 k (lyR 2 fo.ly)),(2,(3*k+1,fam false 3 1 (lyF false fo.ly))),(3,rO 58 3 m (cbs fo.cb))]⟩
   (fun s H1=>s= .bool (stS fo p)/\H1=⟨6,[(1,rO 89 5 k (lyW 2 fo.ly (stI fo p) 4 5 (stR fo p))),(4,z2c (stR fo p).1),(5,z2p (stR fo p).2),(3,rO 58 3 m (cbs (stC fo p)))]⟩):=by
 obtain⟨ns,ht,L,C⟩:=fo;dsimp only at hb hk hm ⊢;subst hk hm;have hlen:=hb.1;refine Zf false 77 [.tmp 4] func67 ntmps67 results67 fun w0 own0 β0 Q hQ hQn=> ?_;refine Zrs [1,2] (z6 ?_);refine Zrs [1,2,26] ?_;refine Zcm ?_ ?_
 ·intro h26
  have hon:stOn C p=false:=by
   rw[stOn,<-qn,J1,inC,jF];simpa [bne] using h26
  refine Zrs [4] ?_;refine z29 117 5 (lyF true []) ?_;dsimp only;refine z29 110 7 (lyF true []) ?_;dsimp only;refine zb (hQ _ _ ?_);rw[stS,stI,stR,stC,hon];simp only[Qm,qz,Ql];exact Zos (fun x=>if x=4 then 5 else if x=5 then 6 else x) (.bool false) (⟨6,[(1,rO 89 5 L.length (lyW 2 L L.length 4 5 ([],[]))),(4,z2c []),(5,z2p []),(3,rO 58 3 C.length (cbs C))]⟩)
 intro h26
 have hon:stOn C p=true:=by
  rw[stOn,<-qr,J1,inC,jF];simpa [bne] using h26
 obtain⟨hpl,hlv,hpn,hgo⟩:=hS hon;dsimp only at hpl hlv hpn hgo
 have hin:0<=p/\p<C.length:=by
  rw[stOn,qj] at hon;exact inC_iff.1 hon.1
 obtain⟨P,hP⟩:∃P:Nat,p=P:=⟨p.toNat,by omega⟩;subst hP;rw[qq] at hpl hlv hgo;obtain⟨i,hi,hIi,hlvi,q,hq,hKk,_⟩:=plI_at hpl;have hcu:curI ⟨ns,ht,L,C⟩ (P:Int)=i:=by rw[curI,qq,hIi,qq]
 rw[hcu] at hpn;refine z7 (z6 ?_);refine Zrd [1,2,5] [0,1,2,3,4,5,6,7,8,9,10,11,12,13,14,15,16,17,18] [] [] ?_;intro K hK;iterate 13 (refine Zo (Zi [] []) ?_)
 refine Zd (Zi [] []) (place_spec L hb L.length n C.length rfl ht (cbA C P).node (cbA C P).lvl) (id) ?_;rw[hIi,hKk];refine Zki hK ?_;clear hK K;refine z6 (Zrs [1,2,5,55] ?_);refine Zcm ?_ ?_
 ·intro h55;have he:endB ⟨ns,ht,L,C⟩ (P:Int)=true:=by rw[endB,hcu,qq];exact h55
  refine sg [4] rfl ?_;intro K hK;iterate 2 (refine Zo Zl ?_)
  refine Zd Zl (climb_spec L C hb n L.length C.length P ht rfl rfl hm6 (by omega) hlv (hgo he)) (id) ?_;refine Zkl hK ?_;clear hK K;refine zb (hQ _ _ ?_);rw[stS,stI,stR,stC,hon,he,qq];simp only[qL,Jq,q9];exact Zos (fun x=>if x=4 then 5 else if x=5 then 6 else x) (.bool true) (⟨6,[(1,rO 89 5 L.length (lyW 2 L (clmI L ht (cbA C P)) 4 5 (clmR L ht P (cbA C P)))),(4,z2c (clmR L ht P (cbA C P)).1),(5,z2p (clmR L ht P (cbA C P)).2),(3,rO 58 3 C.length (cbs (C.set P (clmC ht (cbA C P)))))]⟩)
 intro h55;have he:endB ⟨ns,ht,L,C⟩ (P:Int)=false:=by rw[endB,hcu,qq];exact h55
 refine z7 (sg [2,5,7,8] rfl ?_);intro K hK;iterate 7 (refine Zo Zl ?_)
 refine Zd Zl (stepM_spec L hb i L.length hi P) (fun x=>if x=0 then 2 else 0) ?_;refine Zkl hK ?_;clear hK K;refine Zrs [8] ?_;refine Zrs [4] (zb (hQ _ _ ?_));rw[stS,stI,stR,stC,hon,he,hcu];simp only[qL,jK,Qq,qz,q9,Ql];exact Zos (fun x=>if x=4 then 5 else if x=5 then 6 else x) (.bool (z5u (lyA L i).cs (lyA L i).ps P)) (⟨6,[(1,rO 89 5 L.length (lyW 2 L i 4 5 (stepR (lyA L i).cs (lyA L i).ps P))),(4,z2c (stepR (lyA L i).cs (lyA L i).ps P).1),(5,z2p (stepR (lyA L i).cs (lyA L i).ps P).2),(3,rO 58 3 C.length (cbs C))]⟩)
end
section
def shpL_le (ns:List Nd)(h:Nat):(z37 ns h).length<=(h+1)*ns.length:=by
 unfold z37
 have:∀l:List Nat,(l.flatMap fun(n:Nat)=>(z54 (z4w ns) (n:Int)).map fun c=>((n:Int),c)).length<=l.length*ns.length:=fun l=>by
  induction l with
  |nil=>simp
  |cons a l ih=>
   rw[JW,qX,qx,QN,qV,ju];have:=clsN_len (z4w ns) (a:Int);rw[<-(z26 ns).length_eq] at this;omega
 have:=this (List.range (h+1));rwa [List.length_range] at this
section
variable {fo:Fo} {ls:Nat->List Int}
def Fsh.few (h:Fsh fo):fo.ns.length<=20:=h.sm
def Fsh.idsl (h:Fsh fo){i:Nat}(hi:i<fo.ly.length):(lyA fo.ly i).ids.length<=64/\(lyA fo.ly i).cs.length=(lyA fo.ly i).ids.length+2:=by
 have:=(h.at_ i hi).len;have e:=(h.at_ i hi).ids;have:=(h.sub hi).length_le;rw[<-(z26 fo.ns).length_eq] at this;have:=h.few;rw[e,qx];omega
def Fsh.lyB (h:Fsh fo):lyB fo.ly:=by
 have h64:=h.few;have h16:=h.h16;have hl:=shpL_le fo.ns fo.ht.toNat;have:(fo.ht.toNat+1)*fo.ns.length<=17*64:=j9 (by omega) (qR h64 (by decide));refine⟨by rw[h.len];omega,fun i=> ?_⟩
 by_cases hi:i<fo.ly.length
 ·have:=h.idsl hi;have:=(h.at_ i hi).pn;have:=h.m8;omega
 rw[lyA,qw,qP (by omega)];exact⟨ql _,ql _,ql _⟩
def Fsh.lyC (h:Fsh fo):lyC fo.ly:=fun i hi=>(h.idsl hi).2
def FI.stH (h:FI fo ls){p:Int}(hs:stOn fo.cb p=true):StH fo p:=by
 rw[stOn,qj,Qi,inC_iff] at hs;obtain⟨⟨p0,p1⟩,hk⟩:=hs;have hp:p.toNat<fo.cb.length:=by omega
 have hpp:((p.toNat:Nat):Int)=p:=by omega
 obtain⟨x,i,k,hw,ha,hc1,hc2,hc3,hc4⟩:=h.stands hp hk;have hI:=ha.pI;rw[hw.id] at hI;have hcur:curI fo p=i:=by rw[curI,hI,qq]
 have hl0:=hw.l0;have hlh:=hw.lh;have h16:=h.sh.h16;refine⟨by omega,by omega,by rw[hcur,(h.sh.at_ i ha.hi).pn];exact p1,fun he ho=> ?_⟩;rw[endB,hcur,qD] at he;rw[outB,qk,qg,qg] at ho;have hnn:(nxC (cbA fo.cb p.toNat)).node=(cbA fo.cb p.toNat).node:=by unfold nxC;split<;>rfl
 have hnk:(nxC (cbA fo.cb p.toNat)).kind=(cbA fo.cb p.toNat).kind:=by unfold nxC;split<;>rfl
 obtain⟨j,q,a⟩:=h.sh.place hw.mm (lv:=(nxC (cbA fo.cb p.toNat)).lvl) (by omega) (by omega);have hIj:=a.pI;have hKj:=a.pK;rw[hw.id,<-hnn] at hIj hKj;have hcel:=a.cel
 have hrest:=h.rest hp (fun j _ hj=>by
  have:j=i:=by omega
  subst this;exact he) j a.hi
 refine⟨by omega,?_⟩;rw[beginE,hIj,hKj,qq];unfold z2t;rw[(h.inv j a.hi).vb]
 have h1:(decide (p<0)||decide (((lyA fo.ly j).ps.length:Int)<=p))=false:=by
  rw[(h.sh.at_ j a.hi).pn,qk,qg,qg];omega
 have h2:(decide ((q:Int)+2<2)||decide (((lyA fo.ly j).cs.length:Int)<=q+2))=false:=by
  rw[qk,qg,qg];omega
 have h3:kindBad (nxC (cbA fo.cb p.toNat)).kind=false:=by
  rw[kindBad,hnk,qk,qg,qg];have:=hw.k;omega
 rw[h1,h2,h3,hrest]
 rfl
def upL_out (L:List Ly)(i:Nat)(h:L.length<=i)(cs:List Cl)(ps:List Pr):upL L i cs ps=L:=by
 unfold upL;exact List.set_eq_of_length_le h
def FI.stS (h:FI fo ls)(p:Int):stS fo p=z6a fo p:=by
 unfold Go.Proofs.stS z6a;rw[h.vf,qL]
 cases hs:stOn fo.cb p with
 |false=>rw[stOn] at hs;rw[hs];rfl
 |true=>
  have hH:=h.stH hs;rw[stOn] at hs;rw[hs,qL,qL]
  cases he:endB fo p with
  |false=>rfl
  |true=>
   simp only[Jq,q9]
   cases ho:outB fo.ht (nxC (cbA fo.cb p.toNat)) with
   |true=>rfl
   |false=>rw[(hH.go he ho).2];rfl
def begR_eq {L:List Ly}{p:Int}{c:Cb}(h:beginE L p c=0):upL L (plI L c.node c.lvl).toNat (begR L p c).1 (begR L p c).2=beginL L p c:=by
 rw[beginE] at h;rw[beginL,begR,z2o,qe h]
def FI.stF (h:FI fo ls){p:Int}(hs:z6a fo p=true):z27 fo p={fo with ly:=upL fo.ly (stI fo p) (stR fo p).1 (stR fo p).2,cb:=stC fo p}:=by
 have h0:=h.stS p;rw[hs] at h0
 have hon:stOn fo.cb p=true:=by
  unfold Go.Proofs.stS at h0;rw[qj] at h0;exact h0.1
 have hH:=h.stH hon;unfold z27 stI stR stC;rw[h.vf,hs,hon];simp only[qS,qz,Ql,q9,qL]
 cases he:endB fo p with
 |false=>simp only[qz,Ql]
 |true=>
  simp only[q9]
  cases ho:outB fo.ht (nxC (cbA fo.cb p.toNat)) with
  |true=>
   simp only[q9,clmI,clmR,clmC,ho];rw[upL_out _ _ (qd _)]
  |false=>
   simp only[qz,Ql,clmI,clmR,clmC,ho];rw[begR_eq (hH.go he ho).2]
def FI.stN (h:FI fo ls){p:Int}(hs:z6a fo p=false):z27 fo p=fo:=by
 unfold z27;rw[h.vf,hs];rfl
end
def lyW_M2 (f:Nat)(L:List Ly)(j b c:Nat)(r:List Cl×List Pr)(q:Nat)(hq:q<L.length):lyW f L j b c r q=SV.renPL (mvM (fun x=>x) f (ms2 j b c)) (lyR f (upL L j r.1 r.2) q):=by
 rw[lyR_renM2,lyW]
 by_cases e:q=j
 ·subst e;rw[qe rfl,qe rfl,upL_eq hq]
 rw[qc e,qc e,lyR,lyR,upL_ne (Qt e)]
def lyF_consU {ρ:Nat->Nat}{f j b c m:Nat}{os l:List (Nat×Nat×(Nat->Sk.Obj))}{L:List Ly}{r:List Cl×List Pr}(hf:Sk.find os (ρ f)=some (3*L.length+1,fam true 3 1 (lyF true L)))
  (hb:Sk.find os b=some (z2c r.1)) (hc:Sk.find os c=some (z2p r.2)) (hm:f<m) (ht:zw (mvM ρ f (ms2 j b c)) m os l):zw (mvM ρ f (ms2 j b c)) m os ((f,(3*L.length+1,fam true 3 1 (lyF true (upL L j r.1 r.2))))::l):=by
 by_cases hj:j<L.length
 ·exact lyF_cons2 (x:={lyA L j with cs:=r.1,ps:=r.2}) hf hb hc (upL_eq hj ..) rfl (fun i hne=>upL_ne (Qt hne) ..) hm ht
 rw[upL_out _ _ (by omega)];refine zw.consF hf (by omega) ⟨fun _=>⟨rfl,rfl⟩,rfl⟩ (by unfold ms2;rw[qc (by omega),qc (by omega)]) (fun i hi=> ?_) hm ht;have e:ms2 j b c (i+1)=none:=by unfold ms2;rw[qc (by omega),qc (by omega)]
 rw[e];exact⟨hi,z5r _ _ _ _ _ _ id rfl,z4i ..⟩
open JnUm (gxE)
open JnTm (axE exE)
open JnNm (oxE)
open D0 (sdE)
def Step_spec (fo:Fo)(ls:Nat->List Int)(h:FI fo ls)(n k m:Nat)(p:Int)(hn:fo.ns.length=n)(hk:fo.ly.length=k)(hm:fo.cb.length=m):
  zj prog 27 [.agg [.slc false 0 0 0 n,.int .i64 fo.ht,.slc false 1 0 0 k,.slc false 3 0 0 m],.int .i64 p] ⟨4,[(0,rI 62 3 n (nds fo.ns)),(1,rI 89 5 k (lyR 2 fo.ly)),(2,(3*k+1,fam false 3 1 (lyF false fo.ly))),(3,rI 58 3 m (cbs fo.cb))]⟩
   (fun s H1=>s= .tup [.agg [.slc true 4 0 0 n,.int .i64 fo.ht,.slc true 5 0 0 k,.slc true 7 0 0 m],.bool (z6a fo p)]/\H1=⟨8,[(4,rO 62 3 n (nds fo.ns)),(5,rO 89 5 k (lyR 6 (z27 fo p).ly)),(6,(3*k+1,fam true 3 1 (lyF true (z27 fo p).ly))),(7,rO 58 3 m (cbs (z27 fo p).cb))]⟩):=by
 have hb:=h.sh.lyB;have h64:=h.sh.few;have h8:=h.sh.m8;have hh0:=h.sh.h0;have hh16:=h.sh.h16;have hvf:=h.vf;subst hn hk hm;refine Zf false 20 [.cell 4 34,.tmp 5] func27 ntmps27 results27 fun w0 own0 β0 Q hQ hQn=> ?_;refine Zrs [1,2,4] (z6 ?_);refine sg [1,2,4,9] rfl ?_;intro K hK;refine Zo Zl ?_;refine Zd Zl (valid_specF fo hb fo.ns.length fo.ly.length fo.cb.length rfl rfl rfl (by omega) (by omega) (by omega)) (id) ?_;rw[hvf];refine Zkl hK ?_;clear hK K;refine Zcm ?_ ?_
 ·intro h9
  exfalso;simp at h9
 intro h9;refine z7 (sg [1,2,4,6] rfl ?_);intro K hK;refine Zo Zl ?_;refine Zd Zl (clone_specF fo hb fo.ns.length fo.ly.length fo.cb.length rfl rfl rfl (by omega) (by omega)) (id) ?_;refine Zkl hK ?_;clear hK K;refine z6 (sg [2,4,6,16] rfl ?_);intro K hK;iterate 2 (refine Zo Zl ?_)
 refine Zd Zl (step_specF fo hb fo.ns.length fo.ly.length fo.cb.length p rfl rfl (by omega) h.stH) (fun x=>if x=0 then 6 else if x=1 then 7 else if x=2 then 8 else if x=3 then 9 else x) ?_;rw[h.stS p];refine Zkl hK ?_;clear hK K;refine Zcm ?_ ?_
 ·intro h16;have hsb:z6a fo p=false:=by simpa using h16
  refine sg [4,5] rfl ?_;intro K hK;refine Zo Zl ?_;refine Zd Zl (clone_specF fo hb fo.ns.length fo.ly.length fo.cb.length rfl rfl rfl (by omega) (by omega)) (id) ?_;refine Zkl hK ?_;clear hK K;refine zb (hQ _ _ ?_);rw[h.stN hsb,hsb];exact Zos (fun x=>if x=4 then 13 else if x=5 then 14 else if x=6 then 15 else if x=7 then 16 else x) (.tup [.agg [.slc true 4 0 0 fo.ns.length,.int .i64 fo.ht,.slc true 5 0 0 fo.ly.length,.slc true 7 0 0 fo.cb.length],.bool false]) (⟨8,[(4,rO 62 3 fo.ns.length (nds fo.ns)),(5,rO 89 5 fo.ly.length (lyR 6 fo.ly)),(6,(3*fo.ly.length+1,fam true 3 1 (lyF true fo.ly))),(7,rO 58 3 fo.cb.length (cbs fo.cb))]⟩)
 intro h16;have hsb:z6a fo p=true:=by simpa using h16
 refine z7 (z6 ?_);have hout:∀q,q<fo.ly.length->lyW 8 fo.ly (stI fo p) 11 12 (stR fo p) q=SV.renPL (mvM (fun x=>x) 8 (ms2 (stI fo p) 11 12)) (lyR 8 (upL fo.ly (stI fo p) (stR fo p).1 (stR fo p).2) q):=fun q hq=>lyW_M2 8 fo.ly (stI fo p) 11 12 (stR fo p) q hq;refine z2y (fr':=[(4,.ptr 5 0 0 0),(6,.ptr 10 0 0 0)]) (H':=⟨11,[(10,rV 34 4 1 (fun _=>[.slc true 6 0 0 fo.ns.length,.int .i64 fo.ht,.slc true 7 0 0 fo.ly.length,.slc true 9 0 0 fo.cb.length])),(7,rO 89 5 fo.ly.length (lyR 8 (upL fo.ly (stI fo p) (stR fo p).1 (stR fo p).2))),(8,(3*fo.ly.length+1,fam true 3 1 (lyF true (upL fo.ly (stI fo p) (stR fo p).1 (stR fo p).2)))),(9,rO 58 3 fo.cb.length (cbs (stC fo p))),(6,rO 62 3 fo.ns.length (nds fo.ns)),(5,rV 34 4 1 (fun _=>[.nils,.int .i64 0,.nils,.nils]))]⟩) _ (Zgm (fun x=>x) (8) (ms2 (stI fo p) 11 12) (ms2_ok _ (by decide) ⟨rfl,rfl⟩ ⟨qb rfl,qb rfl⟩) ((zc (by decide) rfl qf (ze.of (fun _=>⟨rfl,rfl⟩) rfl (qd _) (fun _ _=>rfl)) (Obj.lt_row.2 fun q _=>by simp[SV.ltL,SV.lt]) (qb rfl) (zc (by decide) rfl qf (ze.of (fun _=>⟨rfl,rfl⟩) rfl (qd _) (hout)) (Obj.lt_row.2 fun q _=>(z67 _ _ _ q).2 (qb rfl)) (qb rfl) (lyF_consU (r:=stR fo p) rfl rfl rfl (qb rfl) (zc (by decide) rfl qf (ze.of (fun _=>⟨rfl,rfl⟩) rfl (qd _) (fun q _=>(z4j _ _ q).symm)) (Obj.lt_row.2 fun q _=>cbs_lt _ _ q) (qb rfl) (zc (by decide) rfl qf (ze.of (fun _=>⟨rfl,rfl⟩) rfl (qd _) (fun q _=>(z28 _ _ q).symm)) (Obj.lt_row.2 fun q _=>z4e _ _ q) (qb rfl) (zc (by decide) rfl qf (ze.of (fun _=>⟨rfl,rfl⟩) rfl (qd _) (fun _ _=>rfl)) (Obj.lt_row.2 fun q _=>by simp[SV.ltL,SV.lt]) (qb rfl) trivial)))))))) ?_
 refine Zrg [4,5] (zb (hQ _ _ ?_));rw[h.stF hsb,hsb];dsimp only;exact Zos (fun x=>if x=4 then 6 else if x=5 then 7 else if x=6 then 8 else if x=7 then 9 else x) (.tup [.agg [.slc true 4 0 0 fo.ns.length,.int .i64 fo.ht,.slc true 5 0 0 fo.ly.length,.slc true 7 0 0 fo.cb.length],.bool true]) (⟨8,[(4,rO 62 3 fo.ns.length (nds fo.ns)),(5,rO 89 5 fo.ly.length (lyR 6 (upL fo.ly (stI fo p) (stR fo p).1 (stR fo p).2))),(6,(3*fo.ly.length+1,fam true 3 1 (lyF true (upL fo.ly (stI fo p) (stR fo p).1 (stR fo p).2)))),(7,rO 58 3 fo.cb.length (cbs (stC fo p)))]⟩)
end
section
section
variable {X:Cx} {Q:Exit->Fr->AH->Prop} {fr:Fr} {H:AH} {l:List Code}
def z3t {c:Code}(id j:Nat)(e:TypeId)(sz:Nat)(f:Nat->List SV){F:Nat->Sk.Obj}{r:Row}{n':Nat}{os':List (Nat×Nat×(Nat->Sk.Obj))}(hf:Sk.find H.os id=some (1,F):=by rfl)(hr:F 0= .row r:=by rfl)(hv:r.var=true:=by rfl)(hn:r.n=1:=by rfl)(ho:r.own=true:=by rfl)
  (hs:(r.f 0).all SV.scalar=true:=by rfl) (hlen:(r.f 0).length=r.sz:=by rfl) (hj:(r.f 0)[j]? =some .nils:=by rfl) (hlt:id<H.nxt:=by dsimp only;omega) (hrl:SV.ltL H.nxt (r.f 0):=by simp[SV.ltL,SV.lt])
  (e1:H.nxt+1=n':=by simp only[Nat.reduceAdd];rfl) (e2:setO ((H.nxt,rO e sz 0 f)::H.os) id 0 (.row {r with f:=fun _=>(r.f 0).set j (.slc true H.nxt 0 0 0)})=os':=by simp only[setO,↓reduceIte,Nat.reduceEqDiff,Nat.reduceAdd,Qf,Qe,reduceCtorEq,uQ,rO,rI,rV];rfl)
  (h:Cs X (c::l) Q fr ⟨n',os'⟩):Cs X (c::l) Q fr H:=by
 subst e1 e2;exact z2g id j e sz f hf hr hv hn ho hs hlen hj hlt hrl h
end
def nfS (e:Int):SV:= .tup [.agg [.slc true 4 0 0 0,.int .i64 0,.slc true 5 0 0 0,.slc true 7 0 0 0],.int .i64 e]
def nfH:AH:=⟨8,[(4,rO 62 3 0 (nds [])),(5,rO 89 5 0 (lyR 6 [])),(6,(3*0+1,fam true 3 1 (lyF true []))),(7,rO 58 3 0 (cbs []))]⟩
def JnXm.exE:=aj9 @z11 @zd @zf @zo @zh @zx @z10 ec2 (aj9 @zg @zp @zm @zi z58 @zn z3g z3w (aj9 @zq ec3 ec5 @z1a.eq_1 @zu.eq_1 @ints.eq_1 ec34 ec35 (aj3 ec36 @z4d.eq_1 @Cb.sv.eq_1)))
def JnXm.gxE:=aj9 @z11 z3g ec16 z3w ec3 ec7 ec8 @z1a.eq_1 (aj8 @zu.eq_1 @z20 @z1u ec37 ec26 ec29 @z4d.eq_1 @Cb.sv.eq_1)
def JnXm.axE:=aj9 @z11 @zd @zf @zo @zh @zx @z10 ec2 (aj9 @zg @zp @zm @zi z58 @zn z3g z3w (aj9 @zq ec3 ec5 @z1a.eq_1 @zu.eq_1 ec34 ec35 @z4d.eq_1 (aj7 @Cb.sv.eq_1 @z1p @z21 @z2j @z2r ec38 @z38)))
open JnXm (gxE axE exE)
open JnNm (oxE)
open D0 (sdE)
def busyTest (v:Int)(x:Cb):zj prog 60 [.agg x.sv,.ptr 0 0 0 0] ⟨1,[(0,z4d v)]⟩ (fun s H1=>s= .bool (x.kind !=0 && x.node==v)/\H1=⟨1,[]⟩):=by
 rw[Cb.sv];refine Zf false 13 [.tmp 3] func60 ntmps60 results60 fun w0 own0 β0 Q hQ hQn=> ?_;refine Zrs [1,2] ?_;refine Zrs [3] (zb (hQ _ _ ?_));exact Zoc ⟨1,[]⟩
def busyI_spec (v:Int)(C:List Cb)(m:Nat)(hm:C.length=m)(hx:m<=1000000):
  zj prog 97 [.slc false 0 0 0 m,.fn 60 [.ptr 1 0 0 0]] ⟨2,[(0,rI 58 3 m (cbs C)),(1,z4d v)]⟩
   (fun s H1=>s= .int .i64 (idxB m fun i=>(cbA C i).kind !=0 && (cbA C i).node==v)/\H1=⟨2,[]⟩):=by
 refine Zf false 19 [.tmp 4] func97 ntmps97 results97 fun w0 own0 β0 Q hQ hQn=> ?_;refine Zrs [0,1] (z6 ?_);refine Zrs [0,1,7,8] ?_;refine z8 fun Q0 hN0 hX0 hR0 hE0=> ?_;refine zl (σ:=Nat) (fun i=>i<=m/\∀q,q<i->((cbA C q).kind !=0 && (cbA C q).node==v)=false) (fun i=>m-i) (fun i=>[(0,.slc false 0 0 0 m),(1,.fn 60 [.ptr 1 0 0 0]),(7,.int .i64 m),(8,.int .i64 i)]) (fun _=>⟨2,[(0,rI 58 3 m (cbs C)),(1,z4d v)]⟩) 0 ⟨ql _,fun q h=>by omega⟩ (ρ:=id) (Zg id) ?_;rintro i hi QL1 hL1 hRL1 hEL1;refine Zrs [0,1,7,8,9] (z6 ?_);refine Zcn ?_ ?_
 ·intro h9;obtain⟨hi1,hi2⟩:=hi;refine z7 (z6 ?_);refine z8 fun Q1 hN1 hX1 hR1 hE1=> ?_;refine Zrs [0,1,5,7,8] ?_;refine sg [0,1,5,7,8,16] rfl ?_;intro K hK;iterate 5 (refine Zo Zl ?_)
  refine Zd Zl (busyTest v (cbA C i)) (fun _=>1) ?_;refine Zk hK ?_;clear hK K;refine Zcm ?_ ?_
  ·intro h16;refine Zrs [4] (zb (hR1 _ _ (hRL1 _ _ (hR0 _ _ (hQ _ _ ?_)))));refine Zob ⟨2,[]⟩ ?_;rw[idxB_at (p:=fun i=>(cbA C i).kind !=0 && (cbA C i).node==v) h16 (by omega) hi2];exact⟨rfl,by trivial⟩
  intro h16;refine z7 (za (hN1 _ _ (Zrg [0,1,7,8] (za (hL1 _ _ ?_)))));rw[iS i];refine⟨i+1,⟨⟨by omega,fun q hq=> ?_⟩,by omega⟩,id,(Zg id)⟩
  by_cases e:q=i
  ·subst e;exact h16
  exact hi2 q (by omega)
 intro h9;obtain⟨hi1,hi2⟩:=hi;refine zk (hEL1 _ _ _ (hX0 _ _ (Zrs [4] (zb (hQ _ _ ?_)))));refine Zob ⟨2,[]⟩ ?_;rw[z64 (p:=fun i=>(cbA C i).kind !=0 && (cbA C i).node==v) fun q hq=>hi2 q (by omega)];exact⟨rfl,by trivial⟩
def busyF_spec (v:Int)(C:List Cb)(m:Nat)(hm:C.length=m)(hx:m<=1000000):
  zj prog 59 [.slc false 0 0 0 m,.fn 60 [.ptr 1 0 0 0]] ⟨2,[(0,rI 58 3 m (cbs C)),(1,z4d v)]⟩
   (fun s H1=>s= .bool (busyF C v)/\H1=⟨2,[]⟩):=by
 refine Zf false 9 [.tmp 4] func59 ntmps59 results59 fun w0 own0 β0 Q hQ hQn=> ?_;refine Zrs [0,1] ?_;refine sg [4] rfl ?_;intro K hK;iterate 2 (refine Zo Zl ?_)
 refine Zd Zl (busyI_spec v C m hm hx) (id) ?_;refine Zkl hK ?_;clear hK K;refine zb (hQ _ _ ?_);refine Zob ⟨2,[]⟩ ?_;rw[idxB_any,busyF,hm]
 first|trivial|exact⟨rfl,by trivial⟩
end
section
def JnYm.exE:=aj9 @z11 @zd @zf @zo @zh @zx @z10 ec2 (aj9 @zg @zp @zm @zi z58 @zn z3g z3w (aj9 @zq ec3 ec5 @z1a.eq_1 @zu.eq_1 @ints.eq_1 ec34 ec35 (aj3 ec36 ec99 @z4d.eq_1)))
def JnYm.gxE:=aj9 @z11 z3g ec16 z3w ec3 ec7 ec8 @z1a.eq_1 (aj9 @zu.eq_1 @z20 @z1u ec37 ec26 ec29 ec45 @lyW_out (aj @fam0_rowK @z4d.eq_1))
def JnYm.axE:=aj9 @z11 @zd @zf @zo @zh @zx @z10 ec2 (aj9 @zg @zp @zm @zi z58 @zn z3g z3w (aj9 @zq ec3 ec5 @z1a.eq_1 @zu.eq_1 ec34 ec35 ec99 (aj8 @z4d.eq_1 @z1p @z21 @z2j @z2r ec38 @z38 @lyW_ren)))
open JnYm (gxE axE exE)
open JnNm (oxE)
open D0 (sdE)
def Start_spec (fo:Fo)(ls:Nat->List Int)(h:FI fo ls)(n k m:Nat)(p kind v:Int)(hn:fo.ns.length=n)(hk:fo.ly.length=k)(hm:fo.cb.length=m):
  zj prog 25 [.agg [.slc false 0 0 0 n,.int .i64 fo.ht,.slc false 1 0 0 k,.slc false 3 0 0 m],.int .i64 p,.int .i64 kind,.int .i64 v] ⟨4,[(0,rI 62 3 n (nds fo.ns)),(1,rI 89 5 k (lyR 2 fo.ly)),(2,(3*k+1,fam false 3 1 (lyF false fo.ly))),(3,rI 58 3 m (cbs fo.cb))]⟩
   (fun s H1=>s= .tup [.agg [.slc true 4 0 0 (z12 fo p kind v).ns.length,.int .i64 (z12 fo p kind v).ht,.slc true 5 0 0 (z12 fo p kind v).ly.length,.slc true 7 0 0 (z12 fo p kind v).cb.length],.int .i64 (z1n fo p kind v)]/\H1=⟨8,[(4,rO 62 3 ((z12 fo p kind v).ns.length) (nds (z12 fo p kind v).ns)),(5,rO 89 5 ((z12 fo p kind v).ly.length) (lyR 6 (z12 fo p kind v).ly)),(6,(3*(z12 fo p kind v).ly.length+1,fam true 3 1 (lyF true (z12 fo p kind v).ly))),(7,rO 58 3 ((z12 fo p kind v).cb.length) (cbs (z12 fo p kind v).cb))]⟩):=by
 have hb:=h.sh.lyB;have hlc:=h.sh.lyC;have hx64:=h.sh.few;have hx8:=h.sh.m8;have hh0:=h.sh.h0;have hh16:=h.sh.h16;have hvf:=h.vf;subst hn hk hm;refine Zf false 109 [.cell 8 34,.tmp 9] func25 ntmps25 results25 fun w0 own0 β0 Q hQ hQn=> ?_;refine Zrs [1,2,4,7,8] (z6 ?_);refine sg [1,2,4,7,8,17] rfl ?_;intro K hK;refine Zo Zl ?_;refine Zd Zl (valid_specF fo hb fo.ns.length fo.ly.length fo.cb.length rfl rfl rfl (by omega) (by omega) (by omega)) (id) ?_;rw[hvf];refine Zkl hK ?_;clear hK K;refine Zcm ?_ ?_
 ·intro h17
  exfalso;simp at h17
 intro h17;refine z7 (z6 (Zrs [1,2,4,7,8,27] ?_));refine Zcm ?_ ?_
 ·intro h27;have g27:inC fo.cb p=false:=by rw[inC,h27];rfl
  refine Zrs [8,9] ?_;refine z29 3 1 (lyF true []) ?_;dsimp only;refine z3t 6 0 62 3 (nds []) (h:= ?_);refine z3t 6 2 89 5 (lyR 7 []) (h:= ?_);refine z3t 6 3 58 3 (cbs []) (h:= ?_);refine zb (hQ _ _ ?_)
  have hE:z1n fo p kind v=2:=by
   rw[z1n,hvf,qc (by decide),qe (by rw[g27];rfl)]
  have hR:z12 fo p kind v=noFo:=by rw[z12,hE,qc (by decide)]
  rw[hE,hR];refine z5y (fun x=>if x=4 then 8 else if x=5 then 9 else if x=6 then 7 else if x=7 then 10 else x) (nfS 2) nfH (.inl rfl) ?_;unfold nfS nfH;refine Zou ?_;refine⟨Zs,Zs,(Zg (fun x=>if x=4 then 8 else if x=5 then 9 else if x=6 then 7 else if x=7 then 10 else x)),Zs,?_⟩
  all_goals first|trivial|exact⟨rfl,trivial⟩
 intro h27;have g27:inC fo.cb p=true:=by rw[inC,h27];rfl
 have g27':=inC_iff.1 g27;refine z7 (sg [1,2,4,7,8,11] rfl ?_);intro K hK;iterate 3 (refine Zo Zl ?_)
 refine Zd Zl (find_spec fo.ns v fo.ns.length rfl (by omega)) (id) ?_;refine Zkl hK ?_;clear hK K;refine sg [1,2,4,7,8,11,12] rfl ?_;intro K hK;iterate 3 (refine Zo Zl ?_)
 refine Zd Zl (busyF_spec v fo.cb fo.cb.length rfl (by omega)) (fun x=>if x=0 then 3 else if x=1 then 5 else x) ?_;refine Zkl hK ?_;clear hK K;refine z6 ?_;refine z8 fun Q0 hN0 hX0 hR0 hE0=> ?_;refine Zrs [1,2,4,7,8,12,40] ?_;refine Zcm ?_ ?_
 ·intro h40;have g40:findI fo.ns v<0:=by simpa using h40
  refine Zrs [8,9] ?_;refine z29 3 1 (lyF true []) ?_;dsimp only;refine z3t 6 0 62 3 (nds []) (h:= ?_);refine z3t 6 2 89 5 (lyR 8 []) (h:= ?_);refine z3t 6 3 58 3 (cbs []) (h:= ?_);refine zb (hR0 _ _ (hQ _ _ ?_))
  have hE:z1n fo p kind v=6:=by
   rw[z1n,hvf,qc (by decide),qc (by rw[g27];decide),qe g40]
  have hR:z12 fo p kind v=noFo:=by rw[z12,hE,qc (by decide)]
  rw[hE,hR];refine z5y (fun x=>if x=4 then 9 else if x=5 then 10 else if x=6 then 8 else if x=7 then 11 else x) (nfS 6) nfH (.inl rfl) ?_;unfold nfS nfH;refine Zou ?_;refine⟨Zs,Zs,(Zg (fun x=>if x=4 then 9 else if x=5 then 10 else if x=6 then 8 else if x=7 then 11 else x)),Zs,?_⟩
  all_goals first|trivial|exact⟨rfl,trivial⟩
 intro h40;have g40:¬findI fo.ns v<0:=by simpa using h40
 refine Zrs [1,2,4,7,8,12,44] ?_;refine Zcm ?_ ?_
 ·intro h44;have g44:kind≠1/\kind≠2:=by simpa using h44
  refine Zrs [8,9] ?_;refine z29 3 1 (lyF true []) ?_;dsimp only;refine z3t 6 0 62 3 (nds []) (h:= ?_);refine z3t 6 2 89 5 (lyR 8 []) (h:= ?_);refine z3t 6 3 58 3 (cbs []) (h:= ?_);refine zb (hR0 _ _ (hQ _ _ ?_))
  have hE:z1n fo p kind v=1:=by
   rw[z1n,hvf,qc (by decide),qc (by rw[g27];decide),qc g40,qe g44]
  have hR:z12 fo p kind v=noFo:=by rw[z12,hE,qc (by decide)]
  rw[hE,hR];refine z5y (fun x=>if x=4 then 9 else if x=5 then 10 else if x=6 then 8 else if x=7 then 11 else x) (nfS 1) nfH (.inl rfl) ?_;unfold nfS nfH;refine Zou ?_;refine⟨Zs,Zs,(Zg (fun x=>if x=4 then 9 else if x=5 then 10 else if x=6 then 8 else if x=7 then 11 else x)),Zs,?_⟩
  all_goals first|trivial|exact⟨rfl,trivial⟩
 intro h44
 have g44:¬(kind≠1/\kind≠2):=by
  intro g;rw[show(kind !=1 && kind !=2)=true by simpa using g] at h44;cases h44
 refine Zrs [1,2,4,7,8,12,52] ?_;refine Zcm ?_ ?_
 ·intro h52;have g52:(cbA fo.cb p.toNat).kind≠0:=by simpa using h52
  refine Zrs [8,9] ?_;refine z29 3 1 (lyF true []) ?_;dsimp only;refine z3t 6 0 62 3 (nds []) (h:= ?_);refine z3t 6 2 89 5 (lyR 8 []) (h:= ?_);refine z3t 6 3 58 3 (cbs []) (h:= ?_);refine zb (hR0 _ _ (hQ _ _ ?_))
  have hE:z1n fo p kind v=7:=by
   rw[z1n,hvf,qc (by decide),qc (by rw[g27];decide),qc g40,qc g44,qe g52]
  have hR:z12 fo p kind v=noFo:=by rw[z12,hE,qc (by decide)]
  rw[hE,hR];refine z5y (fun x=>if x=4 then 9 else if x=5 then 10 else if x=6 then 8 else if x=7 then 11 else x) (nfS 7) nfH (.inl rfl) ?_;unfold nfS nfH;refine Zou ?_;refine⟨Zs,Zs,(Zg (fun x=>if x=4 then 9 else if x=5 then 10 else if x=6 then 8 else if x=7 then 11 else x)),Zs,?_⟩
  all_goals first|trivial|exact⟨rfl,trivial⟩
 intro h52;have g52:¬(cbA fo.cb p.toNat).kind≠0:=by simpa using h52
 refine Zrs [1,2,4,7,8,61] ?_;refine Zcm ?_ ?_
 ·intro h61;have g61:busyF fo.cb v=true:=h61;refine Zrs [8,9] ?_;refine z29 3 1 (lyF true []) ?_;dsimp only;refine z3t 6 0 62 3 (nds []) (h:= ?_);refine z3t 6 2 89 5 (lyR 8 []) (h:= ?_);refine z3t 6 3 58 3 (cbs []) (h:= ?_);refine zb (hR0 _ _ (hQ _ _ ?_))
  have hE:z1n fo p kind v=13:=by
   rw[z1n,hvf,qc (by decide),qc (by rw[g27];decide),qc g40,qc g44,qc g52,qe g61]
  have hR:z12 fo p kind v=noFo:=by rw[z12,hE,qc (by decide)]
  rw[hE,hR];refine z5y (fun x=>if x=4 then 9 else if x=5 then 10 else if x=6 then 8 else if x=7 then 11 else x) (nfS 13) nfH (.inl rfl) ?_;unfold nfS nfH;refine Zou ?_;refine⟨Zs,Zs,(Zg (fun x=>if x=4 then 9 else if x=5 then 10 else if x=6 then 8 else if x=7 then 11 else x)),Zs,?_⟩
  all_goals first|trivial|exact⟨rfl,trivial⟩
 intro h61;have g61:busyF fo.cb v=false:=h61;refine sg [1,2,4,7,8,64] rfl ?_;intro K hK
 have hk15:∀B:Bool,B=(kind==1 && memF fo.ly v 0)->K [(1,.int .i64 p),(2,.int .i64 kind),(4,.ptr 4 0 0 0),(7,.ptr 5 0 0 0),(8,.ptr 6 0 0 0),(64,.bool B)] ⟨8,[(7,rV 62 3 1 (fun _=>[.int .i64 (z3s fo.ns v).id,.str (z3s fo.ns v).key,.int .u32 (z3s fo.ns v).word])),(6,rV 34 4 1 (fun _=>[.nils,.int .i64 0,.nils,.nils])),(5,rV 3 1 1 (fun _=>[.int .i64 v])),(4,rV 34 4 1 (fun _=>[.slc false 0 0 0 fo.ns.length,.int .i64 fo.ht,.slc false 1 0 0 fo.ly.length,.slc false 3 0 0 fo.cb.length])),(0,rI 62 3 fo.ns.length (nds fo.ns)),(1,rI 89 5 fo.ly.length (lyR 2 fo.ly)),(2,(3*fo.ly.length+1,fam false 3 1 (lyF false fo.ly))),(3,rI 58 3 fo.cb.length (cbs fo.cb))]⟩:=by
  intro B hB;subst hB;refine hK _ _ ?_;clear hK K;refine Zcm ?_ ?_
  ·intro h64;have g64:kind=1/\memF fo.ly v 0=true:=by simpa using h64
   refine Zrs [8,9] ?_;refine z29 3 1 (lyF true []) ?_;dsimp only;refine z3t 6 0 62 3 (nds []) (h:= ?_);refine z3t 6 2 89 5 (lyR 8 []) (h:= ?_);refine z3t 6 3 58 3 (cbs []) (h:= ?_);refine zb (hR0 _ _ (hQ _ _ ?_))
   have hE:z1n fo p kind v=5:=by
    rw[z1n,hvf,qc (by decide),qc (by rw[g27];decide),qc g40,qc g44,qc g52,qc (by rw[g61];decide),qe g64]
   have hR:z12 fo p kind v=noFo:=by rw[z12,hE,qc (by decide)]
   rw[hE,hR];refine z5y (fun x=>if x=4 then 9 else if x=5 then 10 else if x=6 then 8 else if x=7 then 11 else x) (nfS 5) nfH (.inl rfl) ?_;unfold nfS nfH;refine Zou ?_;refine⟨Zs,Zs,(Zg (fun x=>if x=4 then 9 else if x=5 then 10 else if x=6 then 8 else if x=7 then 11 else x)),Zs,?_⟩
   all_goals first|trivial|exact⟨rfl,trivial⟩
  intro h64;have g64:¬(kind=1/\memF fo.ly v 0=true):=by simpa using h64
  refine sg [1,2,4,7,8,73] rfl ?_;intro K hK
  have hk17:∀B:Bool,B=(kind==2 && !memF fo.ly v 0)->K [(1,.int .i64 p),(2,.int .i64 kind),(4,.ptr 4 0 0 0),(7,.ptr 5 0 0 0),(8,.ptr 6 0 0 0),(73,.bool B)] ⟨8,[(7,rV 62 3 1 (fun _=>[.int .i64 (z3s fo.ns v).id,.str (z3s fo.ns v).key,.int .u32 (z3s fo.ns v).word])),(6,rV 34 4 1 (fun _=>[.nils,.int .i64 0,.nils,.nils])),(5,rV 3 1 1 (fun _=>[.int .i64 v])),(4,rV 34 4 1 (fun _=>[.slc false 0 0 0 fo.ns.length,.int .i64 fo.ht,.slc false 1 0 0 fo.ly.length,.slc false 3 0 0 fo.cb.length])),(0,rI 62 3 fo.ns.length (nds fo.ns)),(1,rI 89 5 fo.ly.length (lyR 2 fo.ly)),(2,(3*fo.ly.length+1,fam false 3 1 (lyF false fo.ly))),(3,rI 58 3 fo.cb.length (cbs fo.cb))]⟩:=by
   intro B hB;subst hB;refine hK _ _ ?_;clear hK K;refine Zcm ?_ ?_
   ·intro h73;have g73:kind=2/\memF fo.ly v 0=false:=by simpa using h73
    refine Zrs [8,9] ?_;refine z29 3 1 (lyF true []) ?_;dsimp only;refine z3t 6 0 62 3 (nds []) (h:= ?_);refine z3t 6 2 89 5 (lyR 8 []) (h:= ?_);refine z3t 6 3 58 3 (cbs []) (h:= ?_);refine zb (hR0 _ _ (hQ _ _ ?_))
    have hE:z1n fo p kind v=18:=by
     rw[z1n,hvf,qc (by decide),qc (by rw[g27];decide),qc g40,qc g44,qc g52,qc (by rw[g61];decide),qc g64,qe g73]
    have hR:z12 fo p kind v=noFo:=by rw[z12,hE,qc (by decide)]
    rw[hE,hR];refine z5y (fun x=>if x=4 then 9 else if x=5 then 10 else if x=6 then 8 else if x=7 then 11 else x) (nfS 18) nfH (.inl rfl) ?_;unfold nfS nfH;refine Zou ?_;refine⟨Zs,Zs,(Zg (fun x=>if x=4 then 9 else if x=5 then 10 else if x=6 then 8 else if x=7 then 11 else x)),Zs,?_⟩
    all_goals first|trivial|exact⟨rfl,trivial⟩
   intro h73;have g73:¬(kind=2/\memF fo.ly v 0=false):=by simpa using h73
   refine z7 (za (hN0 _ _ (z6 ?_)))
   obtain⟨x,s⟩:∃x,Sok fo p kind v x:=by
    rw[inC_iff] at g27;obtain⟨x,hx,hxi⟩:=findI_mem (show 0<=findI fo.ns v by omega);refine⟨x,g27.1,by omega,by omega,hx,hxi,by omega,by simpa using g61,?_⟩;have gk:kind=1\/kind=2:=by omega
    rcases gk with e|e<;>subst e
    ·cases hm:memF fo.ly v 0 with
     |false=>rfl
     |true=>exact absurd ⟨rfl,hm⟩ g64
    cases hm:memF fo.ly v 0 with
    |true=>rfl
    |false=>exact absurd ⟨rfl,hm⟩ g73
   obtain⟨hB,_⟩:=h.start_begin s
   have hE:z1n fo p kind v=0:=by
    rw[z1n,hvf,qc (by decide),qc (by rw[g27];decide),qc g40,qc g44,qc g52,qc (by rw[g61];decide),qc g64,qc g73,hB]
   have hR:z12 fo p kind v={fo with ly:=beginL fo.ly p (begC fo.ht kind v),cb:=fo.cb.set p.toNat (begC fo.ht kind v)}:=by rw[z12,qe hE]
   have hpl:=s.pl;obtain⟨P,hP⟩:∃P:Nat,p=P:=⟨p.toNat,by have:=s.p0;omega⟩;rw[hP] at hpl hB hR hE;rw[qq] at hpl hR;rw[hP]
   have hgo:0<=plI fo.ly (begC fo.ht kind v).node (begC fo.ht kind v).lvl:=by
    obtain⟨i,k,a⟩:=h.sh.place s.mm (lv:=(begC fo.ht kind v).lvl) (by unfold begC;dsimp only;split<;>omega) (by unfold begC;dsimp only;split<;>omega);have:=a.pI;rw[s.ide] at this;rw[show(begC fo.ht kind v).node=v from rfl,this];omega
   refine z3v [1,2,4,7,8,13] rfl ?_;intro K hK;refine Zo Zl ?_;refine Zd Zl (clone_specF fo hb fo.ns.length fo.ly.length fo.cb.length rfl rfl rfl (by omega) (by omega)) (id) ?_;refine Zkl hK ?_;clear hK K;refine sg [1,2,4,8,13] rfl ?_;intro K hK;iterate 8 (refine Zo Zl ?_)
   rw[cbs_put' _ _ _ _ _ hpl];refine Zad ?_;refine Zk hK ?_;clear hK K;refine z6 (Zrs [1,4,8,13,93] ?_);refine Zcn ?_ ?_
   ·intro h93;obtain⟨C1,hC1⟩:∃C1,fo.cb.set P ⟨kind,v,0⟩=C1:=⟨_,rfl⟩;have hC1l:C1.length=fo.cb.length:=by rw[<-hC1,qy]
    have hC1p:cbA C1 P=⟨kind,v,0⟩:=by rw[<-hC1];exact z4x hpl
    have hC2:C1.set P ⟨kind,v,fo.ht⟩=fo.cb.set P (begC fo.ht kind v):=by rw[<-hC1,List.set_set,begC,qe h93]
    rw[hC1];refine z3v [1,8,13] rfl ?_;intro K hK;iterate 8 (refine Zo Zl ?_)
    rw[cbs_put' _ _ _ _ _ (by omega),hC1p,hC2];refine Zad ?_;refine Zk hK ?_;clear hK K;refine z6 (z6 ?_);obtain⟨C2,hC2'⟩:∃C2,fo.cb.set P (begC fo.ht kind v)=C2:=⟨_,rfl⟩;have hC2l:C2.length=fo.cb.length:=by rw[<-hC2',qy]
    have hC2p:cbA C2 P=begC fo.ht kind v:=by rw[<-hC2'];exact z4x hpl
    rw[hC2'];refine z3v [8,13,14] rfl ?_;intro K hK;iterate 2 (refine Zo Zl ?_)
    refine Zd Zl (begin_spec fo.ly C2 hb fo.ns.length fo.ly.length fo.cb.length P fo.ht rfl hC2l (by omega) (by omega) (by rw[hC2p];exact hgo) (by rw[hC2p];exact hB)) (fun x=>if x=0 then 8 else if x=1 then 9 else if x=2 then 10 else if x=3 then 11 else x) ?_;rw[hC2p];refine Zkl hK ?_;clear hK K;refine Zrs [8,13,14,105] ?_;refine Zcm ?_ ?_
    ·intro h105
     exfalso;simp at h105
    intro h105;refine z7 (z6 ?_);obtain⟨I,hIe⟩:∃I,(plI fo.ly (begC fo.ht kind v).node (begC fo.ht kind v).lvl).toNat=I:=⟨_,rfl⟩;obtain⟨R,hRe⟩:∃R,begR fo.ly (P:Int) (begC fo.ht kind v)=R:=⟨_,rfl⟩;have hUp:=begR_eq hB;rw[hIe,hRe] at hUp;rw[hIe,hRe];have hout:∀q,q<fo.ly.length->lyW 10 fo.ly I 13 14 R q=SV.renPL (mvM (fun x=>x) 10 (ms2 I 13 14)) (lyR 10 (upL fo.ly I R.1 R.2) q):=fun q hq=>lyW_M2 10 fo.ly I 13 14 R q hq;refine z2y (fr':=[(8,.ptr 6 0 0 0),(13,.ptr 12 0 0 0)]) (H':=⟨13,[(12,rV 34 4 1 (fun _=>[.slc true 8 0 0 fo.ns.length,.int .i64 fo.ht,.slc true 9 0 0 fo.ly.length,.slc true 11 0 0 fo.cb.length])),(9,rO 89 5 fo.ly.length (lyR 10 (upL fo.ly I R.1 R.2))),(10,(3*fo.ly.length+1,fam true 3 1 (lyF true (upL fo.ly I R.1 R.2)))),(11,rO 58 3 fo.cb.length (cbs C2)),(8,rO 62 3 fo.ns.length (nds fo.ns)),(6,rV 34 4 1 (fun _=>[.nils,.int .i64 0,.nils,.nils]))]⟩) _ (Zgm (fun x=>x) (10) (ms2 I 13 14) (ms2_ok _ (by decide) ⟨rfl,rfl⟩ ⟨qb rfl,qb rfl⟩) ((zc (by decide) rfl qf (ze.of (fun _=>⟨rfl,rfl⟩) rfl (qd _) (fun _ _=>rfl)) (Obj.lt_row.2 fun q _=>by simp[SV.ltL,SV.lt]) (qb rfl) (zc (by decide) rfl qf (ze.of (fun _=>⟨rfl,rfl⟩) rfl (qd _) (hout)) (Obj.lt_row.2 fun q _=>(z67 _ _ _ q).2 (qb rfl)) (qb rfl) (lyF_consU (r:=R) rfl rfl rfl (qb rfl) (zc (by decide) rfl qf (ze.of (fun _=>⟨rfl,rfl⟩) rfl (qd _) (fun q _=>(z4j _ _ q).symm)) (Obj.lt_row.2 fun q _=>cbs_lt _ _ q) (qb rfl) (zc (by decide) rfl qf (ze.of (fun _=>⟨rfl,rfl⟩) rfl (qd _) (fun q _=>(z28 _ _ q).symm)) (Obj.lt_row.2 fun q _=>z4e _ _ q) (qb rfl) (zc (by decide) rfl qf (ze.of (fun _=>⟨rfl,rfl⟩) rfl (qd _) (fun _ _=>rfl)) (Obj.lt_row.2 fun q _=>by simp[SV.ltL,SV.lt]) (qb rfl) trivial)))))))) ?_
    refine Zrg [8,9] (zb (hQ _ _ ?_));rw[hP,hE,hR];dsimp only;rw[hC2',<-hUp,z40,hC2l];exact Zos (fun x=>if x=4 then 8 else if x=5 then 9 else if x=6 then 10 else if x=7 then 11 else x) (.tup [.agg [.slc true 4 0 0 fo.ns.length,.int .i64 fo.ht,.slc true 5 0 0 fo.ly.length,.slc true 7 0 0 fo.cb.length],.int .i64 0]) (⟨8,[(4,rO 62 3 fo.ns.length (nds fo.ns)),(5,rO 89 5 fo.ly.length (lyR 6 (upL fo.ly I R.1 R.2))),(6,(3*fo.ly.length+1,fam true 3 1 (lyF true (upL fo.ly I R.1 R.2)))),(7,rO 58 3 fo.cb.length (cbs C2))]⟩)
   intro h93;have hC2:fo.cb.set P ⟨kind,v,0⟩=fo.cb.set P (begC fo.ht kind v):=by rw[begC,qc h93]
   rw[hC2];refine z7 (z6 (z6 ?_));obtain⟨C2,hC2'⟩:∃C2,fo.cb.set P (begC fo.ht kind v)=C2:=⟨_,rfl⟩;have hC2l:C2.length=fo.cb.length:=by rw[<-hC2',qy]
   have hC2p:cbA C2 P=begC fo.ht kind v:=by rw[<-hC2'];exact z4x hpl
   rw[hC2'];refine z3v [8,13,14] rfl ?_;intro K hK;iterate 2 (refine Zo Zl ?_)
   refine Zd Zl (begin_spec fo.ly C2 hb fo.ns.length fo.ly.length fo.cb.length P fo.ht rfl hC2l (by omega) (by omega) (by rw[hC2p];exact hgo) (by rw[hC2p];exact hB)) (fun x=>if x=0 then 8 else if x=1 then 9 else if x=2 then 10 else if x=3 then 11 else x) ?_;rw[hC2p];refine Zkl hK ?_;clear hK K;refine Zrs [8,13,14,105] ?_;refine Zcm ?_ ?_
   ·intro h105
    exfalso;simp at h105
   intro h105;refine z7 (z6 ?_);obtain⟨I,hIe⟩:∃I,(plI fo.ly (begC fo.ht kind v).node (begC fo.ht kind v).lvl).toNat=I:=⟨_,rfl⟩;obtain⟨R,hRe⟩:∃R,begR fo.ly (P:Int) (begC fo.ht kind v)=R:=⟨_,rfl⟩;have hUp:=begR_eq hB;rw[hIe,hRe] at hUp;rw[hIe,hRe];have hout:∀q,q<fo.ly.length->lyW 10 fo.ly I 13 14 R q=SV.renPL (mvM (fun x=>x) 10 (ms2 I 13 14)) (lyR 10 (upL fo.ly I R.1 R.2) q):=fun q hq=>lyW_M2 10 fo.ly I 13 14 R q hq;refine z2y (fr':=[(8,.ptr 6 0 0 0),(13,.ptr 12 0 0 0)]) (H':=⟨13,[(12,rV 34 4 1 (fun _=>[.slc true 8 0 0 fo.ns.length,.int .i64 fo.ht,.slc true 9 0 0 fo.ly.length,.slc true 11 0 0 fo.cb.length])),(9,rO 89 5 fo.ly.length (lyR 10 (upL fo.ly I R.1 R.2))),(10,(3*fo.ly.length+1,fam true 3 1 (lyF true (upL fo.ly I R.1 R.2)))),(11,rO 58 3 fo.cb.length (cbs C2)),(8,rO 62 3 fo.ns.length (nds fo.ns)),(6,rV 34 4 1 (fun _=>[.nils,.int .i64 0,.nils,.nils]))]⟩) _ (Zgm (fun x=>x) (10) (ms2 I 13 14) (ms2_ok _ (by decide) ⟨rfl,rfl⟩ ⟨qb rfl,qb rfl⟩) ((zc (by decide) rfl qf (ze.of (fun _=>⟨rfl,rfl⟩) rfl (qd _) (fun _ _=>rfl)) (Obj.lt_row.2 fun q _=>by simp[SV.ltL,SV.lt]) (qb rfl) (zc (by decide) rfl qf (ze.of (fun _=>⟨rfl,rfl⟩) rfl (qd _) (hout)) (Obj.lt_row.2 fun q _=>(z67 _ _ _ q).2 (qb rfl)) (qb rfl) (lyF_consU (r:=R) rfl rfl rfl (qb rfl) (zc (by decide) rfl qf (ze.of (fun _=>⟨rfl,rfl⟩) rfl (qd _) (fun q _=>(z4j _ _ q).symm)) (Obj.lt_row.2 fun q _=>cbs_lt _ _ q) (qb rfl) (zc (by decide) rfl qf (ze.of (fun _=>⟨rfl,rfl⟩) rfl (qd _) (fun q _=>(z28 _ _ q).symm)) (Obj.lt_row.2 fun q _=>z4e _ _ q) (qb rfl) (zc (by decide) rfl qf (ze.of (fun _=>⟨rfl,rfl⟩) rfl (qd _) (fun _ _=>rfl)) (Obj.lt_row.2 fun q _=>by simp[SV.ltL,SV.lt]) (qb rfl) trivial)))))))) ?_
   refine Zrg [8,9] (zb (hQ _ _ ?_));rw[hP,hE,hR];dsimp only;rw[hC2',<-hUp,z40,hC2l];exact Zos (fun x=>if x=4 then 8 else if x=5 then 9 else if x=6 then 10 else if x=7 then 11 else x) (.tup [.agg [.slc true 4 0 0 fo.ns.length,.int .i64 fo.ht,.slc true 5 0 0 fo.ly.length,.slc true 7 0 0 fo.cb.length],.int .i64 0]) (⟨8,[(4,rO 62 3 fo.ns.length (nds fo.ns)),(5,rO 89 5 fo.ly.length (lyR 6 (upL fo.ly I R.1 R.2))),(6,(3*fo.ly.length+1,fam true 3 1 (lyF true (upL fo.ly I R.1 R.2)))),(7,rO 58 3 fo.cb.length (cbs C2))]⟩)
  iterate 5 (refine Zo Zl ?_)
  refine z13 ?_;refine z1b rfl rfl ?_;refine Zgr ?_
  first|refine z15 ?_ ?_|refine(fun(h1:false=true->_) (h2:false=false->_)=>qi h1 fun _=>h2 rfl) ?_ ?_|refine qi ?_ ?_
  ·intro hg5
   first
    |(simp at hg5;done)
    |skip
     try replace hg5:=Znb hg5
     refine Zo id ?_;refine Zc1 (member_spec fo.ly hb hlc fo.ly.length fo.ns.length fo.cb.length rfl fo.ht v 0) (id) ?_;iterate 3 (refine Zo Zl ?_)
     refine zr ?_;refine Zpr ?_;refine hk17 _ ?_;clear hk17 K hK;simp_all
  intro hg5;refine⟨.bool false,?_⟩
  first
   |(simp at hg5;done)
   |skip
    try replace hg5:=Znb hg5
    iterate 3 (refine Zo Zl ?_)
    refine zr ?_;refine Zpr ?_;refine hk17 _ ?_;clear hk17 K hK;simp_all
 iterate 5 (refine Zo Zl ?_)
 refine z13 ?_;refine z1b rfl rfl ?_;refine Zgr ?_
 first|refine z15 ?_ ?_|refine(fun(h1:false=true->_) (h2:false=false->_)=>qi h1 fun _=>h2 rfl) ?_ ?_|refine qi ?_ ?_
 ·intro hg5
  first
   |(simp at hg5;done)
   |skip
    try replace hg5:=Znb hg5
    refine Zo id ?_;refine Zc1 (member_spec fo.ly hb hlc fo.ly.length fo.ns.length fo.cb.length rfl fo.ht v 0) (id) ?_;iterate 2 (refine Zo Zl ?_)
    refine zr ?_;refine Zpr ?_;refine hk15 _ ?_;clear hk15 K hK;simp_all
 intro hg5;refine⟨.bool false,?_⟩
 first
  |(simp at hg5;done)
  |skip
   try replace hg5:=Znb hg5
   iterate 2 (refine Zo Zl ?_)
   refine zr ?_;refine Zpr ?_;refine hk15 _ ?_;clear hk15 K hK;simp_all
end
section
def z1w (fo:Fo)(lv:Int):List Int:=if 0<=lv/\lv<=fo.ht then((z4w fo.ns).filter fun x=>memF fo.ly x.id lv).map (·.id) else []
def map_snoc (l:List Nd)(x:Nd):(l++[x]).map (·.id)=l.map (·.id)++[x.id]:=by simp
def JnZm.exE:=aj9 @z11 @zd @zf @zo @zh @zx @z10 ec2 (aj9 @zg @zp @zm @zi z58 @zn z3g z3w (aj9 @zq ec3 ec5 @z1a.eq_1 @zu.eq_1 @ints.eq_1 ec34 ec35 (aj3 ec36 @z18 @app_intsN)))
def JnZm.axE:=aj9 @z11 @zd @zf @zo @zh @zx @z10 ec2 (aj9 @zg @zp @zm @zi z58 @zn z3g z3w (aj9 @zq ec3 ec5 @z1a.eq_1 @zu.eq_1 ec34 ec35 @z18 (aj7 @app_intsN @z1p @z21 @z2j @z2r ec38 @z38)))
open JnNm (gxE oxE)
open JnZm (axE exE)
open D0 (sdE)
def Present_spec (fo:Fo)(ls:Nat->List Int)(h:FI fo ls)(n k m:Nat)(lv:Int)(hn:fo.ns.length=n)(hk:fo.ly.length=k)(hm:fo.cb.length=m):
  zj prog 33 [.agg [.slc false 0 0 0 n,.int .i64 fo.ht,.slc false 1 0 0 k,.slc false 3 0 0 m],.int .i64 lv] ⟨4,[(0,rI 62 3 n (nds fo.ns)),(1,rI 89 5 k (lyR 2 fo.ly)),(2,(3*k+1,fam false 3 1 (lyF false fo.ly))),(3,rI 58 3 m (cbs fo.cb))]⟩
   (fun s H1=>s= .slc true 4 0 0 (z1w fo lv).length/\H1=⟨5,[(4,rO 3 1 ((z1w fo lv).length) (ints (z1w fo lv)))]⟩):=by
 have hb:=h.sh.lyB;have hlc:=h.sh.lyC;have hx64:=h.sh.few;have hx8:=h.sh.m8;have hh0:=h.sh.h0;have hh16:=h.sh.h16;have hvf:=h.vf;subst hn hk hm;have hsl:(z4w fo.ns).length=fo.ns.length:=(z26 fo.ns).length_eq.symm;refine Zf false 41 [.tmp 4] func33 ntmps33 results33 fun w0 own0 β0 Q hQ hQn=> ?_;refine Zrs [1,2] (z6 ?_);refine sg [1,2,20] rfl ?_;intro K hK;refine Zo Zl ?_;refine Zd Zl (valid_specF fo hb fo.ns.length fo.ly.length fo.cb.length rfl rfl rfl (by omega) (by omega) (by omega)) (id) ?_;rw[hvf];refine Zkl hK ?_;clear hK K;refine Zcm ?_ ?_
 ·intro h20
  have hno:¬(0<=lv/\lv<=fo.ht):=by
   rintro⟨g1,g2⟩;rcases(by simpa using h20:lv<0\/fo.ht<lv) with g|g<;>omega
  refine Zrs [4] (z2f 4 3 1 (ints []) rfl ?_);dsimp only;refine zb (hQ _ _ ?_);rw[show z1w fo lv=[] by rw[z1w,qc hno]];exact Zos (fun x=>if x=4 then 5 else x) (.slc true 4 0 0 ([]:List Int).length) (⟨5,[(4,rO 3 1 (([]:List Int).length) (ints []))]⟩)
 intro h20
 have hyes:0<=lv/\lv<=fo.ht:=by
  have:¬(lv<0\/fo.ht<lv):=by intro g;rw[show(decide (lv<0)||decide (fo.ht<lv))=true by simpa using g] at h20;cases h20
  omega
 refine z7 (Zrs [1,2,5] (z6 ?_));refine sg [1,2,5,23,24,25] rfl ?_;intro K hK;iterate 2 (refine Zo Zl ?_)
 refine Zd Zl (sort_spec fo.ns fo.ns.length rfl (by omega)) (id) ?_;refine Zkl hK ?_;clear hK K;obtain⟨s,hs⟩:∃s,z4w fo.ns=s:=⟨_,rfl⟩;rw[hs] at hsl ⊢;obtain⟨P,hP⟩:∃P:Nd->Bool,(fun x:Nd=>memF fo.ly x.id lv)=P:=⟨_,rfl⟩;have hPx:∀x:Nd,memF fo.ly x.id lv=P x:=fun x=>by rw[<-hP]
 refine z2f 5 3 1 (ints (((s.take 0).filter P).map (·.id))) rfl ?_;dsimp only;refine z8 fun Q0 hN0 hX0 hR0 hE0=> ?_;refine zl (σ:=Nat) (fun i=>i<=fo.ns.length) (fun i=>fo.ns.length-i) (fun i=>[(1,.int .i64 lv),(2,.ptr 4 0 0 0),(5,.slc true 6 0 0 (((s.take i).filter P).map (·.id)).length),(23,.slc true 5 0 0 fo.ns.length),(24,.int .i64 fo.ns.length),(25,.int .i64 i)]) (fun i=>⟨7,[(6,rO 3 1 ((((s.take i).filter P).map (·.id)).length) (ints (((s.take i).filter P).map (·.id)))),(5,rO 62 3 fo.ns.length (nds s)),(4,rV 34 4 1 (fun _=>[.slc false 0 0 0 fo.ns.length,.int .i64 fo.ht,.slc false 1 0 0 fo.ly.length,.slc false 3 0 0 fo.cb.length])),(0,rI 62 3 fo.ns.length (nds fo.ns)),(1,rI 89 5 fo.ly.length (lyR 2 fo.ly)),(2,(3*fo.ly.length+1,fam false 3 1 (lyF false fo.ly))),(3,rI 58 3 fo.cb.length (cbs fo.cb))]⟩) 0 (ql _) (ρ:=id) (Zg id) ?_;rintro i hi QL1 hL1 hRL1 hEL1;refine Zrs [1,2,5,23,24,25,26] (z6 ?_);refine Zcn ?_ ?_
 ·intro h26;have hst:=filter_step (xs:=s) (j:=i) (by omega) P;have hfl:((s.take i).filter P).length<=i:=qR (jd ..) (by rw[qN];omega);obtain⟨O,hO⟩:∃O,((s.take i).filter P).map (·.id)=O:=⟨_,rfl⟩;have hOl:O.length<=i:=by rw[<-hO,qx];exact hfl
  rw[hO];refine z7 (z6 ?_);refine z8 fun Q1 hN1 hX1 hR1 hE1=> ?_;refine Zrs [1,2,5,7,23,24,25] ?_;refine sg [1,2,5,7,23,24,25,33] rfl ?_;intro K hK;iterate 4 (refine Zo Zl ?_)
  refine Zd Zl (member_spec fo.ly hb hlc fo.ly.length fo.ns.length fo.cb.length rfl fo.ht (nd s i).id lv) (id) ?_;rw[hPx];refine Zk hK ?_;clear hK K;refine Zcm ?_ ?_
  ·intro h33;rw[h33,qe rfl] at hst;refine Zrg [1,2,5,23,24,25] (za (hN1 _ _ ?_));refine Zrg [1,2,5,23,24,25] (za (hL1 _ _ ?_));have e1:((s.take (i+1)).filter P).map (·.id)=O++[(nd s i).id]:=by rw[hst,map_snoc,hO]
   rw[iS i];refine⟨i+1,⟨by omega,by omega⟩,fun x=>if x=6 then 9 else x,?_⟩;rw[e1];exact(Zg (fun x=>if x=6 then 9 else x))
  intro h33;rw[h33,qc (by decide),jc] at hst;refine z7 (za (hN1 _ _ (Zrg [1,2,5,23,24,25] (za (hL1 _ _ ?_)))));rw[<-hO,iS i,<-hst];exact⟨i+1,⟨by omega,by omega⟩,id,(Zg id)⟩
 intro h26;refine zk (hEL1 _ _ _ (hX0 _ _ (Zrs [4] (zb (hQ _ _ ?_)))));have hie:i=fo.ns.length:=by omega
 subst hie;rw[show z1w fo lv=(s.filter P).map (·.id) by rw[z1w,qe hyes,hs,hP],Qj (by omega:s.length<=fo.ns.length)];exact Zos (fun x=>if x=4 then 6 else x) (.slc true 4 0 0 ((s.filter P).map (·.id)).length) (⟨5,[(4,rO 3 1 (((s.filter P).map (·.id)).length) (ints ((s.filter P).map (·.id))))]⟩)
end
section
def bsyN (C:List Cb)(i:Nat):Nat:=sumR (fun p=>((cbA C p).kind !=0).toNat) i
def bsyN_le (C:List Cb):∀i,bsyN C i<=i
 |0=>qd _
 |i+1=>by
  have:=bsyN_le C i;have h:((cbA C i).kind !=0).toNat<=1:=by cases(cbA C i).kind !=0<;>decide
  simp only[bsyN,sumR] at this ⊢;omega
def boundF (fo:Fo):Int:=(busyN fo.cb:Int)*(fo.ht+1)*(((busyN fo.cb:Int)+1)*((fo.ns.length:Int)+7)+7)
def mul_in {a b A B:Int}(ha:0<=a/\a<=A)(hb:0<=b/\b<=B):0<=a*b/\a*b<=A*B:=⟨Int.mul_nonneg ha.1 hb.1,Int.mul_le_mul ha.2 hb.2 hb.1 (by omega)⟩
open JnNm (gxE axE oxE exE)
open D0 (sdE)
def Bound_spec (fo:Fo)(ls:Nat->List Int)(h:FI fo ls)(n k m:Nat)(hn:fo.ns.length=n)(hk:fo.ly.length=k)(hm:fo.cb.length=m):
  zj prog 35 [.agg [.slc false 0 0 0 n,.int .i64 fo.ht,.slc false 1 0 0 k,.slc false 3 0 0 m]] ⟨4,[(0,rI 62 3 n (nds fo.ns)),(1,rI 89 5 k (lyR 2 fo.ly)),(2,(3*k+1,fam false 3 1 (lyF false fo.ly))),(3,rI 58 3 m (cbs fo.cb))]⟩ (fun s H1=>s= .int .i64 (boundF fo)/\H1=⟨4,[]⟩):=by
 have hb:=h.sh.lyB;have hlc:=h.sh.lyC;have hx64:=h.sh.few;have hx8:=h.sh.m8;have hh0:=h.sh.h0;have hh16:=h.sh.h16;have hvf:=h.vf;subst hn hk hm;refine Zf false 38 [.tmp 2] func35 ntmps35 results35 fun w0 own0 β0 Q hQ hQn=> ?_;refine Zrs [1] (z6 ?_);refine sg [1,9] rfl ?_;intro K hK;refine Zo Zl ?_;refine Zd Zl (valid_specF fo hb fo.ns.length fo.ly.length fo.cb.length rfl rfl rfl (by omega) (by omega) (by omega)) (id) ?_;rw[hvf];refine Zkl hK ?_;clear hK K;refine Zcm ?_ ?_
 ·intro h9
  exfalso;simp at h9
 intro h9;refine z7 (z6 (Zrq [1,3,4] [0,1,2,3,4] (z6 ?_)));refine Zrs [1,3,4,14,15,16] ?_;refine z8 fun Q0 hN0 hX0 hR0 hE0=> ?_;refine zl (σ:=Nat) (fun i=>i<=fo.cb.length) (fun i=>fo.cb.length-i) (fun i=>[(1,.ptr 4 0 0 0),(3,.int .i64 (bsyN fo.cb i)),(4,.int .i64 fo.ns.length),(14,.slc false 3 0 0 fo.cb.length),(15,.int .i64 fo.cb.length),(16,.int .i64 i)]) (fun i=>⟨5,[(4,rV 34 4 1 (fun _=>[.slc false 0 0 0 fo.ns.length,.int .i64 fo.ht,.slc false 1 0 0 fo.ly.length,.slc false 3 0 0 fo.cb.length])),(0,rI 62 3 fo.ns.length (nds fo.ns)),(1,rI 89 5 fo.ly.length (lyR 2 fo.ly)),(2,(3*fo.ly.length+1,fam false 3 1 (lyF false fo.ly))),(3,rI 58 3 fo.cb.length (cbs fo.cb))]⟩) 0 (ql _) (ρ:=id) (have xE:=aj @bsyN.eq_1 (aj @sumR.eq_1 @sumR.eq_2);Zgx id) ?_;rintro i hi QL1 hL1 hRL1 hEL1;refine Zrs [1,3,4,14,15,16,17] (z6 ?_);refine Zcn ?_ ?_
 ·intro h17;have hbl:=bsyN_le fo.cb i;refine z7 (z6 ?_);refine z8 fun Q1 hN1 hX1 hR1 hE1=> ?_;refine Zrs [1,3,4,6,14,15,16] ?_;refine Zrs [1,3,4,14,15,16,22] ?_;refine Zcm ?_ ?_
  ·intro h22;have e1:bsyN fo.cb (i+1)=bsyN fo.cb i+1:=by rw[bsyN,sumR,h22];rfl
   refine Zrg [1,3,4,14,15,16] (za (hN1 _ _ ?_));refine Zrg [1,3,4,14,15,16] (za (hL1 _ _ ?_));rw[iS i,show(bsyN fo.cb i:Int)+1=((bsyN fo.cb (i+1):Nat):Int) from by omega];exact⟨i+1,⟨by omega,by omega⟩,id,(Zg id)⟩
  intro h22;have e1:bsyN fo.cb (i+1)=bsyN fo.cb i:=by rw[bsyN,sumR,h22];rfl
  refine z7 (za (hN1 _ _ (Zrg [1,3,4,14,15,16] (za (hL1 _ _ ?_)))));rw[iS i,<-e1];exact⟨i+1,⟨by omega,by omega⟩,id,(Zg id)⟩
 intro h17;have hbl:=bsyN_le fo.cb i;refine zk (hEL1 _ _ _ (hX0 _ _ (z6 ?_)));have hie:i=fo.cb.length:=by omega
 subst hie;have hM:bsyN fo.cb fo.cb.length=busyN fo.cb:=rfl;rw[hM] at hbl ⊢;obtain⟨M,hMe⟩:∃M,busyN fo.cb=M:=⟨_,rfl⟩;rw[hMe] at hbl ⊢;have p1:=mul_in (a:=(M:Int)) (b:=fo.ht+1) (A:=8) (B:=17) (by omega) (by omega);have p2:=mul_in (a:=(M:Int)+1) (b:=(fo.ns.length:Int)+7) (A:=9) (B:=71) (by omega) (by omega);have p3:=mul_in (a:=(M:Int)*(fo.ht+1)) (b:=((M:Int)+1)*((fo.ns.length:Int)+7)+7) (A:=136) (B:=646) (by omega) (by omega);refine Zrg [2] (zb (hQ _ _ ?_));refine Zob ⟨4,[]⟩ ?_;rw[boundF,hMe];exact⟨rfl,by trivial⟩
def FI.nest {fo:Fo}{ls:Nat->List Int}(h:FI fo ls){x:Nd}(hx:x∈fo.ns){lv:Int}(l1:1<=lv)(lh:lv<=fo.ht)(hm:memF fo.ly x.id lv=true):memF fo.ly x.id (lv-1)=true:=by
 rw[memF_gone h.sh hx (by omega) lh,qn] at hm;rw[memF_gone h.sh hx (by omega) (by omega),qn]
 by_cases hb:busyF fo.cb x.id=false
 ·rw[h.lev x hx hb (lv-1) (by omega) (by omega),<-h.lev x hx hb lv (by omega) lh];exact hm
 have:¬∀p,p<fo.cb.length->(cbA fo.cb p).kind≠0->(cbA fo.cb p).node≠x.id:=fun g=>hb (z5h.2 g)
 have⟨p,hp,hk,hn⟩:∃p,p<fo.cb.length/\(cbA fo.cb p).kind≠0/\(cbA fo.cb p).node=x.id:=by
  refine Jm fun g=>this fun p hp hk hn=>g ⟨p,hp,hk,hn⟩
 have g1:=h.low p hp hk lv (by omega) lh;have g2:=h.low p hp hk (lv-1) (by omega) (by omega);rw[hn] at g1 g2
 by_cases g:lv-1<(cbA fo.cb p).lvl
 ·exact g2.1 g
 rw[g1.2 (by omega)] at hm;cases hm
def presF_mem {fo:Fo}{lv:Int}{v:Int}:v∈z1w fo lv↔(0<=lv/\lv<=fo.ht)/\∃x∈fo.ns,x.id=v/\memF fo.ly v lv=true:=by
 unfold z1w
 split
 ·rename_i g;simp only[Qs,jH,g,JM,QQ]
  constructor
  ·rintro⟨x,⟨h1,h2⟩,rfl⟩;exact⟨x,(z26 fo.ns).mem_iff.2 h1,rfl,h2⟩
  rintro⟨x,h1,rfl,h2⟩;exact⟨x,⟨(z26 fo.ns).mem_iff.1 h1,h2⟩,rfl⟩
 rename_i g;simp[g]
def presF_len (fo:Fo)(lv:Int):(z1w fo lv).length<=fo.ns.length:=by
 unfold z1w
 split
 ·rw[qx];exact qR (jd ..) (by rw[<-(z26 fo.ns).length_eq];exact qd _)
 simp
def Check_spec (fo:Fo)(ls:Nat->List Int)(h:FI fo ls)(n k m:Nat)(hn:fo.ns.length=n)(hk:fo.ly.length=k)(hm:fo.cb.length=m):
  zj prog 32 [.agg [.slc false 0 0 0 n,.int .i64 fo.ht,.slc false 1 0 0 k,.slc false 3 0 0 m]] ⟨4,[(0,rI 62 3 n (nds fo.ns)),(1,rI 89 5 k (lyR 2 fo.ly)),(2,(3*k+1,fam false 3 1 (lyF false fo.ly))),(3,rI 58 3 m (cbs fo.cb))]⟩ (fun s H1=>s= .bool true/\H1=⟨4,[]⟩):=by
 have hb:=h.sh.lyB;have hlc:=h.sh.lyC;have hlb:=hb.1;have hx64:=h.sh.few;have hx8:=h.sh.m8;have hh0:=h.sh.h0;have hh16:=h.sh.h16;have hvf:=h.vf;subst hn hk hm;refine Zf false 44 [.tmp 2] func32 ntmps32 results32 fun w0 own0 β0 Q hQ hQn=> ?_;refine Zrs [1] (z6 ?_);refine sg [1,10] rfl ?_;intro K hK;refine Zo Zl ?_;refine Zd Zl (valid_specF fo hb fo.ns.length fo.ly.length fo.cb.length rfl rfl rfl (by omega) (by omega) (by omega)) (id) ?_;rw[hvf];refine Zkl hK ?_;clear hK K;refine Zcm ?_ ?_
 ·intro h10
  exfalso;simp at h10
 intro h10;refine z7 (z6 (Zrs [1,12,13,14] ?_));refine z8 fun Q0 hN0 hX0 hR0 hE0=> ?_;refine zl (σ:=Nat) (fun i=>i<=fo.ly.length) (fun i=>fo.ly.length-i) (fun i=>[(1,.ptr 4 0 0 0),(12,.slc false 1 0 0 fo.ly.length),(13,.int .i64 fo.ly.length),(14,.int .i64 i)]) (fun i=>⟨5,[(4,rV 34 4 1 (fun _=>[.slc false 0 0 0 fo.ns.length,.int .i64 fo.ht,.slc false 1 0 0 fo.ly.length,.slc false 3 0 0 fo.cb.length])),(0,rI 62 3 fo.ns.length (nds fo.ns)),(1,rI 89 5 fo.ly.length (lyR 2 fo.ly)),(2,(3*fo.ly.length+1,fam false 3 1 (lyF false fo.ly))),(3,rI 58 3 fo.cb.length (cbs fo.cb))]⟩) 0 (ql _) (ρ:=id) (Zg id) ?_;rintro i hi QL1 hL1 hRL1 hEL1;refine Zrs [1,12,13,14,15] (z6 ?_);refine Zcn ?_ ?_
 ·intro h15;have hbi:=hb.2 i;refine z7 (z6 ?_);refine z8 fun Q1 hN1 hX1 hR1 hE1=> ?_;refine Zrs [1,4,12,13,14] ?_;refine sg [1,12,13,14,21] rfl ?_;intro K hK;iterate 2 (refine Zo Zl ?_)
  refine Zd Zl (lyLsB fo.ly i fo.ly.length (by omega) (check_specL (lyA fo.ly i).cs (lyA fo.ly i).ps _ _ rfl rfl (by omega) (by omega))) (fun q=>if q=0 then 2 else 0) ?_;rw[(h.inv i (by omega)).check];refine Zkl hK ?_;clear hK K;refine Zcm ?_ ?_
  ·intro h21
   exfalso;simp at h21
  intro h21;refine z7 (za (hN1 _ _ (Zrg [1,12,13,14] (za (hL1 _ _ ?_)))));rw[iS i];exact⟨i+1,⟨by omega,by omega⟩,id,(Zg id)⟩
 intro h15;refine zk (hEL1 _ _ _ (hX0 _ _ (z6 (Zrs [1,5] ?_))));refine z8 fun Q2 hN2 hX2 hR2 hE2=> ?_;refine zl (σ:=Nat) (fun i=>(i:Int)<=fo.ht+1/\1<=i\/i=1) (fun i=>fo.ht.toNat+1-i) (fun i=>[(1,.ptr 4 0 0 0),(5,.int .i64 i)]) (fun i=>⟨5,[(4,rV 34 4 1 (fun _=>[.slc false 0 0 0 fo.ns.length,.int .i64 fo.ht,.slc false 1 0 0 fo.ly.length,.slc false 3 0 0 fo.cb.length])),(0,rI 62 3 fo.ns.length (nds fo.ns)),(1,rI 89 5 fo.ly.length (lyR 2 fo.ly)),(2,(3*fo.ly.length+1,fam false 3 1 (lyF false fo.ly))),(3,rI 58 3 fo.cb.length (cbs fo.cb))]⟩) 1 (.inr rfl) (ρ:=id) (Zg id) ?_;rintro lv hlv QL2 hL2 hRL2 hEL2;refine z6 (Zrs [1,5,26] ?_);refine Zcm ?_ ?_
 ·intro h26;replace h26:=Znb h26;have hlv1:1<=lv:=by omega
  refine z7 (z6 ?_);refine z8 fun Q3 hN3 hX3 hR3 hE3=> ?_;refine sg [1,5,31,32,33] rfl ?_;intro K hK;iterate 2 (refine Zo Zl ?_)
  refine Zd Zl (Present_spec fo ls h fo.ns.length fo.ly.length fo.cb.length lv rfl rfl rfl) (id) ?_;have hpl:=presF_len fo lv;refine Zkl hK ?_;clear hK K;refine z8 fun Q4 hN4 hX4 hR4 hE4=> ?_;refine zl (σ:=Nat) (fun i=>i<=(z1w fo lv).length) (fun i=>(z1w fo lv).length-i) (fun i=>[(1,.ptr 4 0 0 0),(5,.int .i64 lv),(31,.slc true 5 0 0 (z1w fo lv).length),(32,.int .i64 (z1w fo lv).length),(33,.int .i64 i)]) (fun i=>⟨6,[(5,rO 3 1 ((z1w fo lv).length) (ints (z1w fo lv))),(4,rV 34 4 1 (fun _=>[.slc false 0 0 0 fo.ns.length,.int .i64 fo.ht,.slc false 1 0 0 fo.ly.length,.slc false 3 0 0 fo.cb.length])),(0,rI 62 3 fo.ns.length (nds fo.ns)),(1,rI 89 5 fo.ly.length (lyR 2 fo.ly)),(2,(3*fo.ly.length+1,fam false 3 1 (lyF false fo.ly))),(3,rI 58 3 fo.cb.length (cbs fo.cb))]⟩) 0 (ql _) (ρ:=id) (Zg id) ?_;rintro i hi QL3 hL3 hRL3 hEL3;refine Zrs [1,5,31,32,33,34] (z6 ?_);refine Zcn ?_ ?_
  ·intro h34;obtain⟨_,x,hx,hxi,hxm⟩:=presF_mem.1 (show nth (z1w fo lv) i∈z1w fo lv by rw[z30 (by omega)];exact qK _);refine z7 (z6 ?_);refine z8 fun Q5 hN5 hX5 hR5 hE5=> ?_;refine Zrs [1,5,7,31,32,33] ?_;refine sg [1,5,31,32,33,42] rfl ?_;intro K hK;iterate 4 (refine Zo Zl ?_)
   refine Zd Zl (member_spec fo.ly hb hlc fo.ly.length fo.ns.length fo.cb.length rfl fo.ht (nth (z1w fo lv) i) ((lv:Int)-1)) (id) ?_;rw[show memF fo.ly (nth (z1w fo lv) i) ((lv:Int)-1)=true by rw[<-hxi];rw[<-hxi] at hxm;exact h.nest hx (by omega) (by omega) hxm];refine Zkl hK ?_;clear hK K;refine Zcm ?_ ?_
   ·intro h42
    exfalso;simp at h42
   intro h42;refine z7 (za (hN5 _ _ (Zrg [1,5,31,32,33] (za (hL3 _ _ ?_)))));rw[iS i];exact⟨i+1,⟨by omega,by omega⟩,id,(Zg id)⟩
  intro h34;refine zk (hEL3 _ _ _ (hX4 _ _ (za (hN3 _ _ (Zrg [1,5] (za (hL2 _ _ ?_)))))));rw[iS lv];exact⟨lv+1,⟨by omega,by omega⟩,id,(Zg id)⟩
 intro h26;refine zk (hEL2 _ _ _ (hX2 _ _ (Zrs [2] (zb (hQ _ _ ?_)))));exact Zoc ⟨4,[]⟩
end
end Go.Proofs
