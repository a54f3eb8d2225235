/-
  Walks and plain facts, joined: part 18 of 18.
  Conditions: those that each statement names.
-/
import Derived.Test.YtpnefndionckaaaGreatDoorRpq
import Derived.Test.YtpnefndionckaaaGreatDoorRpn
import Derived.Test.YtpnefndionckaaaGreatDoorRpc
import Derived.Test.YtpnefndionckaaaGreatDoorRph
import Derived.Test.YtpnefndionckaaaGreatDoorRpo
import Derived.Test.YtpnefndionckaaaGreatDoorRpk
import Derived.Test.YtpnefndionckaaaGreatDoorRpi
import Derived.Test.YtpnefndionckaaaGreatDoorRpg
import Derived.Test.YtpnefndionckaaaGreatDoorRpp
set_option linter.unusedSimpArgs false
set_option linter.unusedVariables false
set_option linter.defProp false
set_option maxRecDepth 4000
set_option maxHeartbeats 8000000
namespace Go.Proofs
open Tryz
open Go.Sk
section
def JrCm.exE:=aj9 @z11 @zd @zf @zo @zh @zx @z10 ec2 (aj9 @zg @zp @zm @zi z58 @zn z3g z3w (aj9 @zq ec3 ec5 @z1a.eq_1 @zu.eq_1 @ints.eq_1 ec34 ec35 (aj ec36 @Cb.sv.eq_1)))
def JrCm.gxE:=aj9 @z11 z3g ec16 z3w ec3 ec7 ec8 @z1a.eq_1 (aj7 @zu.eq_1 @z20 @z1u ec37 ec26 ec29 @Cb.sv.eq_1)
def JrCm.axE:=aj9 @z11 @zd @zf @zo @zh @zx @z10 ec2 (aj9 @zg @zp @zm @zi z58 @zn z3g z3w (aj9 @zq ec3 ec5 @z1a.eq_1 @zu.eq_1 ec34 ec35 @Cb.sv.eq_1 (aj6 @z1p @z21 @z2j @z2r ec38 @z38)))
open JrCm (gxE axE exE)
open JnNm (oxE)
open D0 (sdE)
def climbs_spec (fo:Fo)(c:Cb)(n k m:Nat)(hn:fo.ns.length=n)(hx:n<=1000000):
  zj prog 103 [.agg [.slc false 0 0 0 n,.int .i64 fo.ht,.slc false 1 0 0 k,.slc false 3 0 0 m],.agg c.sv] ⟨4,[(0,rI 62 3 n (nds fo.ns))]⟩ (fun s H1=>s= .bool (cbOk fo.ns fo.ht c)/\H1=⟨4,[]⟩):=by
 subst hn;rw[Cb.sv];refine Zf false 44 [.tmp 4] func103 ntmps103 results103 fun w0 own0 β0 Q hQ hQn=> ?_;refine Zrs [2,3] (z6 ?_);refine Zrs [2,3,9] ?_;refine Zcm ?_ ?_
 ·intro h9
  try replace h9:=Znb h9
  refine sg [4] rfl ?_;intro K hK;iterate 3 (refine Zo Zl ?_)
  refine qi (eqCb _ _ _ _ _ _) ?_;rw[eqL_cb];refine Zad ?_;refine Zkl hK ?_;clear hK K;refine zb (hQ _ _ ?_);refine Zob ⟨4,[]⟩ ?_
  exact⟨by
   have h0:c.kind=0:=by simpa using h9
   rw[cbOk,h0];simp,trivial⟩
 intro h9
 try replace h9:=Znb h9
 refine z7 (sg [2,3,6] rfl ?_);intro K hK;iterate 4 (refine Zo Zl ?_)
 refine Zd Zl (refFind_spec fo.ns c.node fo.ns.length rfl hx) (id) ?_;refine Zkl hK ?_;clear hK K;refine Zrs [4] (zb (hQ _ _ ?_));refine Zob ⟨4,[]⟩ ?_
 exact⟨by
  have h0:c.kind≠0:=by simpa using h9
  have hne:c≠noCb:=fun e=>h0 (by rw[e];rfl);rw[cbOk,qG hne,jK]
  simp only[Bool.and_assoc,Bool.and_comm,Bool.and_left_comm],trivial⟩
def newK_sent (keys:List ByteArray)(inn:List Bool){n q:Nat}(hn:keys.length=n)(hq:q<2):(cl (newK keys inn n) q).key=⟨#[]⟩:=by
 subst hn;have hlP:(z3m keys inn keys.length).length=keys.length+2:=z36 ..;obtain⟨r,f,h1,_,_⟩:=lnk2_cell (ordN keys inn keys.length) (z3m keys inn keys.length) 0 (by omega) (fun x hx=>by have:=ordN_mem hx;omega) q;rw[newK,h1,cellK_at _ _ _ (by omega),qe hq]
 rfl
def validK_sent {cs:List Cl}{ps:List Pr}(h:z1y cs ps=true):(cl cs 0).key=⟨#[]⟩/\(cl cs 1).key=⟨#[]⟩:=by
 simp only[z1y,cellsK,headBad,qj,qn,qk,qr,z5l,qm] at h;exact⟨h.2.1.1.1.2,h.2.1.1.2⟩
def FV.newSh {fo:Fo}(h:FV fo):Fsh (z2n fo.ns [] fo.cb.length fo.ht):=newF_sh h.sh.ck h.sh.sm h.sh.h0 h.sh.h16 h.sh.m1 h.sh.m8
def FV.newLen {fo:Fo}(h:FV fo):(z2n fo.ns [] fo.cb.length fo.ht).ly.length=fo.ly.length:=by rw[h.sh.len];exact qx ..
def FV.shp {fo:Fo}(h:FV fo){i:Nat}(hi:i<fo.ly.length):shpS (lyA fo.ly i) (lyA (z2n fo.ns [] fo.cb.length fo.ht).ly i)=true:=by
 have A:=h.sh.at_ i hi;have B:=h.newSh.at_ i (by rw[h.newLen];exact hi);have hs:=validK_sent (h.vb i hi);have e:lyA (z2n fo.ns [] fo.cb.length fo.ht).ly i=newLy [] fo.cb.length (shA (z37 fo.ns fo.ht.toNat) i):=lyA_new (by rw[<-h.sh.len];exact hi);have hk:∀q,q<2->(cl (lyA (z2n fo.ns [] fo.cb.length fo.ht).ly i).cs q).key=⟨#[]⟩:=fun q hq=>by rw[e];exact newK_sent _ _ (z3e _) hq
 rw[shpS,headS,A.lvl,A.wd,A.ids,A.len];have B1:(lyA (z2n fo.ns [] fo.cb.length fo.ht).ly i).lvl=(shA (z37 fo.ns fo.ht.toNat) i).1:=B.lvl;have B2:(lyA (z2n fo.ns [] fo.cb.length fo.ht).ly i).wd=(hdN (shA (z37 fo.ns fo.ht.toNat) i).2).word:=B.wd;have B3:(lyA (z2n fo.ns [] fo.cb.length fo.ht).ly i).ids=(shA (z37 fo.ns fo.ht.toNat) i).2.map (·.id):=B.ids;have B4:(lyA (z2n fo.ns [] fo.cb.length fo.ht).ly i).cs.length=(shA (z37 fo.ns fo.ht.toNat) i).2.length+2:=B.len;rw[B1,B2,B3,B4];simp only[jD,jR,Jg,qL,qn];refine z1q fun q hq=> ?_;rw[keyQ,qr,z5l,qm]
 by_cases g:q<2
 ·rw[hk q g];have:q=0\/q=1:=by omega
  rcases this with rfl|rfl
  ·exact hs.1
  exact hs.2
 obtain⟨k,rfl⟩:∃k,q=k+2:=⟨q-2,by omega⟩;rw[A.key k (by omega)];exact(B.key k (by show k<(shA (z37 fo.ns fo.ht.toNat) i).2.length;omega)).symm
def refValidM_spec (L:List Ly)(hb:lyB L)(i k:Nat)(hi:i<k):
  zj prog 102 [.agg [.slc false 0 (3*i+2) 0 (lyA L i).cs.length,.slc false 0 (3*i+3) 0 (lyA L i).ps.length]] ⟨2,[(0,(3*k+1,fam false 3 1 (lyF false L)))]⟩ (fun s H1=>s= .bool (z1y (lyA L i).cs (lyA L i).ps)/\H1=⟨2,[]⟩):=
 lyLsB L i k hi (refValid_spec (lyA L i).cs (lyA L i).ps _ _ rfl rfl (by have:=(hb.2 i).2.1;omega) (by have:=(hb.2 i).2.2;omega))
def buildR_nil (ns:List Nd)(m n:Nat)(ht:Int)(hn:ns.length=n)(hc:z1t ns=0)(m1:1<=m)(m8:m<=8)(h0:0<=ht)(h16:ht<=16):
  zj prog 52 [.slc false 0 0 0 n,.nils,.int .i64 m,.int .i64 ht] ⟨1,[(0,rI 62 3 n (nds ns))]⟩
   (fun s H1=>s= .slc true 2 0 0 (z2n ns [] m ht).ly.length/\H1=⟨4,[(2,rO 89 5 ((z2n ns [] m ht).ly.length) (lyR 3 (z2n ns [] m ht).ly)),(3,(3*(z2n ns [] m ht).ly.length+1,fam true 3 1 (lyF true (z2n ns [] m ht).ly)))]⟩):=by
 refine(buildR_spec ns [] m n 0 ht hn rfl hc m1 m8 h0 h16 (by decide)).nil (n:=1) (e:=3) (va:=false) (sz:=1) (F:=ints []) (fun id k=> ?_) (fun y hy ho=> ?_) (fun β vs hv=> ?_) (by simp[SV.ltL,SV.lt])
 ·rw[z19,z19,z19,z19]
  by_cases g:id=0
  ·subst g;rfl
  by_cases g1:id=1
  ·subst g1;rfl
  rw[qc (Qt g),qc (Qt g1),qc (Qt g),qc (Qt g1)]
 ·simp only[qv,QJ,jU] at hy;rcases hy with rfl|rfl
  ·exact qo ..
  cases ho
 obtain⟨a,l,h1,⟨b,l2,h2,h3,e2⟩,e1⟩:=hv;have h2:b= .slice none 0 0:=h2;subst h2;exact⟨a,l,h1,⟨_,l2,⟨none,0,rfl,qd _,fun h=>absurd h (jL _)⟩,h3,e2⟩,e1⟩
def refValid_ok (fo:Fo)(h:FV fo)(n k m:Nat)(hn:fo.ns.length=n)(hk:fo.ly.length=k)(hm:fo.cb.length=m):
  zj prog 64 [.agg [.slc false 0 0 0 n,.int .i64 fo.ht,.slc false 1 0 0 k,.slc false 3 0 0 m]] ⟨4,[(0,rI 62 3 n (nds fo.ns)),(1,rI 89 5 k (lyR 2 fo.ly)),(2,(3*k+1,fam false 3 1 (lyF false fo.ly))),(3,rI 58 3 m (cbs fo.cb))]⟩ (fun s H1=>s= .bool true/\H1=⟨4,[]⟩):=by
 have hb:=h.sh.lyB;have hlen:=hb.1;have h64:=h.sh.few;have hh0:=h.sh.h0;have hh16:=h.sh.h16;have hm1:=h.sh.m1;have hm8:=h.sh.m8;have hnb:=h.newSh.lyB;have hnl:=h.newLen;have hck:=h.sh.ck;subst hn hk hm;refine Zf false 98 [.tmp 2] func64 ntmps64 results64 fun w0 own0 β0 Q hQ hQn=> ?_;refine Zrs [1] (z6 ?_);refine sg [1,27] rfl ?_;intro K hK;iterate 2 (refine Zo Zl ?_)
 refine Zd Zl (refIs_spec fo.ns fo.ns.length rfl (by omega)) (id) ?_;rw[hck];iterate 4 (refine Zo Zl ?_)
 refine z13 ?_;refine z1b rfl rfl ?_;refine Zgr ?_;refine⟨fun _=> ?_,fun h=>(by cases h)⟩;refine Zo id ?_;refine Zc1 (level_spec fo.ht) (id) ?_;rw[qB hh0,qB hh16];refine Zkl hK ?_;clear hK K;refine Zcm ?_ ?_
 ·intro h27
  exfalso;simp at h27;omega
 intro h27;refine z7 (sg [1,3] rfl ?_);intro K hK;iterate 7 (refine Zo Zl ?_)
 refine Zd Zl (buildR_nil fo.ns fo.cb.length fo.ns.length fo.ht rfl hck hm1 hm8 hh0 hh16) (fun q=>if q=0 then 0 else q+3) ?_;refine Zkl hK ?_;clear hK K;refine z6 (Zrs [1,3,41] ?_);refine Zcm ?_ ?_
 ·intro h41
  exfalso;simp[hnl] at h41
 intro h41;refine z7 (z6 (Zrs [1,3,4] ?_));refine z8 fun Q0 hN0 hX0 hR0 hE0=> ?_;refine zl (σ:=Nat) (fun i=>i<=fo.ly.length) (fun i=>fo.ly.length-i) (fun i=>[(1,.ptr 4 0 0 0),(3,.slc true 6 0 0 (z2n fo.ns [] fo.cb.length fo.ht).ly.length),(4,.int .i64 i)]) (fun _=>⟨8,[(6,rO 89 5 ((z2n fo.ns [] fo.cb.length fo.ht).ly.length) (lyR 7 (z2n fo.ns [] fo.cb.length fo.ht).ly)),(7,(3*(z2n fo.ns [] fo.cb.length fo.ht).ly.length+1,fam true 3 1 (lyF true (z2n fo.ns [] fo.cb.length fo.ht).ly))),(4,rV 34 4 1 (fun _=>[.slc false 0 0 0 fo.ns.length,.int .i64 fo.ht,.slc false 1 0 0 fo.ly.length,.slc false 3 0 0 fo.cb.length])),(0,rI 62 3 fo.ns.length (nds fo.ns)),(1,rI 89 5 fo.ly.length (lyR 2 fo.ly)),(2,(3*fo.ly.length+1,fam false 3 1 (lyF false fo.ly))),(3,rI 58 3 fo.cb.length (cbs fo.cb))]⟩) 0 (ql _) (ρ:=id) (Zg id) ?_;rintro i hi QL1 hL1 hRL1 hEL1;refine z6 (Zrs [1,3,4,45] ?_);refine Zcm ?_ ?_
 ·intro h45;replace h45:=Znb h45;have hil:i<fo.ly.length:=by omega
  have hin:i<(z2n fo.ns [] fo.cb.length fo.ht).ly.length:=by omega
  have hpn:(lyA fo.ly i).ps.length=fo.cb.length:=(h.sh.at_ i hil).pn;refine z7 (z6 ?_);refine z8 fun Q1 hN1 hX1 hR1 hE1=> ?_;refine z6 ?_;refine Zrt [1,3,4,82] (.op 0 (.op 1 (.op 2 (.op 3 (.op 4 (.op 5 (.op 6 (.op 7 (.op 8 (.op 9 (.op 10 (.op 11 (.op 12 (.op 14 (.op 13 (.op 15 (.op 16 (.op 17 (.op 18 (.op 19 (.op 20 (.op 21 (.op 22 (.op 24 (.op 30 (.two 23 31 (.op 25 (.op 26 (.op 27 (.two 28 31 (.op 29 (.op 31 (.op 32 (.op 33 (.op 34 .done))))) (.op 32 (.op 28 (.op 29 (.op 33 (.op 34 .done))))))))) (.op 32 (.op 23 (.op 25 (.op 26 (.op 27 (.op 28 (.op 29 (.op 33 (.op 34 .done))))))))))))))))))))))))))))))))))) [] [] ?_;intro K hK hG
  have hk9:∀b:Bool,b=false->K [(1,.ptr 4 0 0 0),(3,.slc true 6 0 0 (z2n fo.ns [] fo.cb.length fo.ht).ly.length),(4,.int .i64 i),(82,.bool b)] ⟨8,[(6,rO 89 5 ((z2n fo.ns [] fo.cb.length fo.ht).ly.length) (lyR 7 (z2n fo.ns [] fo.cb.length fo.ht).ly)),(7,(3*(z2n fo.ns [] fo.cb.length fo.ht).ly.length+1,fam true 3 1 (lyF true (z2n fo.ns [] fo.cb.length fo.ht).ly))),(4,rV 34 4 1 (fun _=>[.slc false 0 0 0 fo.ns.length,.int .i64 fo.ht,.slc false 1 0 0 fo.ly.length,.slc false 3 0 0 fo.cb.length])),(0,rI 62 3 fo.ns.length (nds fo.ns)),(1,rI 89 5 fo.ly.length (lyR 2 fo.ly)),(2,(3*fo.ly.length+1,fam false 3 1 (lyF false fo.ly))),(3,rI 58 3 fo.cb.length (cbs fo.cb))]⟩:=by
   intro b hb9;refine hK _ _ ?_;clear hG hK K;refine Zcm ?_ ?_
   ·intro h82
    exfalso;rw[hb9] at h82;cases h82
   intro h82;refine z7 (za (hN1 _ _ (Zrg [1,3,4] (za (hL1 _ _ ?_)))));rw[iS i];exact⟨i+1,⟨by omega,by omega⟩,id,(Zg id)⟩
  iterate 9 (refine Zo (ZT [] [] []) ?_)
  refine Zd (ZT [] [] []) (sameShapeM_spec fo.ly (z2n fo.ns [] fo.cb.length fo.ht).ly hb hnb i i fo.ly.length (z2n fo.ns [] fo.cb.length fo.ht).ly.length hil hin) (fun q=>if q=0 then 2 else 7) ?_;rw[h.shp hil];iterate 8 (refine Zo (ZT [] [] []) ?_)
  refine runT_op _ [] [] [] rfl rfl rfl rfl ?_;refine z1b rfl rfl ?_;refine Zgr ?_;refine⟨fun _=> ?_,fun h=>(by cases h)⟩;refine Zo id ?_;refine Zc1 (refValidM_spec fo.ly hb i fo.ly.length hil) (fun _=>2) ?_;rw[h.vb i hil];iterate 6 (refine Zo (ZT [] [] []) ?_)
  refine z2e ?_ ?_
  ·skip
   iterate 4 (refine Zo (ZT [] [] []) ?_)
   refine z2e ?_ ?_
   ·skip
    iterate 6 (refine Zo (ZT [] [] []) ?_)
    refine z14 ?_;refine Zpr ?_;exact hG _ _ _ _ id (Zg id) (hk9 (((lyA fo.ly i).ps.length:Int) !=(fo.cb.length:Int)) (by simp[hpn]))
   skip
   iterate 6 (refine Zo (ZT [] [] []) ?_)
   refine z14 ?_;refine Zpr ?_;exact hG _ _ _ _ id (Zg id) (hk9 (((lyA fo.ly i).ps.length:Int) !=(fo.cb.length:Int)) (by simp[hpn]))
  skip
  iterate 10 (refine Zo (ZT [] [] []) ?_)
  refine z14 ?_;refine Zpr ?_;exact hG _ _ _ _ id (Zg id) (hk9 (((lyA fo.ly i).ps.length:Int) !=(fo.cb.length:Int)) (by simp[hpn]))
 intro h45;refine zk (hEL1 _ _ _ (hX0 _ _ (z6 (Zrs [1,5] ?_))));refine z8 fun Q2 hN2 hX2 hR2 hE2=> ?_;refine zl (σ:=Nat) (fun j=>j<=fo.cb.length) (fun j=>fo.cb.length-j) (fun j=>[(1,.ptr 4 0 0 0),(5,.int .i64 j)]) (fun _=>⟨8,[(6,rO 89 5 ((z2n fo.ns [] fo.cb.length fo.ht).ly.length) (lyR 7 (z2n fo.ns [] fo.cb.length fo.ht).ly)),(7,(3*(z2n fo.ns [] fo.cb.length fo.ht).ly.length+1,fam true 3 1 (lyF true (z2n fo.ns [] fo.cb.length fo.ht).ly))),(4,rV 34 4 1 (fun _=>[.slc false 0 0 0 fo.ns.length,.int .i64 fo.ht,.slc false 1 0 0 fo.ly.length,.slc false 3 0 0 fo.cb.length])),(0,rI 62 3 fo.ns.length (nds fo.ns)),(1,rI 89 5 fo.ly.length (lyR 2 fo.ly)),(2,(3*fo.ly.length+1,fam false 3 1 (lyF false fo.ly))),(3,rI 58 3 fo.cb.length (cbs fo.cb))]⟩) 0 (ql _) (ρ:=id) (Zg id) ?_;rintro j hj QL2 hL2 hRL2 hEL2;refine z6 (Zrs [1,5,87] ?_);refine Zcm ?_ ?_
 ·intro h87;replace h87:=Znb h87;have hjl:j<fo.cb.length:=by omega
  refine z7 (z6 ?_);refine z8 fun Q3 hN3 hX3 hR3 hE3=> ?_;refine z6 ?_;refine Zrd [1,5,97] [0,1,2,3,4,5,6,7] [] [] ?_;intro K hK;iterate 6 (refine Zo (Zi [] []) ?_)
  refine Zd (Zi [] []) (climbs_spec fo (cbA fo.cb j) fo.ns.length fo.ly.length fo.cb.length rfl (by omega)) (id) ?_;rw[h.cb j hjl];refine Zki hK ?_;clear hK K;refine Zcm ?_ ?_
  ·intro h97
   exfalso;cases h97
  intro h97;refine z7 (za (hN3 _ _ (Zrg [1,5] (za (hL2 _ _ ?_)))));rw[iS j];exact⟨j+1,⟨by omega,by omega⟩,id,(Zg id)⟩
 intro h87;refine zk (hEL2 _ _ _ (hX2 _ _ (Zrs [2] (zb (hQ _ _ ?_)))));exact Zoc ⟨4,[]⟩
end
section
def refStartM_spec (L:List Ly)(hb:lyB L)(i k:Nat)(hi:i<k)(p kind cell:Int):
  zj prog 104 [.agg [.slc false 0 (3*i+2) 0 (lyA L i).cs.length,.slc false 0 (3*i+3) 0 (lyA L i).ps.length],.int .i64 p,.int .i64 kind,.int .i64 cell] ⟨2,[(0,(3*k+1,fam false 3 1 (lyF false L)))]⟩
   (fun s H1=>s= .tup [lsS (z2o (lyA L i).cs (lyA L i).ps p kind cell),.int .i64 (z2t (lyA L i).cs (lyA L i).ps p kind cell)]/\H1=lsH (z2o (lyA L i).cs (lyA L i).ps p kind cell)):=by
 have hbi:=hb.2 i;refine(lyLs L i k hi (refStart_spec (lyA L i).cs (lyA L i).ps _ _ rfl rfl (by omega) (by omega) p kind cell) (by simp[SV.ltL,SV.lt]) fun π=>rfl).imp ?_;rintro s H' ⟨s0,H0',⟨rfl,rfl⟩,rfl,rfl⟩;refine⟨by simp[lsS,SV.renP,SV.renPL,memP],?_⟩;simp only[lsH,renPOs,q8,QU,z2p,z2c,uQ,rO,rI,rV,Obj.renP,z51,z3n]
def refStepM_spec (L:List Ly)(hb:lyB L)(i k:Nat)(hi:i<k)(p:Int):
  zj prog 69 [.agg [.slc false 0 (3*i+2) 0 (lyA L i).cs.length,.slc false 0 (3*i+3) 0 (lyA L i).ps.length],.int .i64 p] ⟨2,[(0,(3*k+1,fam false 3 1 (lyF false L)))]⟩
   (fun s H1=>s= .tup [lsS (stepR (lyA L i).cs (lyA L i).ps p),.bool (z5u (lyA L i).cs (lyA L i).ps p)]/\H1=lsH (stepR (lyA L i).cs (lyA L i).ps p)):=by
 have hbi:=hb.2 i;refine(lyLs L i k hi (refStepL_spec (lyA L i).cs (lyA L i).ps _ _ rfl rfl (by omega) (by omega) p) (by simp[SV.ltL,SV.lt]) fun π=>rfl).imp ?_;rintro s H' ⟨s0,H0',⟨rfl,rfl⟩,rfl,rfl⟩;refine⟨by simp[lsS,SV.renP,SV.renPL,memP],?_⟩;simp only[lsH,renPOs,q8,QU,z2p,z2c,uQ,rO,rI,rV,Obj.renP,z51,z3n]
def JrDm.exE:=aj9 @z11 @zd @zf @zo @zh @zx @z10 ec2 (aj9 @zg @zp @zm @zi z58 @zn z3g z3w (aj9 @zq ec3 ec5 @z1a.eq_1 @zu.eq_1 @ints.eq_1 ec34 ec35 (aj3 ec36 ec44 @Cb.sv.eq_1)))
def JrDm.gxE:=aj9 @z11 z3g ec16 z3w ec3 ec7 ec8 @z1a.eq_1 (aj8 @zu.eq_1 @z20 @z1u ec37 ec26 ec29 ec45 @lyW_out)
def JrDm.axE:=aj9 @z11 @zd @zf @zo @zh @zx @z10 ec2 (aj9 @zg @zp @zm @zi z58 @zn z3g z3w (aj9 @zq ec3 ec5 @z1a.eq_1 @zu.eq_1 ec34 ec35 ec44 (aj8 @Cb.sv.eq_1 @z1p @z21 @z2j @z2r ec38 @z38 @lyW_ren)))
open JrDm (gxE axE exE)
open JnNm (oxE)
open D0 (sdE)
def refBegin_ok (fo:Fo)(h:Fsh fo)(c:Cb)(n k m p:Nat)(hn:fo.ns.length=n)(hk:fo.ly.length=k)(hm:fo.cb.length=m)(hp:p<m)(hI:0<=plI fo.ly c.node c.lvl)(he:beginE fo.ly p c=0):
  zj prog 66 [.ptr 4 0 0 0,.int .i64 p,.agg c.sv] ⟨5,[(4,rV 34 4 1 (fun _=>[.slc true 0 0 0 n,.int .i64 fo.ht,.slc true 1 0 0 k,.slc true 3 0 0 m])),(0,rO 62 3 n (nds fo.ns)),(1,rO 89 5 k (lyR 2 fo.ly)),(2,(3*k+1,fam true 3 1 (lyF true fo.ly))),(3,rO 58 3 m (cbs fo.cb))]⟩
   (fun s H1=>s= .int .i64 0/\H1=⟨7,[(1,rO 89 5 k (lyW 2 fo.ly (plI fo.ly c.node c.lvl).toNat 5 6 (begR fo.ly p c))),(5,z2c (begR fo.ly p c).1),(6,z2p (begR fo.ly p c).2),(3,rO 58 3 m (cbs (fo.cb.set p c))),(4,rV 34 4 1 (fun _=>[.slc true 0 0 0 n,.int .i64 fo.ht,.slc true 1 0 0 k,.slc true 3 0 0 m])),(0,rO 62 3 n (nds fo.ns)),(2,(3*k+1,fam true 3 1 (lyF true fo.ly)))]⟩):=by
 have hb:=h.lyB;have hlen:=hb.1;subst hn hk hm;obtain⟨i,hi,hIi,hlv,q,hq,hKk,_⟩:=plI_at hI;rw[beginE,hIi,hKk,qq] at he;have hr:begR fo.ly p c=(z2o (lyA fo.ly i).cs (lyA fo.ly i).ps p c.kind ((q:Int)+2)):=by rw[begR,hIi,hKk,qq]
 rw[hr,hIi,qq,Cb.sv];refine Zf false 56 [.tmp 6] func66 ntmps66 results66 fun w0 own0 β0 Q hQ hQn=> ?_;refine Zrs [0,1,5] (z6 ?_);refine Zrd [0,1,5,7,8] [0,1,2,3,4,5,6,7,8,9,10,11,12] [] [] ?_;intro K hK;iterate 7 (refine Zo (Zi [] []) ?_)
 refine Zd (Zi [] []) (refAt_spec fo h fo.ns.length fo.ly.length fo.cb.length c.node c.lvl rfl rfl rfl) (id) ?_;rw[hIi,hKk];refine Zki hK ?_;clear hK K;refine z6 ?_;refine Zrt [0,1,5,7,9,10] (.op 0 (.op 1 (.op 2 (.op 3 (.op 4 (.op 5 (.op 6 (.op 7 (.op 8 (.op 9 (.op 10 (.op 11 (.two 12 16 (.op 13 (.op 14 (.op 15 (.op 16 (.op 17 (.op 18 .done)))))) (.op 12 (.op 13 (.op 14 (.op 15 (.op 17 (.op 18 .done))))))))))))))))))) [] [] ?_;intro K hK hG
 have hk2:K [(0,.ptr 4 0 0 0),(1,.int .i64 p),(5,.ptr 5 0 0 0),(7,.int .i64 i),(9,.ptr 8 0 0 0),(10,.int .i64 0)] ⟨9,[(8,rV 85 2 1 (fun _=>[.slc true 6 0 0 (z2o (lyA fo.ly i).cs (lyA fo.ly i).ps p c.kind ((q:Int)+2)).1.length,.slc true 7 0 0 (z2o (lyA fo.ly i).cs (lyA fo.ly i).ps p c.kind ((q:Int)+2)).2.length])),(7,z2p (z2o (lyA fo.ly i).cs (lyA fo.ly i).ps p c.kind ((q:Int)+2)).2),(6,z2c (z2o (lyA fo.ly i).cs (lyA fo.ly i).ps p c.kind ((q:Int)+2)).1),(5,rV 58 3 1 (fun _=>[.int .i64 c.kind,.int .i64 c.node,.int .i64 c.lvl])),(4,rV 34 4 1 (fun _=>[.slc true 0 0 0 fo.ns.length,.int .i64 fo.ht,.slc true 1 0 0 fo.ly.length,.slc true 3 0 0 fo.cb.length])),(1,rO 89 5 fo.ly.length (lyR 2 fo.ly)),(2,(3*fo.ly.length+1,fam true 3 1 (lyF true fo.ly))),(3,rO 58 3 fo.cb.length (cbs fo.cb)),(0,rO 62 3 fo.ns.length (nds fo.ns))]⟩:=by
  refine hK _ _ ?_;clear hG hK K;refine z6 (Zrs [0,1,5,7,9,10,39] ?_);refine Zcm ?_ ?_
  ·intro h39
   exfalso;simp at h39
  intro h39;refine z7 (z6 ?_);refine Zrd [0,1,5] [0,1,2,3,4,5,6,7,8] (ws 0 [(8,[1])]) (ws 0 [(8,[1])]) ?_;intro K hK;iterate 8 (refine Zo (Zi [] []) ?_)
  refine Zo (Zi [1] [1]) ?_;refine zz (Zpr (hK _ _ ?_));clear hK K;refine z6 ?_;refine Zrd [] [0,1,2,3,4,5,6,7] (ws 0 [(7,[3])]) (ws 0 [(7,[3])]) ?_;intro K hK;iterate 7 (refine Zo (Zi [] []) ?_)
  refine Zo (Zi [3] [3]) ?_;rw[cbs_put' _ _ _ _ _ hp];refine Zad ?_;refine zz (Zpr (hK _ _ ?_));clear hK K;refine Zrs [6] (zb (hQ _ _ ?_));exact Zos (fun x=>if x=5 then 6 else if x=6 then 7 else x) (.int .i64 0) (⟨7,[(1,rO 89 5 fo.ly.length (lyW 2 fo.ly i 5 6 (z2o (lyA fo.ly i).cs (lyA fo.ly i).ps p c.kind ((q:Int)+2)))),(5,z2c (z2o (lyA fo.ly i).cs (lyA fo.ly i).ps p c.kind ((q:Int)+2)).1),(6,z2p (z2o (lyA fo.ly i).cs (lyA fo.ly i).ps p c.kind ((q:Int)+2)).2),(3,rO 58 3 fo.cb.length (cbs (fo.cb.set p c))),(4,rV 34 4 1 (fun _=>[.slc true 0 0 0 fo.ns.length,.int .i64 fo.ht,.slc true 1 0 0 fo.ly.length,.slc true 3 0 0 fo.cb.length])),(0,rO 62 3 fo.ns.length (nds fo.ns)),(2,(3*fo.ly.length+1,fam true 3 1 (lyF true fo.ly)))]⟩)
 iterate 12 (refine Zo (ZT [] [] []) ?_)
 refine z2e ?_ ?_
 ·skip
  refine Zd (ZT [] [] []) (refStartM_spec fo.ly hb i fo.ly.length hi p c.kind ((q:Int)+2)) (fun x=>if x=0 then 2 else 0) ?_;rw[he];iterate 3 (refine Zo (ZT [] [] []) ?_)
  refine Zo (ZT [] [] [8]) ?_;refine Zo (ZT [8] [] [8]) ?_;refine Zo (ZT [8] [] [8]) ?_;refine z14 ?_;refine Zpr ?_;exact hG _ _ _ _ id (Zg id) hk2
 skip
 refine Zo (ZT [] [] [6]) ?_;refine Zd (ZT [6] [] [6]) (refStartM_spec fo.ly hb i fo.ly.length hi p c.kind ((q:Int)+2)) (fun x=>if x=0 then 2 else 0) ?_;rw[he];iterate 5 (refine Zo (ZT [6] [] [6]) ?_)
 refine z14 ?_;refine Zpr ?_;exact hG _ _ _ _ (fun x=>if x=6 then 7 else if x=7 then 8 else if x=8 then 6 else x) (Zg (fun x=>if x=6 then 7 else if x=7 then 8 else if x=8 then 6 else x)) hk2
end
section
def FI.fv {fo:Fo}{ls:Nat->List Int}(h:FI fo ls):FV fo:=⟨h.sh,fun i hi=>(h.inv i hi).vb,h.clm⟩
def JrEm.gxE:=aj9 @z11 z3g ec16 z3w ec3 ec7 ec8 @z1a.eq_1 (aj9 @zu.eq_1 @z20 @z1u ec37 ec26 ec29 ec45 @lyW_out (aj4 @fam0_rowK @nfS.eq_1 @nfH.eq_1 @Cb.sv.eq_1))
open JrEm (gxE)
open JrDm (axE exE)
open JnNm (oxE)
open D0 (sdE)
def refStart_specF (fo:Fo)(ls:Nat->List Int)(h:FI fo ls)(n k m:Nat)(p kind v:Int)(hn:fo.ns.length=n)(hk:fo.ly.length=k)(hm:fo.cb.length=m):
  zj prog 26 [.agg [.slc false 0 0 0 n,.int .i64 fo.ht,.slc false 1 0 0 k,.slc false 3 0 0 m],.int .i64 p,.int .i64 kind,.int .i64 v] ⟨4,[(0,rI 62 3 n (nds fo.ns)),(1,rI 89 5 k (lyR 2 fo.ly)),(2,(3*k+1,fam false 3 1 (lyF false fo.ly))),(3,rI 58 3 m (cbs fo.cb))]⟩
   (fun s H1=>s= .tup [.agg [.slc true 4 0 0 (z12 fo p kind v).ns.length,.int .i64 (z12 fo p kind v).ht,.slc true 5 0 0 (z12 fo p kind v).ly.length,.slc true 7 0 0 (z12 fo p kind v).cb.length],.int .i64 (z1n fo p kind v)]/\H1=⟨8,[(4,rO 62 3 ((z12 fo p kind v).ns.length) (nds (z12 fo p kind v).ns)),(5,rO 89 5 ((z12 fo p kind v).ly.length) (lyR 6 (z12 fo p kind v).ly)),(6,(3*(z12 fo p kind v).ly.length+1,fam true 3 1 (lyF true (z12 fo p kind v).ly))),(7,rO 58 3 ((z12 fo p kind v).cb.length) (cbs (z12 fo p kind v).cb))]⟩):=by
 have hb:=h.sh.lyB;have hx64:=h.sh.few;have hx8:=h.sh.m8;have hh0:=h.sh.h0;have hh16:=h.sh.h16;have hvf:=h.vf;subst hn hk hm;refine Zf false 118 [.cell 8 34,.tmp 9] func26 ntmps26 results26 fun w0 own0 β0 Q hQ hQn=> ?_;refine Zrs [1,2,3,4,8] (z6 ?_);refine sg [1,2,3,4,8,18] rfl ?_;intro K hK;refine Zo Zl ?_;refine Zd Zl (refValid_ok fo h.fv fo.ns.length fo.ly.length fo.cb.length rfl rfl rfl) (id) ?_;refine Zkl hK ?_;clear hK K;refine Zcm ?_ ?_
 ·intro h18
  exfalso;simp at h18
 intro h18;refine z7 (z6 (Zrs [1,2,3,4,8,28] ?_));refine Zcm ?_ ?_
 ·intro h28;have g27:inC fo.cb p=false:=by rw[inC,h28];rfl
  refine Zrs [8,9] ?_;refine z29 3 1 (lyF true []) ?_;dsimp only;refine z3t 5 0 62 3 (nds []) (h:= ?_);refine z3t 5 2 89 5 (lyR 6 []) (h:= ?_);refine z3t 5 3 58 3 (cbs []) (h:= ?_);refine zb (hQ _ _ ?_)
  have hE:z1n fo p kind v=2:=by
   rw[z1n,hvf,qc (by decide),qe (by rw[g27];rfl)]
  have hR:z12 fo p kind v=noFo:=by rw[z12,hE,qc (by decide)]
  rw[hE,hR];exact Zos (fun x=>if x=4 then 7 else if x=5 then 8 else if x=6 then 6 else if x=7 then 9 else x) (nfS 2) (nfH)
 intro h28;have g27:inC fo.cb p=true:=by rw[inC,h28];rfl
 have g27':=inC_iff.1 g27;refine z7 (z6 (sg [1,2,3,4,8,11] rfl ?_));intro K hK;iterate 3 (refine Zo Zl ?_)
 refine Zd Zl (refFind_spec fo.ns v fo.ns.length rfl (by omega)) (id) ?_;refine Zkl hK ?_;clear hK K;refine Zrs [1,2,3,4,8,38] ?_;refine Zcm ?_ ?_
 ·intro h38;have g40:findI fo.ns v<0:=by simpa using h38
  refine Zrs [8,9] ?_;refine z29 3 1 (lyF true []) ?_;dsimp only;refine z3t 5 0 62 3 (nds []) (h:= ?_);refine z3t 5 2 89 5 (lyR 7 []) (h:= ?_);refine z3t 5 3 58 3 (cbs []) (h:= ?_);refine zb (hQ _ _ ?_)
  have hE:z1n fo p kind v=6:=by
   rw[z1n,hvf,qc (by decide),qc (by rw[g27];decide),qe g40]
  have hR:z12 fo p kind v=noFo:=by rw[z12,hE,qc (by decide)]
  rw[hE,hR];exact Zos (fun x=>if x=4 then 8 else if x=5 then 9 else if x=6 then 7 else if x=7 then 10 else x) (nfS 6) (nfH)
 intro h38;have g40:¬findI fo.ns v<0:=by simpa using h38
 refine z7 (z6 (Zrs [1,2,3,4,8,45] ?_));refine Zcm ?_ ?_
 ·intro h45;have g44:kind≠1/\kind≠2:=by simpa using h45
  refine Zrs [8,9] ?_;refine z29 3 1 (lyF true []) ?_;dsimp only;refine z3t 5 0 62 3 (nds []) (h:= ?_);refine z3t 5 2 89 5 (lyR 7 []) (h:= ?_);refine z3t 5 3 58 3 (cbs []) (h:= ?_);refine zb (hQ _ _ ?_)
  have hE:z1n fo p kind v=1:=by
   rw[z1n,hvf,qc (by decide),qc (by rw[g27];decide),qc g40,qe g44]
  have hR:z12 fo p kind v=noFo:=by rw[z12,hE,qc (by decide)]
  rw[hE,hR];exact Zos (fun x=>if x=4 then 8 else if x=5 then 9 else if x=6 then 7 else if x=7 then 10 else x) (nfS 1) (nfH)
 intro h45
 have g44:¬(kind≠1/\kind≠2):=by
  intro g;rw[show(kind !=1 && kind !=2)=true by simpa using g] at h45;cases h45
 refine z7 (z6 (Zrs [1,2,3,4,8,53] ?_));refine Zcm ?_ ?_
 ·intro h53;have g52:(cbA fo.cb p.toNat).kind≠0:=by simpa using h53
  refine Zrs [8,9] ?_;refine z29 3 1 (lyF true []) ?_;dsimp only;refine z3t 5 0 62 3 (nds []) (h:= ?_);refine z3t 5 2 89 5 (lyR 7 []) (h:= ?_);refine z3t 5 3 58 3 (cbs []) (h:= ?_);refine zb (hQ _ _ ?_)
  have hE:z1n fo p kind v=7:=by
   rw[z1n,hvf,qc (by decide),qc (by rw[g27];decide),qc g40,qc g44,qe g52]
  have hR:z12 fo p kind v=noFo:=by rw[z12,hE,qc (by decide)]
  rw[hE,hR];exact Zos (fun x=>if x=4 then 8 else if x=5 then 9 else if x=6 then 7 else if x=7 then 10 else x) (nfS 7) (nfH)
 intro h53;have g52:¬(cbA fo.cb p.toNat).kind≠0:=by simpa using h53
 refine z7 (z6 (Zrs [1,2,3,4,8,12] ?_));refine z8 fun Q0 hN0 hX0 hR0 hE0=> ?_;refine zl (σ:=Nat) (fun i=>i<=fo.cb.length/\∀q,q<i->((cbA fo.cb q).kind !=0 && (cbA fo.cb q).node==v)=false) (fun i=>fo.cb.length-i) (fun i=>[(1,.int .i64 p),(2,.int .i64 kind),(3,.int .i64 v),(4,.ptr 4 0 0 0),(8,.ptr 5 0 0 0),(12,.int .i64 i)]) (fun _=>⟨7,[(6,rV 62 3 1 (fun _=>[.int .i64 (z3s fo.ns v).id,.str (z3s fo.ns v).key,.int .u32 (z3s fo.ns v).word])),(5,rV 34 4 1 (fun _=>[.nils,.int .i64 0,.nils,.nils])),(4,rV 34 4 1 (fun _=>[.slc false 0 0 0 fo.ns.length,.int .i64 fo.ht,.slc false 1 0 0 fo.ly.length,.slc false 3 0 0 fo.cb.length])),(0,rI 62 3 fo.ns.length (nds fo.ns)),(1,rI 89 5 fo.ly.length (lyR 2 fo.ly)),(2,(3*fo.ly.length+1,fam false 3 1 (lyF false fo.ly))),(3,rI 58 3 fo.cb.length (cbs fo.cb))]⟩) 0 ⟨ql _,fun q hq=>absurd hq (qI _)⟩ (ρ:=id) (Zg id) ?_;rintro i hi QL1 hL1 hRL1 hEL1;refine z6 (Zrs [1,2,3,4,8,12,59] ?_);refine Zcn ?_ ?_
 ·intro h59;have hil:i<fo.cb.length:=by omega
  refine z7 (z6 ?_);refine z8 fun Q1 hN1 hX1 hR1 hE1=> ?_;refine Zrs [1,2,3,4,8,12,78] ?_;refine Zcm ?_ ?_
  ·intro h78;have g61:busyF fo.cb v=true:=z3l hil h78;refine Zrs [8,9] ?_;refine z29 3 1 (lyF true []) ?_;dsimp only;refine z3t 5 0 62 3 (nds []) (h:= ?_);refine z3t 5 2 89 5 (lyR 7 []) (h:= ?_);refine z3t 5 3 58 3 (cbs []) (h:= ?_);refine zb (hR1 _ _ (hRL1 _ _ (hR0 _ _ (hQ _ _ ?_))))
   have hE:z1n fo p kind v=13:=by
    rw[z1n,hvf,qc (by decide),qc (by rw[g27];decide),qc g40,qc g44,qc g52,qe g61]
   have hR:z12 fo p kind v=noFo:=by rw[z12,hE,qc (by decide)]
   rw[hE,hR];exact Zos (fun x=>if x=4 then 8 else if x=5 then 9 else if x=6 then 7 else if x=7 then 10 else x) (nfS 13) (nfH)
  intro h78;refine z7 (za (hN1 _ _ (Zrg [1,2,3,4,8,12] (za (hL1 _ _ ?_)))));rw[iS i];refine⟨i+1,⟨⟨by omega,fun q hq=> ?_⟩,by omega⟩,id,(Zg id)⟩
  by_cases e:q=i
  ·subst e;exact h78
  exact hi.2 q (by omega)
 intro h59;have g61:busyF fo.cb v=false:=z1q fun q hq=>hi.2 q (by omega);refine zk (hEL1 _ _ _ (hX0 _ _ (Zrs [1,2,3,4,8,13] (z6 ?_))));refine z8 fun Q2 hN2 hX2 hR2 hE2=> ?_;refine sg [1,2,3,4,8,13,83] rfl ?_;intro K hK
 have hk18:∀B:Bool,B=(kind==1 && memF fo.ly v 0)->K [(1,.int .i64 p),(2,.int .i64 kind),(3,.int .i64 v),(4,.ptr 4 0 0 0),(8,.ptr 5 0 0 0),(13,.ptr 7 0 0 0),(83,.bool B)] ⟨8,[(7,rV 58 3 1 (fun _=>[.int .i64 kind,.int .i64 v,.int .i64 0])),(6,rV 62 3 1 (fun _=>[.int .i64 (z3s fo.ns v).id,.str (z3s fo.ns v).key,.int .u32 (z3s fo.ns v).word])),(5,rV 34 4 1 (fun _=>[.nils,.int .i64 0,.nils,.nils])),(4,rV 34 4 1 (fun _=>[.slc false 0 0 0 fo.ns.length,.int .i64 fo.ht,.slc false 1 0 0 fo.ly.length,.slc false 3 0 0 fo.cb.length])),(0,rI 62 3 fo.ns.length (nds fo.ns)),(1,rI 89 5 fo.ly.length (lyR 2 fo.ly)),(2,(3*fo.ly.length+1,fam false 3 1 (lyF false fo.ly))),(3,rI 58 3 fo.cb.length (cbs fo.cb))]⟩:=by
  intro B hB;subst hB;refine hK _ _ ?_;clear hK K;refine Zcm ?_ ?_
  ·intro h83;have g64:kind=1/\memF fo.ly v 0=true:=by simpa using h83
   refine Zrs [8,9] ?_;refine z29 3 1 (lyF true []) ?_;dsimp only;refine z3t 5 0 62 3 (nds []) (h:= ?_);refine z3t 5 2 89 5 (lyR 8 []) (h:= ?_);refine z3t 5 3 58 3 (cbs []) (h:= ?_);refine zb (hR2 _ _ (hQ _ _ ?_))
   have hE:z1n fo p kind v=5:=by
    rw[z1n,hvf,qc (by decide),qc (by rw[g27];decide),qc g40,qc g44,qc g52,qc (by rw[g61];decide),qe g64]
   have hR:z12 fo p kind v=noFo:=by rw[z12,hE,qc (by decide)]
   rw[hE,hR];exact Zos (fun x=>if x=4 then 9 else if x=5 then 10 else if x=6 then 8 else if x=7 then 11 else x) (nfS 5) (nfH)
  intro h83;have g64:¬(kind=1/\memF fo.ly v 0=true):=by simpa using h83
  refine sg [1,2,4,8,13,92] rfl ?_;intro K hK
  have hk20:∀B:Bool,B=(kind==2 && !memF fo.ly v 0)->K [(1,.int .i64 p),(2,.int .i64 kind),(4,.ptr 4 0 0 0),(8,.ptr 5 0 0 0),(13,.ptr 7 0 0 0),(92,.bool B)] ⟨8,[(7,rV 58 3 1 (fun _=>[.int .i64 kind,.int .i64 v,.int .i64 0])),(6,rV 62 3 1 (fun _=>[.int .i64 (z3s fo.ns v).id,.str (z3s fo.ns v).key,.int .u32 (z3s fo.ns v).word])),(5,rV 34 4 1 (fun _=>[.nils,.int .i64 0,.nils,.nils])),(4,rV 34 4 1 (fun _=>[.slc false 0 0 0 fo.ns.length,.int .i64 fo.ht,.slc false 1 0 0 fo.ly.length,.slc false 3 0 0 fo.cb.length])),(0,rI 62 3 fo.ns.length (nds fo.ns)),(1,rI 89 5 fo.ly.length (lyR 2 fo.ly)),(2,(3*fo.ly.length+1,fam false 3 1 (lyF false fo.ly))),(3,rI 58 3 fo.cb.length (cbs fo.cb))]⟩:=by
   intro B hB;subst hB;refine hK _ _ ?_;clear hK K;refine Zcm ?_ ?_
   ·intro h92;have g73:kind=2/\memF fo.ly v 0=false:=by simpa using h92
    refine Zrs [8,9] ?_;refine z29 3 1 (lyF true []) ?_;dsimp only;refine z3t 5 0 62 3 (nds []) (h:= ?_);refine z3t 5 2 89 5 (lyR 8 []) (h:= ?_);refine z3t 5 3 58 3 (cbs []) (h:= ?_);refine zb (hR2 _ _ (hQ _ _ ?_))
    have hE:z1n fo p kind v=18:=by
     rw[z1n,hvf,qc (by decide),qc (by rw[g27];decide),qc g40,qc g44,qc g52,qc (by rw[g61];decide),qc g64,qe g73]
    have hR:z12 fo p kind v=noFo:=by rw[z12,hE,qc (by decide)]
    rw[hE,hR];exact Zos (fun x=>if x=4 then 9 else if x=5 then 10 else if x=6 then 8 else if x=7 then 11 else x) (nfS 18) (nfH)
   intro h92;have g73:¬(kind=2/\memF fo.ly v 0=false):=by simpa using h92
   obtain⟨x,s⟩:∃x,Sok fo p kind v x:=by
    obtain⟨x,hx,hxi⟩:=findI_mem (show 0<=findI fo.ns v by omega);refine⟨x,g27'.1,by omega,by omega,hx,hxi,by omega,by simpa using g61,?_⟩;have gk:kind=1\/kind=2:=by omega
    rcases gk with e|e<;>subst e
    ·cases hm:memF fo.ly v 0 with
     |false=>rfl
     |true=>exact absurd ⟨rfl,hm⟩ g64
    cases hm:memF fo.ly v 0 with
    |true=>rfl
    |false=>exact absurd ⟨rfl,hm⟩ g73
   obtain⟨hB,_⟩:=h.start_begin s
   have hE:z1n fo p kind v=0:=by
    rw[z1n,hvf,qc (by decide),qc (by rw[g27];decide),qc g40,qc g44,qc g52,qc (by rw[g61];decide),qc g64,qc g73,hB]
   have hR:z12 fo p kind v={fo with ly:=beginL fo.ly p (begC fo.ht kind v),cb:=fo.cb.set p.toNat (begC fo.ht kind v)}:=by rw[z12,qe hE]
   have hpl:=s.pl;obtain⟨P,hP⟩:∃P:Nat,p=P:=⟨p.toNat,by have:=s.p0;omega⟩;have hPe:=hP;rw[hP] at hpl hB hR hE;rw[qq] at hpl hR
   have hgo:0<=plI fo.ly (begC fo.ht kind v).node (begC fo.ht kind v).lvl:=by
    obtain⟨i,k,a⟩:=h.sh.place s.mm (lv:=(begC fo.ht kind v).lvl) (by unfold begC;dsimp only;split<;>omega) (by unfold begC;dsimp only;split<;>omega);have:=a.pI;rw[s.ide] at this;rw[show(begC fo.ht kind v).node=v from rfl,this];omega
   refine Zrs [1,4,8,13,102] ?_;refine Zcm ?_ ?_
   ·intro h102
    try replace h102:=Znb h102
    refine Zrg [1,4,8,13] (za (hN2 _ _ ?_));refine sg [1,8,13,14] rfl ?_;intro K hK;refine Zo Zl ?_;refine Zd Zl (refCopy_specF fo hb fo.ns.length fo.ly.length fo.cb.length rfl rfl rfl (by omega) (by omega)) (id) ?_;refine Zkl hK ?_;clear hK K;refine z6 (sg [8,14,15] rfl ?_);intro K hK;iterate 3 (refine Zo Zl ?_)
    have hce:(⟨kind,v,fo.ht⟩:Cb)=begC fo.ht kind v:=by rw[begC,qe (by simpa using h102)]
    rw[hPe];refine Zc1 (refBegin_ok fo h.sh (⟨kind,v,fo.ht⟩:Cb) fo.ns.length fo.ly.length fo.cb.length P rfl rfl rfl hpl (by rw[hce];exact hgo) (by rw[hce];exact hB)) (fun x=>x+8) ?_;rw[hce,show plI fo.ly v fo.ht=plI fo.ly (begC fo.ht kind v).node (begC fo.ht kind v).lvl from by rw[<-hce]];refine Zkl hK ?_;clear hK K;refine Zrs [8,14,15,114] ?_;refine Zcm ?_ ?_
    ·intro h114
     exfalso;simp at h114
    intro h114;refine z7 (z6 ?_);obtain⟨C2,hC2'⟩:∃C2,fo.cb.set P (begC fo.ht kind v)=C2:=⟨_,rfl⟩;have hC2l:C2.length=fo.cb.length:=by rw[<-hC2',qy]
    rw[hC2'];obtain⟨I,hIe⟩:∃I,(plI fo.ly (begC fo.ht kind v).node (begC fo.ht kind v).lvl).toNat=I:=⟨_,rfl⟩;obtain⟨R,hRe⟩:∃R,begR fo.ly (P:Int) (begC fo.ht kind v)=R:=⟨_,rfl⟩;have hUp:=begR_eq hB;rw[hIe,hRe] at hUp;rw[hIe,hRe];have hout:∀q,q<fo.ly.length->lyW 10 fo.ly I 13 14 R q=SV.renPL (mvM (fun x=>x) 10 (ms2 I 13 14)) (lyR 10 (upL fo.ly I R.1 R.2) q):=fun q hq=>lyW_M2 10 fo.ly I 13 14 R q hq;refine z2y (fr':=[(8,.ptr 5 0 0 0),(14,.ptr 12 0 0 0)]) (H':=⟨13,[(12,rV 34 4 1 (fun _=>[.slc true 8 0 0 fo.ns.length,.int .i64 fo.ht,.slc true 9 0 0 fo.ly.length,.slc true 11 0 0 fo.cb.length])),(9,rO 89 5 fo.ly.length (lyR 10 (upL fo.ly I R.1 R.2))),(10,(3*fo.ly.length+1,fam true 3 1 (lyF true (upL fo.ly I R.1 R.2)))),(11,rO 58 3 fo.cb.length (cbs C2)),(8,rO 62 3 fo.ns.length (nds fo.ns)),(5,rV 34 4 1 (fun _=>[.nils,.int .i64 0,.nils,.nils]))]⟩) _ (Zgm (fun x=>x) (10) (ms2 I 13 14) (ms2_ok _ (by decide) ⟨rfl,rfl⟩ ⟨qb rfl,qb rfl⟩) ((zc (by decide) rfl qf (ze.of (fun _=>⟨rfl,rfl⟩) rfl (qd _) (fun _ _=>rfl)) (Obj.lt_row.2 fun q _=>by simp[SV.ltL,SV.lt]) (qb rfl) (zc (by decide) rfl qf (ze.of (fun _=>⟨rfl,rfl⟩) rfl (qd _) (hout)) (Obj.lt_row.2 fun q _=>(z67 _ _ _ q).2 (qb rfl)) (qb rfl) (lyF_consU (r:=R) rfl rfl rfl (qb rfl) (zc (by decide) rfl qf (ze.of (fun _=>⟨rfl,rfl⟩) rfl (qd _) (fun q _=>(z4j _ _ q).symm)) (Obj.lt_row.2 fun q _=>cbs_lt _ _ q) (qb rfl) (zc (by decide) rfl qf (ze.of (fun _=>⟨rfl,rfl⟩) rfl (qd _) (fun q _=>(z28 _ _ q).symm)) (Obj.lt_row.2 fun q _=>z4e _ _ q) (qb rfl) (zc (by decide) rfl qf (ze.of (fun _=>⟨rfl,rfl⟩) rfl (qd _) (fun _ _=>rfl)) (Obj.lt_row.2 fun q _=>by simp[SV.ltL,SV.lt]) (qb rfl) trivial)))))))) ?_
    refine Zrg [8,9] (zb (hQ _ _ ?_));rw[hP,hE,hR];dsimp only;rw[hC2',<-hUp,z40,hC2l];exact Zos (fun x=>if x=4 then 8 else if x=5 then 9 else if x=6 then 10 else if x=7 then 11 else x) (.tup [.agg [.slc true 4 0 0 fo.ns.length,.int .i64 fo.ht,.slc true 5 0 0 fo.ly.length,.slc true 7 0 0 fo.cb.length],.int .i64 0]) (⟨8,[(4,rO 62 3 fo.ns.length (nds fo.ns)),(5,rO 89 5 fo.ly.length (lyR 6 (upL fo.ly I R.1 R.2))),(6,(3*fo.ly.length+1,fam true 3 1 (lyF true (upL fo.ly I R.1 R.2)))),(7,rO 58 3 fo.cb.length (cbs C2))]⟩)
   intro h102
   try replace h102:=Znb h102
   refine z7 (za (hN2 _ _ (sg [1,8,13,14] rfl ?_)));intro K hK;refine Zo Zl ?_;refine Zd Zl (refCopy_specF fo hb fo.ns.length fo.ly.length fo.cb.length rfl rfl rfl (by omega) (by omega)) (id) ?_;refine Zkl hK ?_;clear hK K;refine z6 (sg [8,14,15] rfl ?_);intro K hK;iterate 3 (refine Zo Zl ?_)
   have hce:(⟨kind,v,0⟩:Cb)=begC fo.ht kind v:=by rw[begC,qc (by simpa using h102)]
   rw[hPe];refine Zc1 (refBegin_ok fo h.sh (⟨kind,v,0⟩:Cb) fo.ns.length fo.ly.length fo.cb.length P rfl rfl rfl hpl (by rw[hce];exact hgo) (by rw[hce];exact hB)) (fun x=>x+8) ?_;rw[hce,show plI fo.ly v 0=plI fo.ly (begC fo.ht kind v).node (begC fo.ht kind v).lvl from by rw[<-hce]];refine Zkl hK ?_;clear hK K;refine Zrs [8,14,15,114] ?_;refine Zcm ?_ ?_
   ·intro h114
    exfalso;simp at h114
   intro h114;refine z7 (z6 ?_);obtain⟨C2,hC2'⟩:∃C2,fo.cb.set P (begC fo.ht kind v)=C2:=⟨_,rfl⟩;have hC2l:C2.length=fo.cb.length:=by rw[<-hC2',qy]
   rw[hC2'];obtain⟨I,hIe⟩:∃I,(plI fo.ly (begC fo.ht kind v).node (begC fo.ht kind v).lvl).toNat=I:=⟨_,rfl⟩;obtain⟨R,hRe⟩:∃R,begR fo.ly (P:Int) (begC fo.ht kind v)=R:=⟨_,rfl⟩;have hUp:=begR_eq hB;rw[hIe,hRe] at hUp;rw[hIe,hRe];have hout:∀q,q<fo.ly.length->lyW 10 fo.ly I 13 14 R q=SV.renPL (mvM (fun x=>x) 10 (ms2 I 13 14)) (lyR 10 (upL fo.ly I R.1 R.2) q):=fun q hq=>lyW_M2 10 fo.ly I 13 14 R q hq;refine z2y (fr':=[(8,.ptr 5 0 0 0),(14,.ptr 12 0 0 0)]) (H':=⟨13,[(12,rV 34 4 1 (fun _=>[.slc true 8 0 0 fo.ns.length,.int .i64 fo.ht,.slc true 9 0 0 fo.ly.length,.slc true 11 0 0 fo.cb.length])),(9,rO 89 5 fo.ly.length (lyR 10 (upL fo.ly I R.1 R.2))),(10,(3*fo.ly.length+1,fam true 3 1 (lyF true (upL fo.ly I R.1 R.2)))),(11,rO 58 3 fo.cb.length (cbs C2)),(8,rO 62 3 fo.ns.length (nds fo.ns)),(5,rV 34 4 1 (fun _=>[.nils,.int .i64 0,.nils,.nils]))]⟩) _ (Zgm (fun x=>x) (10) (ms2 I 13 14) (ms2_ok _ (by decide) ⟨rfl,rfl⟩ ⟨qb rfl,qb rfl⟩) ((zc (by decide) rfl qf (ze.of (fun _=>⟨rfl,rfl⟩) rfl (qd _) (fun _ _=>rfl)) (Obj.lt_row.2 fun q _=>by simp[SV.ltL,SV.lt]) (qb rfl) (zc (by decide) rfl qf (ze.of (fun _=>⟨rfl,rfl⟩) rfl (qd _) (hout)) (Obj.lt_row.2 fun q _=>(z67 _ _ _ q).2 (qb rfl)) (qb rfl) (lyF_consU (r:=R) rfl rfl rfl (qb rfl) (zc (by decide) rfl qf (ze.of (fun _=>⟨rfl,rfl⟩) rfl (qd _) (fun q _=>(z4j _ _ q).symm)) (Obj.lt_row.2 fun q _=>cbs_lt _ _ q) (qb rfl) (zc (by decide) rfl qf (ze.of (fun _=>⟨rfl,rfl⟩) rfl (qd _) (fun q _=>(z28 _ _ q).symm)) (Obj.lt_row.2 fun q _=>z4e _ _ q) (qb rfl) (zc (by decide) rfl qf (ze.of (fun _=>⟨rfl,rfl⟩) rfl (qd _) (fun _ _=>rfl)) (Obj.lt_row.2 fun q _=>by simp[SV.ltL,SV.lt]) (qb rfl) trivial)))))))) ?_
   refine Zrg [8,9] (zb (hQ _ _ ?_));rw[hP,hE,hR];dsimp only;rw[hC2',<-hUp,z40,hC2l];exact Zos (fun x=>if x=4 then 8 else if x=5 then 9 else if x=6 then 10 else if x=7 then 11 else x) (.tup [.agg [.slc true 4 0 0 fo.ns.length,.int .i64 fo.ht,.slc true 5 0 0 fo.ly.length,.slc true 7 0 0 fo.cb.length],.int .i64 0]) (⟨8,[(4,rO 62 3 fo.ns.length (nds fo.ns)),(5,rO 89 5 fo.ly.length (lyR 6 (upL fo.ly I R.1 R.2))),(6,(3*fo.ly.length+1,fam true 3 1 (lyF true (upL fo.ly I R.1 R.2)))),(7,rO 58 3 fo.cb.length (cbs C2))]⟩)
  iterate 5 (refine Zo Zl ?_)
  refine z13 ?_;refine z1b rfl rfl ?_;refine Zgr ?_
  first|refine z15 ?_ ?_|refine(fun(h1:false=true->_) (h2:false=false->_)=>qi h1 fun _=>h2 rfl) ?_ ?_|refine qi ?_ ?_
  ·intro hg5
   first
    |(simp at hg5;done)
    |skip
     try replace hg5:=Znb hg5
     refine Zo id ?_;refine Zc1 (refIn_spec fo h.sh fo.ns.length fo.ly.length fo.cb.length v 0 rfl rfl rfl) (id) ?_;iterate 3 (refine Zo Zl ?_)
     refine zr ?_;refine Zpr ?_;refine hk20 _ ?_;clear hk20 K hK;simp_all
  intro hg5;refine⟨.bool false,?_⟩
  first
   |(simp at hg5;done)
   |skip
    try replace hg5:=Znb hg5
    iterate 3 (refine Zo Zl ?_)
    refine zr ?_;refine Zpr ?_;refine hk20 _ ?_;clear hk20 K hK;simp_all
 iterate 5 (refine Zo Zl ?_)
 refine z13 ?_;refine z1b rfl rfl ?_;refine Zgr ?_
 first|refine z15 ?_ ?_|refine(fun(h1:false=true->_) (h2:false=false->_)=>qi h1 fun _=>h2 rfl) ?_ ?_|refine qi ?_ ?_
 ·intro hg5
  first
   |(simp at hg5;done)
   |skip
    try replace hg5:=Znb hg5
    refine Zo id ?_;refine Zc1 (refIn_spec fo h.sh fo.ns.length fo.ly.length fo.cb.length v 0 rfl rfl rfl) (id) ?_;iterate 2 (refine Zo Zl ?_)
    refine zr ?_;refine Zpr ?_;refine hk18 _ ?_;clear hk18 K hK;simp_all
 intro hg5;refine⟨.bool false,?_⟩
 first
  |(simp at hg5;done)
  |skip
   try replace hg5:=Znb hg5
   iterate 2 (refine Zo Zl ?_)
   refine zr ?_;refine Zpr ?_;refine hk18 _ ?_;clear hk18 K hK;simp_all
end
section
def JrFm.gxE:=aj9 @z11 z3g ec16 z3w ec3 ec7 ec8 @z1a.eq_1 (aj9 @zu.eq_1 @z20 @z1u ec37 ec26 ec29 ec45 @lyW_out @Cb.sv.eq_1)
open JrFm (gxE)
open JrDm (axE exE)
open JnNm (oxE)
open D0 (sdE)
def refStep_specF (fo:Fo)(ls:Nat->List Int)(h:FI fo ls)(n k m:Nat)(p:Int)(hn:fo.ns.length=n)(hk:fo.ly.length=k)(hm:fo.cb.length=m):
  zj prog 28 [.agg [.slc false 0 0 0 n,.int .i64 fo.ht,.slc false 1 0 0 k,.slc false 3 0 0 m],.int .i64 p] ⟨4,[(0,rI 62 3 n (nds fo.ns)),(1,rI 89 5 k (lyR 2 fo.ly)),(2,(3*k+1,fam false 3 1 (lyF false fo.ly))),(3,rI 58 3 m (cbs fo.cb))]⟩
   (fun s H1=>s= .tup [.agg [.slc true 4 0 0 (z27 fo p).ns.length,.int .i64 (z27 fo p).ht,.slc true 5 0 0 (z27 fo p).ly.length,.slc true 7 0 0 (z27 fo p).cb.length],.bool (z6a fo p)]/\H1=⟨8,[(4,rO 62 3 ((z27 fo p).ns.length) (nds (z27 fo p).ns)),(5,rO 89 5 ((z27 fo p).ly.length) (lyR 6 (z27 fo p).ly)),(6,(3*(z27 fo p).ly.length+1,fam true 3 1 (lyF true (z27 fo p).ly))),(7,rO 58 3 ((z27 fo p).cb.length) (cbs (z27 fo p).cb))]⟩):=by
 have hb:=h.sh.lyB;have hx64:=h.sh.few;have hx8:=h.sh.m8;have hh0:=h.sh.h0;have hh16:=h.sh.h16;subst hn hk hm;refine Zf false 116 [.cell 4 34,.tmp 5] func28 ntmps28 results28 fun w0 own0 β0 Q hQ hQn=> ?_;refine Zrs [1,2,4] (z6 ?_);refine sg [1,2,4,14] rfl ?_;intro K hK;refine Zo Zl ?_;refine Zd Zl (refValid_ok fo h.fv fo.ns.length fo.ly.length fo.cb.length rfl rfl rfl) (id) ?_;refine Zkl hK ?_;clear hK K;refine Zcm ?_ ?_
 ·intro h14
  exfalso;simp at h14
 intro h14;refine z7 (sg [1,2,4,6] rfl ?_);intro K hK;refine Zo Zl ?_;refine Zd Zl (refCopy_specF fo hb fo.ns.length fo.ly.length fo.cb.length rfl rfl rfl (by omega) (by omega)) (id) ?_;refine Zkl hK ?_;clear hK K;refine z6 (Zrs [1,2,4,6,35] ?_);refine Zcm ?_ ?_
 ·intro h35
  have hoff:stOn fo.cb p=false:=by
   rw[stOn,inC,<-qn,J1,jF,bne,jF];exact h35
  have hsb:z6a fo p=false:=by rw[<-h.stS p,stS,hoff];rfl
  refine Zrs [4,5] (zb (hQ _ _ ?_));rw[h.stN hsb,hsb];exact Zos (fun x=>if x=4 then 6 else if x=5 then 7 else if x=6 then 8 else if x=7 then 9 else x) (.tup [.agg [.slc true 4 0 0 fo.ns.length,.int .i64 fo.ht,.slc true 5 0 0 fo.ly.length,.slc true 7 0 0 fo.cb.length],.bool false]) (⟨8,[(4,rO 62 3 fo.ns.length (nds fo.ns)),(5,rO 89 5 fo.ly.length (lyR 6 fo.ly)),(6,(3*fo.ly.length+1,fam true 3 1 (lyF true fo.ly))),(7,rO 58 3 fo.cb.length (cbs fo.cb))]⟩)
 intro h35
 have hon0:stOn fo.cb p=true:=by
  rw[stOn,inC,<-qr,J1,jF,bne,jF];exact h35
 have hH0:=h.stH hon0;obtain⟨P,hP⟩:∃P:Nat,p=P:=⟨p.toNat,by rw[stOn,qj,inC_iff] at hon0;omega⟩;subst hP;have hpl:P<fo.cb.length:=by rw[stOn,qj,inC_iff] at hon0;omega
 have hon:=hon0;have hH:=hH0;have hPn:(P:Int).toNat=P:=qq P;obtain⟨i,hi,hIi,hlv,q,hq,hKk,_⟩:=plI_at hH.pl;rw[hPn] at hIi hKk;have hcur:curI fo P=i:=by rw[curI,hPn,hIi,qq]
 have hpn:=hH.pn;rw[hcur] at hpn;have hlvb:=hH.lv;rw[hPn] at hlvb;have hSB:=h.stS P;refine z7 (Zrs [1,2,4,6,7] ?_);refine sg [1,2,4,6,7,8] rfl ?_;intro K hK;iterate 5 (refine Zo Zl ?_)
 refine Zd Zl (refAt_spec fo h.sh fo.ns.length fo.ly.length fo.cb.length (cbA fo.cb P).node (cbA fo.cb P).lvl rfl rfl rfl) (id) ?_;rw[hIi];refine Zkl hK ?_;clear hK K;refine z6 (Zrs [1,2,4,6,7,8,62] ?_);refine Zcm ?_ ?_
 ·intro h62;have he:endB fo P=false:=by rw[endB,hcur,hPn];simpa using h62
  have hsb:z6a fo P=z5u (lyA fo.ly i).cs (lyA fo.ly i).ps P:=by rw[<-hSB,stS,hon,he,hcur];rfl
  refine sg [4,6,8,10,11] rfl ?_;intro K hK;iterate 7 (refine Zo Zl ?_)
  refine Zd Zl (refStepM_spec fo.ly hb i fo.ly.length hi P) (fun _=>8) ?_;refine Zkl hK ?_;clear hK K;refine Zrs [4,6,11] (z6 ?_);obtain⟨R,hRe⟩:∃R,(stepR (lyA fo.ly i).cs (lyA fo.ly i).ps P)=R:=⟨_,rfl⟩;rw[hRe]
  have hraw:∀q,(if q=i then [SV.int .i64 (lyA fo.ly i).lvl,.int .u32 (lyA fo.ly i).wd,.slc true 8 (3*i+1) 0 (lyA fo.ly i).ids.length,.slc true 12 0 0 R.1.length,.slc true 13 0 0 R.2.length] else [SV.int .i64 (lyA fo.ly q).lvl,.int .u32 (lyA fo.ly q).wd,.slc true 8 (3*q+1) 0 (lyA fo.ly q).ids.length,.slc true 8 (3*q+2) 0 (lyA fo.ly q).cs.length,.slc true 8 (3*q+3) 0 (lyA fo.ly q).ps.length])=lyW 8 fo.ly i 12 13 R q:=fun q=>by
   unfold lyW
   by_cases e:q=i
   ·subst e;rw[qe rfl,qe rfl]
   rw[qc e,qc e];rfl
  have hout:∀q,q<fo.ly.length->lyW 8 fo.ly i 12 13 R q=SV.renPL (mvM (fun x=>x) 8 (ms2 i 12 13)) (lyR 8 (upL fo.ly i R.1 R.2) q):=fun q hq=>lyW_M2 8 fo.ly i 12 13 R q hq;refine z2y (fr':=[(4,.ptr 5 0 0 0),(6,.ptr 10 0 0 0),(11,.bool (z5u (lyA fo.ly i).cs (lyA fo.ly i).ps P))]) (H':=⟨11,[(10,rV 34 4 1 (fun _=>[.slc true 6 0 0 fo.ns.length,.int .i64 fo.ht,.slc true 7 0 0 fo.ly.length,.slc true 9 0 0 fo.cb.length])),(7,rO 89 5 fo.ly.length (lyR 8 (upL fo.ly i R.1 R.2))),(8,(3*fo.ly.length+1,fam true 3 1 (lyF true (upL fo.ly i R.1 R.2)))),(9,rO 58 3 fo.cb.length (cbs fo.cb)),(6,rO 62 3 fo.ns.length (nds fo.ns)),(5,rV 34 4 1 (fun _=>[.nils,.int .i64 0,.nils,.nils]))]⟩) _ (Zgm (fun x=>x) (8) (ms2 i 12 13) (ms2_ok _ (by decide) ⟨rfl,rfl⟩ ⟨qb rfl,qb rfl⟩) ((zc (by decide) rfl qf (ze.of (fun _=>⟨rfl,rfl⟩) rfl (qd _) (fun _ _=>rfl)) (Obj.lt_row.2 fun q _=>by simp[SV.ltL,SV.lt]) (qb rfl) (zc (by decide) rfl qf (ze.of (fun _=>⟨rfl,rfl⟩) rfl (qd _) ((fun q hq=>Eq.trans (hraw q) (hout q hq)))) (Obj.lt_row.2 fun q _=>(z67 _ _ _ q).2 (qb rfl)) (qb rfl) (lyF_consU (r:=R) rfl rfl rfl (qb rfl) (zc (by decide) rfl qf (ze.of (fun _=>⟨rfl,rfl⟩) rfl (qd _) (fun q _=>(z4j _ _ q).symm)) (Obj.lt_row.2 fun q _=>cbs_lt _ _ q) (qb rfl) (zc (by decide) rfl qf (ze.of (fun _=>⟨rfl,rfl⟩) rfl (qd _) (fun q _=>(z28 _ _ q).symm)) (Obj.lt_row.2 fun q _=>z4e _ _ q) (qb rfl) (zc (by decide) rfl qf (ze.of (fun _=>⟨rfl,rfl⟩) rfl (qd _) (fun _ _=>rfl)) (Obj.lt_row.2 fun q _=>by simp[SV.ltL,SV.lt]) (qb rfl) trivial)))))))) ?_
  refine Zrg [4,5] (zb (hQ _ _ ?_))
  have hfin:z27 fo P={fo with ly:=upL fo.ly i R.1 R.2}:=by
   cases hs:z6a fo P with
   |true=>
    rw[h.stF hs];unfold stI stR stC;rw[hon,he,hcur];simp only[q9,Qq,qz,Ql];rw[hRe]
   |false=>
    rw[h.stN hs];have vb:=(h.inv i hi).vb;rw[hsb,z5u,vb,qL] at hs;rw[<-hRe,stepR,vb];simp only[qS,qz,Ql,hs]
    have:upL fo.ly i (lyA fo.ly i).cs (lyA fo.ly i).ps=fo.ly:=by
     rw[upL,lyA_lt hi];exact List.set_getElem_self hi
    simp[this]
  rw[hfin,hsb];dsimp only;rw[z40];exact Zos (fun x=>if x=4 then 6 else if x=5 then 7 else if x=6 then 8 else if x=7 then 9 else x) (.tup [.agg [.slc true 4 0 0 fo.ns.length,.int .i64 fo.ht,.slc true 5 0 0 fo.ly.length,.slc true 7 0 0 fo.cb.length],.bool (z5u (lyA fo.ly i).cs (lyA fo.ly i).ps P)]) (⟨8,[(4,rO 62 3 fo.ns.length (nds fo.ns)),(5,rO 89 5 fo.ly.length (lyR 6 (upL fo.ly i R.1 R.2))),(6,(3*fo.ly.length+1,fam true 3 1 (lyF true (upL fo.ly i R.1 R.2)))),(7,rO 58 3 fo.cb.length (cbs fo.cb))]⟩)
 intro h62;have he:endB fo P=true:=by rw[endB,hcur,hPn];simpa using h62
 have hsb:z6a fo P=true:=by rw[<-hSB,stS,hon,he];rfl
 refine z7 (z6 (Zrs [1,2,4,6,7,84] ?_));refine Zcm ?_ ?_
 ·intro h84
  try replace h84:=Znb h84
  refine Zrg [1,2,4,6,7] (z6 ?_);refine Zrs [1,2,4,6,7,102] ?_;refine Zcm ?_ ?_
  ·intro h102;have hN:nxC (cbA fo.cb P)=(⟨(cbA fo.cb P).kind,(cbA fo.cb P).node,(cbA fo.cb P).lvl+1⟩:Cb):=by unfold nxC;rw[qe (by simpa using h84)]
   have ho:outB fo.ht (nxC (cbA fo.cb P))=true:=by rw[hN];exact h102
   refine sg [4,6] rfl ?_;intro K hK;iterate 6 (refine Zo Zl ?_)
   rw[cbs_put' _ _ _ _ _ hpl,show(⟨0,0,0⟩:Cb)=noCb from rfl];refine Zad ?_;refine Zk hK ?_;clear hK K;refine Zrs [4,5] (zb (hQ _ _ ?_))
   have hfin:z27 fo P={fo with cb:=fo.cb.set P noCb}:=by
    rw[h.stF hsb];unfold stI stR stC;rw[hon,he,hPn];simp only[q9,qL,clmI,clmR,clmC,ho];rw[upL_out _ _ (qd _)]
   rw[hfin,hsb];dsimp only;rw[qy];exact Zos (fun x=>if x=4 then 6 else if x=5 then 7 else if x=6 then 8 else if x=7 then 9 else x) (.tup [.agg [.slc true 4 0 0 fo.ns.length,.int .i64 fo.ht,.slc true 5 0 0 fo.ly.length,.slc true 7 0 0 fo.cb.length],.bool true]) (⟨8,[(4,rO 62 3 fo.ns.length (nds fo.ns)),(5,rO 89 5 fo.ly.length (lyR 6 fo.ly)),(6,(3*fo.ly.length+1,fam true 3 1 (lyF true fo.ly))),(7,rO 58 3 fo.cb.length (cbs (fo.cb.set P noCb)))]⟩)
  intro h102;have hN:nxC (cbA fo.cb P)=(⟨(cbA fo.cb P).kind,(cbA fo.cb P).node,(cbA fo.cb P).lvl+1⟩:Cb):=by unfold nxC;rw[qe (by simpa using h84)]
  have ho:outB fo.ht (nxC (cbA fo.cb P))=false:=by rw[hN];exact h102
  obtain⟨hgo,hB⟩:=hH.go he (by rw[hPn];exact ho);rw[hPn] at hgo hB;refine z7 (z6 (sg [2,4,6,112] rfl ?_));intro K hK;iterate 2 (refine Zo Zl ?_)
  refine Zd Zl (refBegin_ok fo h.sh (⟨(cbA fo.cb P).kind,(cbA fo.cb P).node,(cbA fo.cb P).lvl+1⟩:Cb) fo.ns.length fo.ly.length fo.cb.length P rfl rfl rfl hpl (by rw[<-hN];exact hgo) (by rw[<-hN];exact hB)) (fun x=>x+6) ?_;rw[<-hN,show plI fo.ly (cbA fo.cb P).node ((cbA fo.cb P).lvl+1)=plI fo.ly (nxC (cbA fo.cb P)).node (nxC (cbA fo.cb P)).lvl from by rw[hN]];refine Zkl hK ?_;clear hK K;refine Zcm ?_ ?_
  ·intro h112
   exfalso;simp at h112
  intro h112;refine z7 (z6 ?_);obtain⟨C2,hC2⟩:∃C2,fo.cb.set P (nxC (cbA fo.cb P))=C2:=⟨_,rfl⟩;have hC2l:C2.length=fo.cb.length:=by rw[<-hC2,qy]
  rw[hC2];obtain⟨I,hIe⟩:∃I,(plI fo.ly (nxC (cbA fo.cb P)).node (nxC (cbA fo.cb P)).lvl).toNat=I:=⟨_,rfl⟩;obtain⟨R,hRe⟩:∃R,begR fo.ly (P:Int) (nxC (cbA fo.cb P))=R:=⟨_,rfl⟩;rw[hIe,hRe];have hout:∀q,q<fo.ly.length->lyW 8 fo.ly I 12 13 R q=SV.renPL (mvM (fun x=>x) 8 (ms2 I 12 13)) (lyR 8 (upL fo.ly I R.1 R.2) q):=fun q hq=>lyW_M2 8 fo.ly I 12 13 R q hq;refine z2y (fr':=[(4,.ptr 5 0 0 0),(6,.ptr 10 0 0 0)]) (H':=⟨11,[(10,rV 34 4 1 (fun _=>[.slc true 6 0 0 fo.ns.length,.int .i64 fo.ht,.slc true 7 0 0 fo.ly.length,.slc true 9 0 0 fo.cb.length])),(7,rO 89 5 fo.ly.length (lyR 8 (upL fo.ly I R.1 R.2))),(8,(3*fo.ly.length+1,fam true 3 1 (lyF true (upL fo.ly I R.1 R.2)))),(9,rO 58 3 fo.cb.length (cbs C2)),(6,rO 62 3 fo.ns.length (nds fo.ns)),(5,rV 34 4 1 (fun _=>[.nils,.int .i64 0,.nils,.nils]))]⟩) _ (Zgm (fun x=>x) (8) (ms2 I 12 13) (ms2_ok _ (by decide) ⟨rfl,rfl⟩ ⟨qb rfl,qb rfl⟩) ((zc (by decide) rfl qf (ze.of (fun _=>⟨rfl,rfl⟩) rfl (qd _) (fun _ _=>rfl)) (Obj.lt_row.2 fun q _=>by simp[SV.ltL,SV.lt]) (qb rfl) (zc (by decide) rfl qf (ze.of (fun _=>⟨rfl,rfl⟩) rfl (qd _) (hout)) (Obj.lt_row.2 fun q _=>(z67 _ _ _ q).2 (qb rfl)) (qb rfl) (lyF_consU (r:=R) rfl rfl rfl (qb rfl) (zc (by decide) rfl qf (ze.of (fun _=>⟨rfl,rfl⟩) rfl (qd _) (fun q _=>(z4j _ _ q).symm)) (Obj.lt_row.2 fun q _=>cbs_lt _ _ q) (qb rfl) (zc (by decide) rfl qf (ze.of (fun _=>⟨rfl,rfl⟩) rfl (qd _) (fun q _=>(z28 _ _ q).symm)) (Obj.lt_row.2 fun q _=>z4e _ _ q) (qb rfl) (zc (by decide) rfl qf (ze.of (fun _=>⟨rfl,rfl⟩) rfl (qd _) (fun _ _=>rfl)) (Obj.lt_row.2 fun q _=>by simp[SV.ltL,SV.lt]) (qb rfl) trivial)))))))) ?_
  refine Zrg [4,5] (zb (hQ _ _ ?_))
  have hfin:z27 fo P={fo with ly:=upL fo.ly I R.1 R.2,cb:=C2}:=by
   rw[h.stF hsb];unfold stI stR stC;rw[hon,he,hPn];simp only[q9,qL,clmI,clmR,clmC,ho,qz,Ql];rw[hIe,hRe,hC2]
  rw[hfin,hsb];dsimp only;rw[z40,hC2l];exact Zos (fun x=>if x=4 then 6 else if x=5 then 7 else if x=6 then 8 else if x=7 then 9 else x) (.tup [.agg [.slc true 4 0 0 fo.ns.length,.int .i64 fo.ht,.slc true 5 0 0 fo.ly.length,.slc true 7 0 0 fo.cb.length],.bool true]) (⟨8,[(4,rO 62 3 fo.ns.length (nds fo.ns)),(5,rO 89 5 fo.ly.length (lyR 6 (upL fo.ly I R.1 R.2))),(6,(3*fo.ly.length+1,fam true 3 1 (lyF true (upL fo.ly I R.1 R.2)))),(7,rO 58 3 fo.cb.length (cbs C2))]⟩)
 intro h84
 try replace h84:=Znb h84
 refine Zrg [1,2,4,6,7] (z6 ?_);refine Zrs [1,2,4,6,7,102] ?_;refine Zcm ?_ ?_
 ·intro h102;have hN:nxC (cbA fo.cb P)=(⟨(cbA fo.cb P).kind,(cbA fo.cb P).node,(cbA fo.cb P).lvl-1⟩:Cb):=by unfold nxC;rw[qc (by simpa using h84)]
  have ho:outB fo.ht (nxC (cbA fo.cb P))=true:=by rw[hN];exact h102
  refine sg [4,6] rfl ?_;intro K hK;iterate 6 (refine Zo Zl ?_)
  rw[cbs_put' _ _ _ _ _ hpl,show(⟨0,0,0⟩:Cb)=noCb from rfl];refine Zad ?_;refine Zk hK ?_;clear hK K;refine Zrs [4,5] (zb (hQ _ _ ?_))
  have hfin:z27 fo P={fo with cb:=fo.cb.set P noCb}:=by
   rw[h.stF hsb];unfold stI stR stC;rw[hon,he,hPn];simp only[q9,qL,clmI,clmR,clmC,ho];rw[upL_out _ _ (qd _)]
  rw[hfin,hsb];dsimp only;rw[qy];exact Zos (fun x=>if x=4 then 6 else if x=5 then 7 else if x=6 then 8 else if x=7 then 9 else x) (.tup [.agg [.slc true 4 0 0 fo.ns.length,.int .i64 fo.ht,.slc true 5 0 0 fo.ly.length,.slc true 7 0 0 fo.cb.length],.bool true]) (⟨8,[(4,rO 62 3 fo.ns.length (nds fo.ns)),(5,rO 89 5 fo.ly.length (lyR 6 fo.ly)),(6,(3*fo.ly.length+1,fam true 3 1 (lyF true fo.ly))),(7,rO 58 3 fo.cb.length (cbs (fo.cb.set P noCb)))]⟩)
 intro h102;have hN:nxC (cbA fo.cb P)=(⟨(cbA fo.cb P).kind,(cbA fo.cb P).node,(cbA fo.cb P).lvl-1⟩:Cb):=by unfold nxC;rw[qc (by simpa using h84)]
 have ho:outB fo.ht (nxC (cbA fo.cb P))=false:=by rw[hN];exact h102
 obtain⟨hgo,hB⟩:=hH.go he (by rw[hPn];exact ho);rw[hPn] at hgo hB;refine z7 (z6 (sg [2,4,6,112] rfl ?_));intro K hK;iterate 2 (refine Zo Zl ?_)
 refine Zd Zl (refBegin_ok fo h.sh (⟨(cbA fo.cb P).kind,(cbA fo.cb P).node,(cbA fo.cb P).lvl-1⟩:Cb) fo.ns.length fo.ly.length fo.cb.length P rfl rfl rfl hpl (by rw[<-hN];exact hgo) (by rw[<-hN];exact hB)) (fun x=>x+6) ?_;rw[<-hN,show plI fo.ly (cbA fo.cb P).node ((cbA fo.cb P).lvl-1)=plI fo.ly (nxC (cbA fo.cb P)).node (nxC (cbA fo.cb P)).lvl from by rw[hN]];refine Zkl hK ?_;clear hK K;refine Zcm ?_ ?_
 ·intro h112
  exfalso;simp at h112
 intro h112;refine z7 (z6 ?_);obtain⟨C2,hC2⟩:∃C2,fo.cb.set P (nxC (cbA fo.cb P))=C2:=⟨_,rfl⟩;have hC2l:C2.length=fo.cb.length:=by rw[<-hC2,qy]
 rw[hC2];obtain⟨I,hIe⟩:∃I,(plI fo.ly (nxC (cbA fo.cb P)).node (nxC (cbA fo.cb P)).lvl).toNat=I:=⟨_,rfl⟩;obtain⟨R,hRe⟩:∃R,begR fo.ly (P:Int) (nxC (cbA fo.cb P))=R:=⟨_,rfl⟩;rw[hIe,hRe];have hout:∀q,q<fo.ly.length->lyW 8 fo.ly I 12 13 R q=SV.renPL (mvM (fun x=>x) 8 (ms2 I 12 13)) (lyR 8 (upL fo.ly I R.1 R.2) q):=fun q hq=>lyW_M2 8 fo.ly I 12 13 R q hq;refine z2y (fr':=[(4,.ptr 5 0 0 0),(6,.ptr 10 0 0 0)]) (H':=⟨11,[(10,rV 34 4 1 (fun _=>[.slc true 6 0 0 fo.ns.length,.int .i64 fo.ht,.slc true 7 0 0 fo.ly.length,.slc true 9 0 0 fo.cb.length])),(7,rO 89 5 fo.ly.length (lyR 8 (upL fo.ly I R.1 R.2))),(8,(3*fo.ly.length+1,fam true 3 1 (lyF true (upL fo.ly I R.1 R.2)))),(9,rO 58 3 fo.cb.length (cbs C2)),(6,rO 62 3 fo.ns.length (nds fo.ns)),(5,rV 34 4 1 (fun _=>[.nils,.int .i64 0,.nils,.nils]))]⟩) _ (Zgm (fun x=>x) (8) (ms2 I 12 13) (ms2_ok _ (by decide) ⟨rfl,rfl⟩ ⟨qb rfl,qb rfl⟩) ((zc (by decide) rfl qf (ze.of (fun _=>⟨rfl,rfl⟩) rfl (qd _) (fun _ _=>rfl)) (Obj.lt_row.2 fun q _=>by simp[SV.ltL,SV.lt]) (qb rfl) (zc (by decide) rfl qf (ze.of (fun _=>⟨rfl,rfl⟩) rfl (qd _) (hout)) (Obj.lt_row.2 fun q _=>(z67 _ _ _ q).2 (qb rfl)) (qb rfl) (lyF_consU (r:=R) rfl rfl rfl (qb rfl) (zc (by decide) rfl qf (ze.of (fun _=>⟨rfl,rfl⟩) rfl (qd _) (fun q _=>(z4j _ _ q).symm)) (Obj.lt_row.2 fun q _=>cbs_lt _ _ q) (qb rfl) (zc (by decide) rfl qf (ze.of (fun _=>⟨rfl,rfl⟩) rfl (qd _) (fun q _=>(z28 _ _ q).symm)) (Obj.lt_row.2 fun q _=>z4e _ _ q) (qb rfl) (zc (by decide) rfl qf (ze.of (fun _=>⟨rfl,rfl⟩) rfl (qd _) (fun _ _=>rfl)) (Obj.lt_row.2 fun q _=>by simp[SV.ltL,SV.lt]) (qb rfl) trivial)))))))) ?_
 refine Zrg [4,5] (zb (hQ _ _ ?_))
 have hfin:z27 fo P={fo with ly:=upL fo.ly I R.1 R.2,cb:=C2}:=by
  rw[h.stF hsb];unfold stI stR stC;rw[hon,he,hPn];simp only[q9,qL,clmI,clmR,clmC,ho,qz,Ql];rw[hIe,hRe,hC2]
 rw[hfin,hsb];dsimp only;rw[z40,hC2l];exact Zos (fun x=>if x=4 then 6 else if x=5 then 7 else if x=6 then 8 else if x=7 then 9 else x) (.tup [.agg [.slc true 4 0 0 fo.ns.length,.int .i64 fo.ht,.slc true 5 0 0 fo.ly.length,.slc true 7 0 0 fo.cb.length],.bool true]) (⟨8,[(4,rO 62 3 fo.ns.length (nds fo.ns)),(5,rO 89 5 fo.ly.length (lyR 6 (upL fo.ly I R.1 R.2))),(6,(3*fo.ly.length+1,fam true 3 1 (lyF true (upL fo.ly I R.1 R.2)))),(7,rO 58 3 fo.cb.length (cbs C2))]⟩)
end
section
def prsN (fo:Fo)(lv:Int):List Int:=((z4w fo.ns).filter fun x=>memF fo.ly x.id lv).map (·.id)
def JrGm.exE:=aj9 @z11 @zd @zf @zo @zh @zx @z10 ec2 (aj9 @zg @zp @zm @zi z58 @zn z3g z3w (aj9 @zq ec3 ec5 @z1a.eq_1 @zu.eq_1 @ints.eq_1 ec34 ec35 (aj3 ec36 @z18 @z2d)))
def JrGm.axE:=aj9 @z11 @zd @zf @zo @zh @zx @z10 ec2 (aj9 @zg @zp @zm @zi z58 @zn z3g z3w (aj9 @zq ec3 ec5 @z1a.eq_1 @zu.eq_1 ec34 ec35 @z18 (aj7 @z2d @z1p @z21 @z2j @z2r ec38 @z38)))
open JnNm (gxE oxE)
open JrGm (axE exE)
open D0 (sdE)
def present_specF (fo:Fo)(h:Fsh fo)(n k m:Nat)(lv:Int)(hn:fo.ns.length=n)(hk:fo.ly.length=k)(hm:fo.cb.length=m):
  zj prog 110 [.agg [.slc false 0 0 0 n,.int .i64 fo.ht,.slc false 1 0 0 k,.slc false 3 0 0 m],.int .i64 lv] ⟨4,[(0,rI 62 3 n (nds fo.ns)),(1,rI 89 5 k (lyR 2 fo.ly)),(2,(3*k+1,fam false 3 1 (lyF false fo.ly))),(3,rI 58 3 m (cbs fo.cb))]⟩
   (fun s H1=>s= .slc true 4 0 0 (prsN fo lv).length/\H1=⟨5,[(4,rO 3 1 ((prsN fo lv).length) (ints (prsN fo lv)))]⟩):=by
 have hx64:=h.few;subst hn hk hm;have hsl:(z4w fo.ns).length=fo.ns.length:=(z26 fo.ns).length_eq.symm;refine Zf false 34 [.tmp 4] func110 ntmps110 results110 fun w0 own0 β0 Q hQ hQn=> ?_;refine Zrs [1,2] ?_;refine Zrs [1,2,5] ?_;refine sg [1,2,5,6] rfl ?_;intro K hK;iterate 2 (refine Zo Zl ?_)
 refine Zd Zl (refSort_spec fo.ns fo.ns.length rfl (by omega)) (id) ?_;refine Zkl hK ?_;clear hK K;refine z6 (Zrs [1,2,5,6,7] ?_);obtain⟨s,hs⟩:∃s,z4w fo.ns=s:=⟨_,rfl⟩;rw[hs] at hsl ⊢;obtain⟨P,hP⟩:∃P:Nd->Bool,(fun x:Nd=>memF fo.ly x.id lv)=P:=⟨_,rfl⟩;have hPx:∀x:Nd,memF fo.ly x.id lv=P x:=fun x=>by rw[<-hP]
 refine z2f 5 3 1 (ints (((s.take 0).filter P).map (·.id))) rfl ?_;dsimp only;refine z8 fun Q0 hN0 hX0 hR0 hE0=> ?_;refine zl (σ:=Nat) (fun i=>i<=fo.ns.length) (fun i=>fo.ns.length-i) (fun i=>[(1,.int .i64 lv),(2,.ptr 4 0 0 0),(5,.slc true 6 0 0 (((s.take i).filter P).map (·.id)).length),(6,.slc true 5 0 0 fo.ns.length),(7,.int .i64 i)]) (fun i=>⟨7,[(6,rO 3 1 ((((s.take i).filter P).map (·.id)).length) (ints (((s.take i).filter P).map (·.id)))),(5,rO 62 3 fo.ns.length (nds s)),(4,rV 34 4 1 (fun _=>[.slc false 0 0 0 fo.ns.length,.int .i64 fo.ht,.slc false 1 0 0 fo.ly.length,.slc false 3 0 0 fo.cb.length])),(0,rI 62 3 fo.ns.length (nds fo.ns)),(1,rI 89 5 fo.ly.length (lyR 2 fo.ly)),(2,(3*fo.ly.length+1,fam false 3 1 (lyF false fo.ly))),(3,rI 58 3 fo.cb.length (cbs fo.cb))]⟩) 0 (ql _) (ρ:=id) (Zg id) ?_;rintro i hi QL1 hL1 hRL1 hEL1;refine z6 (Zrs [1,2,5,6,7,14] ?_);refine Zcn ?_ ?_
 ·intro h14;have hst:=filter_step (xs:=s) (j:=i) (by omega) P;have hfl:((s.take i).filter P).length<=i:=qR (jd ..) (by rw[qN];omega);obtain⟨O,hO⟩:∃O,(((s.take i).filter P).map (·.id))=O:=⟨_,rfl⟩;have hOl:O.length<=i:=by rw[<-hO,qx];exact hfl
  rw[hO];refine z7 (z6 ?_);refine z8 fun Q1 hN1 hX1 hR1 hE1=> ?_;refine z6 ?_;refine Zrd [1,2,5,6,7,24] [0,1,2,3,4,5,6,7] [] [] ?_;intro K hK;iterate 7 (refine Zo (Zi [] []) ?_)
  refine Zd (Zi [] []) (refIn_spec fo h fo.ns.length fo.ly.length fo.cb.length (nd s i).id lv rfl rfl rfl) (id) ?_;rw[hPx];refine zz (Zpr (hK _ _ ?_));clear hK K;refine Zcm ?_ ?_
  ·intro h24;rw[h24,qe rfl] at hst;refine Zrg [1,2,5,6,7] (za (hN1 _ _ ?_));refine Zrg [1,2,5,6,7] (za (hL1 _ _ ?_));have e1:((s.take (i+1)).filter P).map (·.id)=O++[(nd s i).id]:=by rw[hst,map_snoc,hO]
   rw[iS i];refine⟨i+1,⟨by omega,by omega⟩,fun x=>if x=6 then 8 else x,?_⟩;rw[e1];exact(Zg (fun x=>if x=6 then 8 else x))
  intro h24;rw[h24,qc (by decide),jc] at hst;refine z7 (za (hN1 _ _ (Zrg [1,2,5,6,7] (za (hL1 _ _ ?_)))));rw[<-hO,iS i,<-hst];exact⟨i+1,⟨by omega,by omega⟩,id,(Zg id)⟩
 intro h14;refine zk (hEL1 _ _ _ (hX0 _ _ (Zrs [4] (zb (hQ _ _ ?_)))));have hie:i=fo.ns.length:=by omega
 subst hie;rw[show prsN fo lv=(s.filter P).map (·.id) by rw[prsN,hs,hP],Qj (by omega:s.length<=fo.ns.length)];exact Zos (fun x=>if x=4 then 6 else x) (.slc true 4 0 0 ((s.filter P).map (·.id)).length) (⟨5,[(4,rO 3 1 (((s.filter P).map (·.id)).length) (ints ((s.filter P).map (·.id))))]⟩)
def refPresent_spec (fo:Fo)(h:FV fo)(n k m:Nat)(lv:Int)(hn:fo.ns.length=n)(hk:fo.ly.length=k)(hm:fo.cb.length=m):
  zj prog 71 [.agg [.slc false 0 0 0 n,.int .i64 fo.ht,.slc false 1 0 0 k,.slc false 3 0 0 m],.int .i64 lv] ⟨4,[(0,rI 62 3 n (nds fo.ns)),(1,rI 89 5 k (lyR 2 fo.ly)),(2,(3*k+1,fam false 3 1 (lyF false fo.ly))),(3,rI 58 3 m (cbs fo.cb))]⟩
   (fun s H1=>s= .slc true 4 0 0 (z1w fo lv).length/\H1=⟨5,[(4,rO 3 1 ((z1w fo lv).length) (ints (z1w fo lv)))]⟩):=by
 subst hn hk hm;refine Zf false 21 [.tmp 4] func71 ntmps71 results71 fun w0 own0 β0 Q hQ hQn=> ?_;refine Zrs [1,2] (z6 ?_);refine sg [1,2,17] rfl ?_;intro K hK;refine Zo Zl ?_;refine Zd Zl (refValid_ok fo h fo.ns.length fo.ly.length fo.cb.length rfl rfl rfl) (id) ?_;refine Zkl hK ?_;clear hK K;refine Zcm ?_ ?_
 ·intro h17
  have hno:¬(0<=lv/\lv<=fo.ht):=by
   rintro⟨g1,g2⟩;rcases(by simpa using h17:lv<0\/fo.ht<lv) with g|g<;>omega
  refine Zrs [4] (z2f 4 3 1 (ints []) rfl ?_);dsimp only;refine zb (hQ _ _ ?_);rw[show z1w fo lv=[] by rw[z1w,qc hno]];exact Zos (fun x=>if x=4 then 5 else x) (.slc true 4 0 0 ([]:List Int).length) (⟨5,[(4,rO 3 1 (([]:List Int).length) (ints []))]⟩)
 intro h17
 have hyes:0<=lv/\lv<=fo.ht:=by
  have:¬(lv<0\/fo.ht<lv):=by intro g;rw[show(decide (lv<0)||decide (fo.ht<lv))=true by simpa using g] at h17;cases h17
  omega
 refine z7 (sg [4] rfl ?_);intro K hK;iterate 2 (refine Zo Zl ?_)
 refine Zd Zl (present_specF fo h.sh fo.ns.length fo.ly.length fo.cb.length lv rfl rfl rfl) (id) ?_;refine Zkl hK ?_;clear hK K;refine zb (hQ _ _ ?_);rw[show z1w fo lv=prsN fo lv by rw[z1w,qe hyes,prsN]];exact Zos (fun x=>if x=4 then 5 else x) (.slc true 4 0 0 (prsN fo lv).length) (⟨5,[(4,rO 3 1 ((prsN fo lv).length) (ints (prsN fo lv)))]⟩)
def bsyN_z (C:List Cb):bsyN C 0=0:=rfl
def refBound_spec (fo:Fo)(h:FV fo)(n k m:Nat)(hn:fo.ns.length=n)(hk:fo.ly.length=k)(hm:fo.cb.length=m):
  zj prog 74 [.agg [.slc false 0 0 0 n,.int .i64 fo.ht,.slc false 1 0 0 k,.slc false 3 0 0 m]] ⟨4,[(0,rI 62 3 n (nds fo.ns)),(1,rI 89 5 k (lyR 2 fo.ly)),(2,(3*k+1,fam false 3 1 (lyF false fo.ly))),(3,rI 58 3 m (cbs fo.cb))]⟩ (fun s H1=>s= .int .i64 (boundF fo)/\H1=⟨4,[]⟩):=by
 have hx64:=h.sh.few;have hx8:=h.sh.m8;have hh0:=h.sh.h0;have hh16:=h.sh.h16;subst hn hk hm;refine Zf false 38 [.tmp 2] func74 ntmps74 results74 fun w0 own0 β0 Q hQ hQn=> ?_;refine Zrs [1] (z6 ?_);refine sg [1,7] rfl ?_;intro K hK;refine Zo Zl ?_;refine Zd Zl (refValid_ok fo h fo.ns.length fo.ly.length fo.cb.length rfl rfl rfl) (id) ?_;refine Zkl hK ?_;clear hK K;refine Zcm ?_ ?_
 ·intro h7
  exfalso;simp at h7
 intro h7;refine z7 (Zrs [1,3] (z6 ?_));refine Zrs [1,3,4] ?_;refine z8 fun Q0 hN0 hX0 hR0 hE0=> ?_;refine zl (σ:=Nat) (fun i=>i<=fo.cb.length) (fun i=>fo.cb.length-i) (fun i=>[(1,.ptr 4 0 0 0),(3,.int .i64 (bsyN fo.cb i)),(4,.int .i64 i)]) (fun i=>⟨5,[(4,rV 34 4 1 (fun _=>[.slc false 0 0 0 fo.ns.length,.int .i64 fo.ht,.slc false 1 0 0 fo.ly.length,.slc false 3 0 0 fo.cb.length])),(0,rI 62 3 fo.ns.length (nds fo.ns)),(1,rI 89 5 fo.ly.length (lyR 2 fo.ly)),(2,(3*fo.ly.length+1,fam false 3 1 (lyF false fo.ly))),(3,rI 58 3 fo.cb.length (cbs fo.cb))]⟩) 0 (ql _) (ρ:=id) (have xE:=@bsyN_z;Zgx id) ?_;rintro i hi QL1 hL1 hRL1 hEL1;refine z6 (Zrs [1,3,4,12] ?_);refine Zcn ?_ ?_
 ·intro h12;have hbl:=bsyN_le fo.cb i;refine z7 (z6 ?_);refine z8 fun Q1 hN1 hX1 hR1 hE1=> ?_;refine Zrs [1,3,4,21] ?_;refine Zcm ?_ ?_
  ·intro h21;have e1:bsyN fo.cb (i+1)=bsyN fo.cb i+1:=by rw[bsyN,sumR,h21];rfl
   refine Zrg [1,3,4] (za (hN1 _ _ ?_));refine Zrg [1,3,4] (za (hL1 _ _ ?_));rw[iS i,show(bsyN fo.cb i:Int)+1=((bsyN fo.cb (i+1):Nat):Int) from by omega];exact⟨i+1,⟨by omega,by omega⟩,id,(Zg id)⟩
  intro h21;have e1:bsyN fo.cb (i+1)=bsyN fo.cb i:=by rw[bsyN,sumR,h21];rfl
  refine z7 (za (hN1 _ _ (Zrg [1,3,4] (za (hL1 _ _ ?_)))));rw[iS i,<-e1];exact⟨i+1,⟨by omega,by omega⟩,id,(Zg id)⟩
 intro h12;have hbl:=bsyN_le fo.cb i;have hie:i=fo.cb.length:=by omega
 subst hie;have hM:bsyN fo.cb fo.cb.length=busyN fo.cb:=rfl;rw[hM] at hbl ⊢;obtain⟨M,hMe⟩:∃M,busyN fo.cb=M:=⟨_,rfl⟩;rw[hMe] at hbl ⊢;have p1:=mul_in (a:=(M:Int)) (b:=fo.ht+1) (A:=8) (B:=17) (by omega) (by omega);have p2:=mul_in (a:=(M:Int)+1) (b:=(fo.ns.length:Int)+7) (A:=9) (B:=71) (by omega) (by omega);have p3:=mul_in (a:=(M:Int)*(fo.ht+1)) (b:=((M:Int)+1)*((fo.ns.length:Int)+7)+7) (A:=136) (B:=646) (by omega) (by omega);refine zk (hEL1 _ _ _ (hX0 _ _ (Zrs [2] (zb (hQ _ _ ?_)))));refine Zob ⟨4,[]⟩ ?_;rw[boundF,hMe]
 all_goals first|trivial|exact⟨rfl,trivial⟩
end
section
def FI.prs {fo:Fo}{ls:Nat->List Int}(h:FI fo ls){lv:Int}(l1:1<=lv)(lh:lv<=fo.ht){i:Nat}(hi:i<(prsN fo lv).length):memF fo.ly (nth (prsN fo lv) i) (lv-1)=true:=by
 have hm:nth (prsN fo lv) i∈prsN fo lv:=by rw[z30 hi];exact qK _
 generalize nth (prsN fo lv) i=v at hm
 rw[prsN,Qs] at hm;obtain⟨x,hx,rfl⟩:=hm;rw[jH] at hx;exact h.nest ((z26 _).mem_iff.2 hx.1) l1 lh hx.2
open JnNm (gxE axE oxE exE)
open D0 (sdE)
def refCheck_specF (fo:Fo)(ls:Nat->List Int)(h:FI fo ls)(n k m:Nat)(hn:fo.ns.length=n)(hk:fo.ly.length=k)(hm:fo.cb.length=m):
  zj prog 73 [.agg [.slc false 0 0 0 n,.int .i64 fo.ht,.slc false 1 0 0 k,.slc false 3 0 0 m]] ⟨4,[(0,rI 62 3 n (nds fo.ns)),(1,rI 89 5 k (lyR 2 fo.ly)),(2,(3*k+1,fam false 3 1 (lyF false fo.ly))),(3,rI 58 3 m (cbs fo.cb))]⟩ (fun s H1=>s= .bool true/\H1=⟨4,[]⟩):=by
 have hb:=h.sh.lyB;have hlen:=hb.1;have hx64:=h.sh.few;have hh0:=h.sh.h0;have hh16:=h.sh.h16;subst hn hk hm
 have hpl:∀lv,(prsN fo lv).length<=fo.ns.length:=fun lv=>by
  rw[prsN,qx];exact qR (jd ..) (Nat.le_of_eq (z26 fo.ns).length_eq.symm)
 refine Zf false 49 [.tmp 2] func73 ntmps73 results73 fun w0 own0 β0 Q hQ hQn=> ?_;refine Zrs [1] (z6 ?_);refine sg [1,9] rfl ?_;intro K hK;refine Zo Zl ?_;refine Zd Zl (refValid_ok fo h.fv fo.ns.length fo.ly.length fo.cb.length rfl rfl rfl) (id) ?_;refine Zkl hK ?_;clear hK K;refine Zcm ?_ ?_
 ·intro h9
  exfalso;simp at h9
 intro h9;refine z7 (z6 (Zrs [1,3] ?_));refine z8 fun Q0 hN0 hX0 hR0 hE0=> ?_;refine zl (σ:=Nat) (fun i=>i<=fo.ly.length) (fun i=>fo.ly.length-i) (fun i=>[(1,.ptr 4 0 0 0),(3,.int .i64 i)]) (fun _=>⟨5,[(4,rV 34 4 1 (fun _=>[.slc false 0 0 0 fo.ns.length,.int .i64 fo.ht,.slc false 1 0 0 fo.ly.length,.slc false 3 0 0 fo.cb.length])),(0,rI 62 3 fo.ns.length (nds fo.ns)),(1,rI 89 5 fo.ly.length (lyR 2 fo.ly)),(2,(3*fo.ly.length+1,fam false 3 1 (lyF false fo.ly))),(3,rI 58 3 fo.cb.length (cbs fo.cb))]⟩) 0 (ql _) (ρ:=id) (Zg id) ?_;rintro i hi QL1 hL1 hRL1 hEL1;refine z6 (Zrs [1,3,14] ?_);refine Zcm ?_ ?_
 ·intro h14;replace h14:=Znb h14;have hil:i<fo.ly.length:=by omega
  have hbi:=hb.2 i;refine z7 (z6 ?_);refine z8 fun Q1 hN1 hX1 hR1 hE1=> ?_;refine sg [1,3,24] rfl ?_;intro K hK;iterate 6 (refine Zo Zl ?_)
  refine Zd Zl (lyLsB fo.ly i fo.ly.length hil (refCheck_specL (lyA fo.ly i).cs (lyA fo.ly i).ps _ _ rfl rfl (by omega) (by omega))) (fun _=>2) ?_;rw[(h.inv i hil).check];refine Zkl hK ?_;clear hK K;refine Zcm ?_ ?_
  ·intro h24
   exfalso;cases h24
  intro h24;refine z7 (za (hN1 _ _ (Zrg [1,3] (za (hL1 _ _ ?_)))));rw[iS i];exact⟨i+1,⟨by omega,by omega⟩,id,(Zg id)⟩
 intro h14;refine zk (hEL1 _ _ _ (hX0 _ _ (z6 (Zrs [1,4] ?_))));refine z8 fun Q2 hN2 hX2 hR2 hE2=> ?_;refine zl (σ:=Nat) (fun l=>1<=l/\(l:Int)<=fo.ht+1) (fun l=>18-l) (fun l=>[(1,.ptr 4 0 0 0),(4,.int .i64 l)]) (fun _=>⟨5,[(4,rV 34 4 1 (fun _=>[.slc false 0 0 0 fo.ns.length,.int .i64 fo.ht,.slc false 1 0 0 fo.ly.length,.slc false 3 0 0 fo.cb.length])),(0,rI 62 3 fo.ns.length (nds fo.ns)),(1,rI 89 5 fo.ly.length (lyR 2 fo.ly)),(2,(3*fo.ly.length+1,fam false 3 1 (lyF false fo.ly))),(3,rI 58 3 fo.cb.length (cbs fo.cb))]⟩) 1 ⟨qd _,by omega⟩ (ρ:=id) (Zg id) ?_;rintro l hl QL2 hL2 hRL2 hEL2;refine z6 (Zrs [1,4,28] ?_);refine Zcm ?_ ?_
 ·intro h28;replace h28:=Znb h28;obtain⟨hl1,hl2⟩:=hl;have hp:=hpl l;refine z7 (z6 ?_);refine z8 fun Q3 hN3 hX3 hR3 hE3=> ?_;refine sg [1,4,5] rfl ?_;intro K hK;iterate 2 (refine Zo Zl ?_)
  refine Zd Zl (present_specF fo h.sh fo.ns.length fo.ly.length fo.cb.length l rfl rfl rfl) (id) ?_;refine Zkl hK ?_;clear hK K;refine Zrs [1,4,5,6] ?_;refine z8 fun Q4 hN4 hX4 hR4 hE4=> ?_;refine zl (σ:=Nat) (fun j=>j<=(prsN fo l).length) (fun j=>(prsN fo l).length-j) (fun j=>[(1,.ptr 4 0 0 0),(4,.int .i64 l),(5,.slc true 5 0 0 (prsN fo l).length),(6,.int .i64 j)]) (fun _=>⟨6,[(5,rO 3 1 ((prsN fo l).length) (ints (prsN fo l))),(4,rV 34 4 1 (fun _=>[.slc false 0 0 0 fo.ns.length,.int .i64 fo.ht,.slc false 1 0 0 fo.ly.length,.slc false 3 0 0 fo.cb.length])),(0,rI 62 3 fo.ns.length (nds fo.ns)),(1,rI 89 5 fo.ly.length (lyR 2 fo.ly)),(2,(3*fo.ly.length+1,fam false 3 1 (lyF false fo.ly))),(3,rI 58 3 fo.cb.length (cbs fo.cb))]⟩) 0 (ql _) (ρ:=id) (Zg id) ?_;rintro j hj QL3 hL3 hRL3 hEL3;refine z6 (Zrs [1,4,5,6,37] ?_);refine Zcm ?_ ?_
  ·intro h37;replace h37:=Znb h37;have hjl:j<(prsN fo l).length:=by omega
   refine z7 (z6 ?_);refine z8 fun Q5 hN5 hX5 hR5 hE5=> ?_;refine z6 ?_;refine Zrd [1,4,5,6,48] [0,1,2,3,4,5,6,7,8] [] [] ?_;intro K hK;iterate 7 (refine Zo (Zi [] []) ?_)
   refine Zd (Zi [] []) (refIn_spec fo h.sh fo.ns.length fo.ly.length fo.cb.length (nth (prsN fo l) j) ((l:Int)-1) rfl rfl rfl) (id) ?_;rw[h.prs (by omega) (by omega) hjl];refine Zki hK ?_;clear hK K;refine Zcm ?_ ?_
   ·intro h48
    exfalso;cases h48
   intro h48;refine z7 (za (hN5 _ _ (Zrg [1,4,5,6] (za (hL3 _ _ ?_)))));rw[iS j];exact⟨j+1,⟨by omega,by omega⟩,id,(Zg id)⟩
  intro h37;refine zk (hEL3 _ _ _ (hX4 _ _ (za (hN3 _ _ (Zrg [1,4] (za (hL2 _ _ ?_)))))));rw[iS l];exact⟨l+1,⟨⟨by omega,by omega⟩,by omega⟩,id,(Zg id)⟩
 intro h28;refine zk (hEL2 _ _ _ (hX2 _ _ (Zrs [2] (zb (hQ _ _ ?_)))));exact Zoc ⟨4,[]⟩
end
section
def rlkF (x:Ly)(c:Int):Int×Int:=if(cl x.cs c.toNat).gone then(0,0) else lnkF x c
open JnNm (gxE)
open JoEm (axE oxE exE)
open D0 (sdE)
def refLink_spec (fo:Fo)(h:Fsh fo)(n k m:Nat)(v lv:Int)(i q:Nat)(hn:fo.ns.length=n)(hk:fo.ly.length=k)(hm:fo.cb.length=m)(hi:i<k)(hIi:plI fo.ly v lv=i)(hKk:plK fo.ly v lv=q)(hq:q<(lyA fo.ly i).cs.length)
  (hl:0<=(cl (lyA fo.ly i).cs q).left/\(cl (lyA fo.ly i).cs q).left<(lyA fo.ly i).ids.length+2) (hr:0<=(cl (lyA fo.ly i).cs q).right/\(cl (lyA fo.ly i).cs q).right<(lyA fo.ly i).ids.length+2):
  zj prog 111 [.agg [.slc false 0 0 0 n,.int .i64 fo.ht,.slc false 1 0 0 k,.slc false 3 0 0 m],.int .i64 v,.int .i64 lv] ⟨4,[(0,rI 62 3 n (nds fo.ns)),(1,rI 89 5 k (lyR 2 fo.ly)),(2,(3*k+1,fam false 3 1 (lyF false fo.ly))),(3,rI 58 3 m (cbs fo.cb))]⟩ (fun s H1=>s= .agg [.int .i64 (rlkF (lyA fo.ly i) q).1,.int .i64 (rlkF (lyA fo.ly i) q).2]/\H1=⟨4,[]⟩):=by
 have hb:=h.lyB;have hlen:=hb.1;obtain⟨hb1,hb2,hb3⟩:=hb.2 i;subst hn hk hm;refine Zf false 57 [.cell 6 98] func111 ntmps111 results111 fun w0 own0 β0 Q hQ hQn=> ?_;refine Zrs [1,2,3,6] ?_;refine sg [3,6,7,8] rfl ?_;intro K hK;iterate 3 (refine Zo Zl ?_)
 refine Zd Zl (refAt_spec fo h fo.ns.length fo.ly.length fo.cb.length v lv rfl rfl rfl) (id) ?_;rw[hIi,hKk];refine Zkl hK ?_;clear hK K;refine Zrs [6,8,9] ?_;refine Zrs [6,9,10] (z6 ?_);refine Zrs [6,9,10,31] ?_;refine Zcm ?_ ?_
 ·intro h31
  try replace h31:=Znb h31
  refine Zrs [6] (zb (hQ _ _ ?_));refine Zob ⟨4,[]⟩ ?_;rw[rlkF,qq,h31]
  first|trivial|exact⟨rfl,trivial⟩
 intro h31;have e31:rlkF (lyA fo.ly i) q=lnkF (lyA fo.ly i) q:=by rw[rlkF,qq,h31];rfl
 refine z7 (Zrs [6,9,10,11] (z6 ?_));refine Zrs [6,9,10,11,36] ?_;refine Zcm ?_ ?_
 ·intro h36
  have e36:(lnkF (lyA fo.ly i) q).1=nth (lyA fo.ly i).ids ((cl (lyA fo.ly i).cs q).left-2).toNat:=by
   have:2<=(cl (lyA fo.ly i).cs q).left:=by simpa using h36
   rw[lnkF,numF,qq,qc (by omega)]
  have g36:2<=(cl (lyA fo.ly i).cs q).left:=by simpa using h36
  refine Zrg [6,9,10,11] (z6 ?_);refine Zrs [6,9,10,11,47] ?_;refine Zcm ?_ ?_
  ·intro h47
   have e47:(lnkF (lyA fo.ly i) q).2=nth (lyA fo.ly i).ids ((cl (lyA fo.ly i).cs q).right-2).toNat:=by
    have:2<=(cl (lyA fo.ly i).cs q).right:=by simpa using h47
    rw[lnkF,numF,numF,qq,qc (show¬(cl (lyA fo.ly i).cs q).right<2 by omega)]
   have g47:2<=(cl (lyA fo.ly i).cs q).right:=by simpa using h47
   refine Zrg [6,11] ?_;refine Zrs [6] (zb (hQ _ _ ?_));refine Zob ⟨4,[]⟩ ?_;rw[e31,e36,e47]
   first|trivial|exact⟨rfl,trivial⟩
  intro h47
  have e47:(lnkF (lyA fo.ly i) q).2=0:=by
   have:(cl (lyA fo.ly i).cs q).right<2:=by simpa using h47
   rw[lnkF,numF,numF,qq,qe this]
  refine z7 (Zrs [6] (zb (hQ _ _ ?_)));refine Zob ⟨4,[]⟩ ?_;rw[e31,e36,e47]
  first|trivial|exact⟨rfl,trivial⟩
 intro h36
 have e36:(lnkF (lyA fo.ly i) q).1=0:=by
  have:(cl (lyA fo.ly i).cs q).left<2:=by simpa using h36
  rw[lnkF,numF,qq,qe this]
 refine z7 (z6 (Zrs [6,9,10,11,47] ?_));refine Zcm ?_ ?_
 ·intro h47
  have e47:(lnkF (lyA fo.ly i) q).2=nth (lyA fo.ly i).ids ((cl (lyA fo.ly i).cs q).right-2).toNat:=by
   have:2<=(cl (lyA fo.ly i).cs q).right:=by simpa using h47
   rw[lnkF,numF,numF,qq,qc (show¬(cl (lyA fo.ly i).cs q).right<2 by omega)]
  have g47:2<=(cl (lyA fo.ly i).cs q).right:=by simpa using h47
  refine Zrg [6,11] ?_;refine Zrs [6] (zb (hQ _ _ ?_));refine Zob ⟨4,[]⟩ ?_;rw[e31,e36,e47]
  first|trivial|exact⟨rfl,trivial⟩
 intro h47
 have e47:(lnkF (lyA fo.ly i) q).2=0:=by
  have:(cl (lyA fo.ly i).cs q).right<2:=by simpa using h47
  rw[lnkF,numF,numF,qq,qe this]
 refine z7 (Zrs [6] (zb (hQ _ _ ?_)));refine Zob ⟨4,[]⟩ ?_;rw[e31,e36,e47]
 first|trivial|exact⟨rfl,trivial⟩
end
section
def lk_takeJ {l:List Lk}{i q:Nat}(h:q<i):lk (l.take i) q=lk l q:=by
 simp[lk,List.getD,Qb,h]
def app_lvsJ {xs ys:List (Int×Int)}{n:Nat}(h:xs.length=n):app (lvs xs) n (lvs ys)=lvs (xs++ys):=by
 subst h
 funext i
 simp only[app,lvs,pI,List.getD]
 by_cases h:i<xs.length
 ·rw[qe h,QC h]
 rw[qc h,QI (by omega)]
def rowsOf_lvJ (a b:Int):z3y 2 1 [SV.int .i64 a,SV.int .i64 b]=lvs [(a,b)]:=by
 funext i
 match i with
 |0=>rfl
 |i+1=>rfl
def upN (fo:Fo)(v:Int)(n:Nat):List (Int×Int):=(List.range n).map fun(q:Nat)=>nbF fo v q
def upN_len (fo:Fo)(v:Int)(n:Nat):(upN fo v n).length=n:=by simp[upN]
def upN_snoc (fo:Fo)(v:Int)(n:Nat):upN fo v n++[nbF fo v n]=upN fo v (n+1):=by simp[upN,Jp]
def upN_full (fo:Fo)(v:Int):upF fo v (fo.ht.toNat+1)=upN fo v (fo.ht.toNat+1):=List.map_congr_left fun q hq=>qe (Qu.1 hq)
def rlk_nb {fo:Fo}{v lv:Int}{a b:Nat}(h1:plI fo.ly v lv=a)(h2:plK fo.ly v lv=b):rlkF (lyA fo.ly a) b=nbF fo v lv:=by
 rw[rlkF,nbF,memF,z5w,h1,h2,qq,qq,gn,qq]
 cases(cl (lyA fo.ly a).cs b).gone<;>simp
open JoFm (gxE axE exE)
open JnNm (oxE)
open D0 (sdE)
def refLinks_spec (fo:Fo)(ls:Nat->List Int)(h:FI fo ls)(n k m:Nat)(hn:fo.ns.length=n)(hk:fo.ly.length=k)(hm:fo.cb.length=m):
  zj prog 72 [.agg [.slc false 0 0 0 n,.int .i64 fo.ht,.slc false 1 0 0 k,.slc false 3 0 0 m]] ⟨4,[(0,rI 62 3 n (nds fo.ns)),(1,rI 89 5 k (lyR 2 fo.ly)),(2,(3*k+1,fam false 3 1 (lyF false fo.ly))),(3,rI 58 3 m (cbs fo.cb))]⟩
   (fun s H1=>s= .slc true 4 0 0 (z33 fo).length/\H1=⟨6,[(4,rO 96 2 ((z33 fo).length) (lkR true 5 (z33 fo))),(5,((z33 fo).length+1,fam true 98 2 (lkF true (z33 fo))))]⟩):=by
 have hx64:=h.sh.few;have hx8:=h.sh.m8;have hh0:=h.sh.h0;have hh16:=h.sh.h16;have hpl:=presF_len fo 0;have hpN:prsN fo 0=z1w fo 0:=by rw[z1w,qe ⟨Jz _,hh0⟩,prsN]
 obtain⟨T,hT⟩:∃T,z33 fo=T:=⟨_,rfl⟩;have hTl:T.length=(z1w fo 0).length:=by rw[<-hT,z33,qx]
 have hTa:∀i,i<T.length->lk T i=⟨nth (z1w fo 0) i,upN fo (nth (z1w fo 0) i) (fo.ht.toNat+1)⟩:=fun i hi=>by
  rw[lk_lt hi,z30 (by omega),<-upN_full];subst hT;simp[z33]
 subst hn hk hm;rw[hT];obtain⟨w,hw⟩:∃w,fo.ht.toNat+1=w:=⟨_,rfl⟩;refine Zf false 47 [.tmp 2] func72 ntmps72 results72 fun w0 own0 β0 Q hQ hQn=> ?_;refine Zrs [1] (z6 ?_);refine sg [1,10] rfl ?_;intro K hK;refine Zo Zl ?_;refine Zd Zl (refValid_ok fo h.fv fo.ns.length fo.ly.length fo.cb.length rfl rfl rfl) (id) ?_;refine Zkl hK ?_;clear hK K;refine Zcm ?_ ?_
 ·intro h10
  exfalso;cases h10
 intro h10
 try replace h10:=Znb h10
 refine z7 (Zrs [1,3] ?_);refine sg [1,3,4] rfl ?_;intro K hK;refine Zo Zl ?_;refine Zd Zl (present_specF fo h.sh fo.ns.length fo.ly.length fo.cb.length 0 rfl rfl rfl) (id) ?_;rw[hpN];refine Zkl hK ?_;clear hK K;refine z6 (Zrs [1,3,4,5] (z2f 3 96 2 (lkR true 7 (T.take 0)) rfl ?_));dsimp only;refine z29 98 2 (lkF true (T.take 0)) ?_;dsimp only;refine z8 fun Q0 hN0 hX0 hR0 hE0=> ?_;refine zl (σ:=Nat) (fun i=>i<=(z1w fo 0).length) (fun i=>(z1w fo 0).length-i) (fun i=>[(1,.ptr 4 0 0 0),(3,.slc true 6 0 0 (i)),(4,.slc true 5 0 0 (z1w fo 0).length),(5,.int .i64 i)]) (fun i=>⟨8,[(6,rO 96 2 i (lkR true 7 (T.take (i)))),(7,((i)+1,fam true 98 2 (lkF true (T.take (i))))),(5,rO 3 1 ((z1w fo 0).length) (ints (z1w fo 0))),(4,rV 34 4 1 (fun _=>[.slc false 0 0 0 fo.ns.length,.int .i64 fo.ht,.slc false 1 0 0 fo.ly.length,.slc false 3 0 0 fo.cb.length])),(0,rI 62 3 fo.ns.length (nds fo.ns)),(1,rI 89 5 fo.ly.length (lyR 2 fo.ly)),(2,(3*fo.ly.length+1,fam false 3 1 (lyF false fo.ly))),(3,rI 58 3 fo.cb.length (cbs fo.cb))]⟩) 0 (ql _) (ρ:=id) (Zg id) ?_;rintro i hi QL1 hL1 hRL1 hEL1;refine z6 (Zrs [1,3,4,5,16] ?_);refine Zcn ?_ ?_
 ·intro h16;obtain⟨v,hv⟩:∃v,nth (z1w fo 0) i=v:=⟨_,rfl⟩;obtain⟨_,x,hx,hxi,hxm⟩:=presF_mem.1 (show v∈z1w fo 0 by rw[<-hv,z30 (by omega)];exact qK _);have hTi:=hTa i (by omega);rw[hv] at hTi;refine z7 (z6 ?_);refine z8 fun Q1 hN1 hX1 hR1 hE1=> ?_;refine sg [1,3,4,5,6] rfl ?_;intro K hK;iterate 5 (refine Zo Zl ?_)
  rw[hv];refine Zad ?_;refine Zkl hK ?_;clear hK K;refine z6 (Zrs [1,3,4,5,6,7] ?_);refine z2g 8 1 98 2 (lvs (upN fo v 0)) rfl rfl rfl rfl rfl rfl rfl rfl (by dsimp only;omega) (by simp[SV.ltL,SV.lt]) ?_;dsimp only;simp only[setO,↓reduceIte,Nat.reduceEqDiff,Nat.reduceAdd,Qf,Qe,reduceCtorEq,uQ,rO,rI,rV];refine z8 fun Q2 hN2 hX2 hR2 hE2=> ?_;refine zl (σ:=Nat) (fun q=>q<=w) (fun q=>w-q) (fun q=>[(1,.ptr 4 0 0 0),(3,.slc true 6 0 0 (i)),(4,.slc true 5 0 0 (z1w fo 0).length),(5,.int .i64 i),(6,.ptr 8 0 0 0),(7,.int .i64 q)]) (fun q=>⟨10,[(8,rV 96 2 1 (fun _=>[.int .i64 v,.slc true 9 0 0 q])),(9,rO 98 2 q (lvs (upN fo v q))),(6,rO 96 2 i (lkR true 7 (T.take (i)))),(7,((i)+1,fam true 98 2 (lkF true (T.take (i))))),(5,rO 3 1 ((z1w fo 0).length) (ints (z1w fo 0))),(4,rV 34 4 1 (fun _=>[.slc false 0 0 0 fo.ns.length,.int .i64 fo.ht,.slc false 1 0 0 fo.ly.length,.slc false 3 0 0 fo.cb.length])),(0,rI 62 3 fo.ns.length (nds fo.ns)),(1,rI 89 5 fo.ly.length (lyR 2 fo.ly)),(2,(3*fo.ly.length+1,fam false 3 1 (lyF false fo.ly))),(3,rI 58 3 fo.cb.length (cbs fo.cb))]⟩) 0 (ql _) (ρ:=id) (Zg id) ?_;rintro q hq QL2 hL2 hRL2 hEL2;refine z6 (Zrs [1,3,4,5,6,7,27] ?_);refine Zcn ?_ ?_
  ·intro h27;obtain⟨a,b,at_⟩:=h.sh.place hx (lv:=q) (by omega) (by omega);have hpI:=at_.pI;have hpK:=at_.pK;rw[hxi] at hpI hpK;rw[show(b:Int)+2=((b+2:Nat):Int) from by omega] at hpK;have hnb:=h.nbr at_;have hai:=at_.hi;have hce:=at_.cel;refine z7 (z6 ?_);refine z8 fun Q3 hN3 hX3 hR3 hE3=> ?_;refine Zrd [1,3,4,5,6,7] [0,1,2,3,4,5,6,7,8,9,10,11,12] (ws 0 [(10,[9]),(12,[8])]) (ws 0 [(10,[9]),(11,[9]),(12,[8,9])]) ?_;intro K hK;iterate 8 (refine Zo (Zi [] []) ?_)
   rw[hv];refine Zad ?_;refine Zd (Zi [] []) (refLink_spec fo h.sh fo.ns.length fo.ly.length fo.cb.length v q a (b+2) rfl rfl rfl hai hpI hpK hce hnb.1 hnb.2) (id) ?_;rw[rlk_nb hpI hpK];refine Zo (Zi [] []) ?_;refine Zo (Zi [9] [9]) ?_;refine Zo (Zi [] [9]) ?_;refine Zo (Zi [8] [8,9]) ?_;refine zz (Zpr (hK _ _ ?_));clear hK K;refine za (hN3 _ _ (Zrg [1,3,4,5,6,7] (za (hL2 _ _ ?_))));rw[rowsOf_lvJ,app_lvsJ (upN_len ..),show [((nbF fo v ↑q).fst,(nbF fo v ↑q).snd)]=[nbF fo v q] from rfl,upN_snoc,iS q];exact⟨q+1,⟨by omega,by omega⟩,fun z=>if z=9 then 11 else z,(Zg (fun z=>if z=9 then 11 else z))⟩
  intro h27;have hqe:q=w:=by omega
  subst hqe;refine zk (hEL2 _ _ _ (hX2 _ _ (Zrg [1,3,4,5] (za (hN1 _ _ ?_)))));have hlv:(lk T i).lv.length=q:=by rw[hTi];exact(upN_len ..).trans hw
  have hTk:∀z,z<i+1->lk (T.take (i+1)) z=lk T z:=fun z hz=>lk_takeJ hz;have hTj:∀z,z<i->lk (T.take i) z=lk T z:=fun z hz=>lk_takeJ hz
  have hout:∀z,z<i+1->app (lkR true 7 (T.take i)) i (z3y 2 1 [SV.int .i64 v,SV.slc true 9 0 0 q]) z=SV.renPL (mvP (fun z=>if z=6 then 11 else z) 7 i 9) (lkR true 7 (T.take (i+1)) z):=fun z hz=>by
   rw[lkR_renP,hTk z hz]
   split
   ·rename_i e;subst e;rw[app,qc (by omega),QV,hlv,hTi];rfl
   rw[app,qe (by omega),lkR,hTj z (by omega)];rfl
  refine z2y (fr':=[(1,.ptr 4 0 0 0),(3,.slc true 6 0 0 (i+1)),(4,.slc true 5 0 0 (z1w fo 0).length),(5,.int .i64 i)]) (H':=⟨8,[(6,rO 96 2 (i+1) (lkR true 7 (T.take (i+1)))),(7,((i+1)+1,fam true 98 2 (lkF true (T.take (i+1))))),(5,rO 3 1 ((z1w fo 0).length) (ints (z1w fo 0))),(4,rV 34 4 1 (fun _=>[.slc false 0 0 0 fo.ns.length,.int .i64 fo.ht,.slc false 1 0 0 fo.ly.length,.slc false 3 0 0 fo.cb.length])),(0,rI 62 3 fo.ns.length (nds fo.ns)),(1,rI 89 5 fo.ly.length (lyR 2 fo.ly)),(2,(3*fo.ly.length+1,fam false 3 1 (lyF false fo.ly))),(3,rI 58 3 fo.cb.length (cbs fo.cb))]⟩) _ (Zgp (fun z=>if z=6 then 11 else z) (7) (i) (9) (z17 rfl qf (by decide) (ze.of (fun _=>⟨rfl,rfl⟩) rfl (qd _) (hout)) (Obj.lt_row.2 fun q _=>(lkR_lt _ _ _ _ q).2 (qb rfl)) (qb rfl) (z47 rfl rfl qf ⟨fun _=>⟨rfl,rfl⟩,rfl⟩ (QW _) (fun z hz hne=>⟨by omega,lkF_givesP _ _ _ _ _ _ id (by rw[hTk z (by omega),hTj z (by omega)]),lkFm_lt _ _ _ _⟩) (lkF_newP _ _ _ _ _ (by rw[hTk i (by omega)];exact hlv) (fun z _=>by rw[hTk i (by omega),hTi,<-hw])) (lkFm_lt _ _ _ _) (qb rfl) (z17 rfl qf (by decide) (ze.of (fun _=>⟨rfl,rfl⟩) rfl (qd _) (fun q _=>(z2q _ _ q).symm)) (Obj.lt_row.2 fun q _=>z1u _ _ q) (qb rfl) (z17 rfl qf (by decide) (ze.of (fun _=>⟨rfl,rfl⟩) rfl (qd _) (fun _ _=>rfl)) (Obj.lt_row.2 fun q _=>by simp[SV.ltL,SV.lt]) (qb rfl) (z17 rfl qf (by decide) (ze.of (fun h=>(by cases h)) rfl (qd _) (fun q _=>(z28 _ _ q).symm)) (Obj.lt_row.2 fun q _=>z4e _ _ q) (qb rfl) (z17 rfl qf (by decide) (ze.of (fun h=>(by cases h)) rfl (qd _) (fun q _=>(show lyR 2 fo.ly q=SV.renPL _ (lyR 2 fo.ly q) by rw[lyR_renO _ _ _ _ _ _ _ (by decide)];rfl))) (Obj.lt_row.2 fun q _=>(z67 _ _ _ q).2 (qb rfl)) (qb rfl) (z1g.consO rfl (by decide) ⟨fun h=>(by cases h),rfl⟩ (qd _) (fun q _=>⟨z5r _ _ _ _ _ _ (fun h=>(by cases h)) rfl,z4i _ _ _ _⟩) (qb rfl) (z17 rfl qf (by decide) (ze.of (fun h=>(by cases h)) rfl (qd _) (fun q _=>(z4j _ _ q).symm)) (Obj.lt_row.2 fun q _=>cbs_lt _ _ q) (qb rfl) trivial))))))))) ?_
  refine Zrg [1,3,4,5] (za (hL1 _ _ ?_));rw[iS i];exact⟨i+1,⟨by omega,by omega⟩,id,(Zg id)⟩
 intro h16;have hie:i=T.length:=by omega
 subst hie;rw[jf];refine zk (hEL1 _ _ _ (hX0 _ _ (Zrs [2] (zb (hQ _ _ ?_)))));exact Zos (fun z=>if z=4 then 6 else if z=5 then 7 else z) (.slc true 4 0 0 T.length) (⟨6,[(4,rO 96 2 T.length (lkR true 5 T)),(5,(T.length+1,fam true 98 2 (lkF true T)))]⟩)
end
section
def linksF_lv (fo:Fo)(h0:0<=fo.ht)(h16:fo.ht<=16):lvOk (z33 fo):=by
 intro x hx;rw[lk_lt hx];simp only[z33,jA];rw[upF_len];omega
def JrKm.exE:=aj9 @z11 @zd @zf @zo @zh @zx @z10 ec2 (aj9 @zg @zp @zm @zi z58 @zn z3g z3w (aj9 @zq ec3 ec5 @z1a.eq_1 @zu.eq_1 @ints.eq_1 ec34 ec35 (aj7 ec36 @z18 @z4n ec46 ec47 @lkR_ap @lkF_ap)))
def JrKm.axE:=aj9 @z11 @zd @zf @zo @zh @zx @z10 ec2 (aj9 @zg @zp @zm @zi z58 @zn z3g z3w (aj9 @zq ec3 ec5 @z1a.eq_1 @zu.eq_1 ec34 ec35 @z18 (aj9 @z4n ec46 ec47 @z1p @z21 @z2j @z2r ec38 (aj @z38 ec49))))
open JoFm (gxE)
open JrKm (axE exE)
open JnNm (oxE)
open D0 (sdE)
def seenF_spec (fo:Fo)(ls:Nat->List Int)(h:FI fo ls)(n k m:Nat)(hn:fo.ns.length=n)(hk:fo.ly.length=k)(hm:fo.cb.length=m):
  zj prog 29 [.agg [.slc false 0 0 0 n,.int .i64 fo.ht,.slc false 1 0 0 k,.slc false 3 0 0 m],.agg [.slc false 4 0 0 n,.int .i64 fo.ht,.slc false 5 0 0 k,.slc false 7 0 0 m]] ⟨8,[(0,rI 62 3 n (nds fo.ns)),(1,rI 89 5 k (lyR 2 fo.ly)),(2,(3*k+1,fam false 3 1 (lyF false fo.ly))),(3,rI 58 3 m (cbs fo.cb)),(4,rI 62 3 n (nds fo.ns)),(5,rI 89 5 k (lyR 6 fo.ly)),(6,(3*k+1,fam false 3 1 (lyF false fo.ly))),(7,rI 58 3 m (cbs fo.cb))]⟩ (fun s H1=>s= .bool true/\H1=⟨8,[]⟩):=by
 have hx64:=h.sh.few;have hx8:=h.sh.m8;have hh0:=h.sh.h0;have hh16:=h.sh.h16;have hlv:=linksF_lv fo hh0 hh16;have hll:(z33 fo).length<=20:=by rw[z33,qx];have:=presF_len fo 0;omega
 subst hn hk hm;refine Zf false 40 [.tmp 4] func29 ntmps29 results29 fun w0 own0 β0 Q hQ hQn=> ?_;refine Zrs [2,3] (z6 ?_);refine Zrs [2,3,5] ?_;refine z8 fun Q0 hN0 hX0 hR0 hE0=> ?_;refine zl (σ:=Nat) (fun j=>j<=fo.ht.toNat+3) (fun j=>fo.ht.toNat+3-j) (fun j=>[(2,.ptr 8 0 0 0),(3,.ptr 9 0 0 0),(5,.int .i64 (((j:Nat):Int)-1))]) (fun _=>⟨10,[(9,rV 34 4 1 (fun _=>[.slc false 4 0 0 fo.ns.length,.int .i64 fo.ht,.slc false 5 0 0 fo.ly.length,.slc false 7 0 0 fo.cb.length])),(8,rV 34 4 1 (fun _=>[.slc false 0 0 0 fo.ns.length,.int .i64 fo.ht,.slc false 1 0 0 fo.ly.length,.slc false 3 0 0 fo.cb.length])),(0,rI 62 3 fo.ns.length (nds fo.ns)),(1,rI 89 5 fo.ly.length (lyR 2 fo.ly)),(2,(3*fo.ly.length+1,fam false 3 1 (lyF false fo.ly))),(3,rI 58 3 fo.cb.length (cbs fo.cb)),(4,rI 62 3 fo.ns.length (nds fo.ns)),(5,rI 89 5 fo.ly.length (lyR 6 fo.ly)),(6,(3*fo.ly.length+1,fam false 3 1 (lyF false fo.ly))),(7,rI 58 3 fo.cb.length (cbs fo.cb))]⟩) 0 (ql _) (ρ:=id) (Zg id) ?_;rintro j hj QL1 hL1 hRL1 hEL1;refine z6 (Zrs [2,3,5,10] ?_);refine Zcm ?_ ?_
 ·intro h10;replace h10:=Znb h10;have hpl:=presF_len fo (((j:Nat):Int)-1);refine z7 (z6 ?_);refine z8 fun Q1 hN1 hX1 hR1 hE1=> ?_;refine z6 ?_;refine Zrd [2,3,5,20] [0,1,3,4,2,5,6,7] [] [] ?_;intro K hK;iterate 4 (refine Zo (Zi [] []) ?_)
  refine Zd (Zi [] []) (Present_spec fo ls h fo.ns.length fo.ly.length fo.cb.length (((j:Nat):Int)-1) rfl rfl rfl) (id) ?_;refine Zd (Zi [] []) (refPresent_spec fo h.fv fo.ns.length fo.ly.length fo.cb.length (((j:Nat):Int)-1) rfl rfl rfl) (fun q=>if q<4 then q+4 else q) ?_;refine Zd (Zi [] []) (sameI5_spec (z1w fo (((j:Nat):Int)-1)) (z1w fo (((j:Nat):Int)-1)) (z1w fo (((j:Nat):Int)-1)).length (z1w fo (((j:Nat):Int)-1)).length rfl rfl (by omega) (by omega)) (fun q=>q+10) ?_;simp only[jR];refine Zki hK ?_;clear hK K;refine Zcm ?_ ?_
  ·intro h20
   exfalso;cases h20
  intro h20;refine z7 (za (hN1 _ _ (Zrg [2,3,5] (za (hL1 _ _ ?_)))));rw[show(((j:Nat):Int)-1)+1=((j+1:Nat):Int)-1 from by omega];exact⟨j+1,⟨by omega,by omega⟩,id,(Zg id)⟩
 intro h10;refine zk (hEL1 _ _ _ (hX0 _ _ (z6 ?_)));refine Cs.regNil [4] (.op 0 (.op 2 (.op 1 (.op 3 (.op 4 (.op 5 (.op 6 (.op 8 (.op 7 (.op 9 (.op 10 (.op 11 (.op 12 (.op 13 (.op 15 (.op 14 (.op 16 (.op 17 (.op 18 (.op 19 .done)))))))))))))))))))) [[],[],[],[],[],[],[],[],[],[],[],[],[],[],[],[],[],[],[],[]] [[],[],[],[],[],[],[],[],[],[],[],[],[],[],[],[],[],[],[],[]] Tryz.mo rfl rfl (by kernel_rfl) (by kernel_rfl) (by kernel_rfl) ?_;intro K hK hG
 have hk6:K [(4,.bool true)] ⟨10,[(9,rV 34 4 1 (fun _=>[.slc false 4 0 0 fo.ns.length,.int .i64 fo.ht,.slc false 5 0 0 fo.ly.length,.slc false 7 0 0 fo.cb.length])),(8,rV 34 4 1 (fun _=>[.slc false 0 0 0 fo.ns.length,.int .i64 fo.ht,.slc false 1 0 0 fo.ly.length,.slc false 3 0 0 fo.cb.length])),(0,rI 62 3 fo.ns.length (nds fo.ns)),(1,rI 89 5 fo.ly.length (lyR 2 fo.ly)),(2,(3*fo.ly.length+1,fam false 3 1 (lyF false fo.ly))),(3,rI 58 3 fo.cb.length (cbs fo.cb)),(4,rI 62 3 fo.ns.length (nds fo.ns)),(5,rI 89 5 fo.ly.length (lyR 6 fo.ly)),(6,(3*fo.ly.length+1,fam false 3 1 (lyF false fo.ly))),(7,rI 58 3 fo.cb.length (cbs fo.cb))]⟩:=by
  refine hK _ _ ?_;clear hG hK K;refine zb (hQ _ _ ?_);exact Zoc ⟨8,[]⟩
 refine Zo (ZT [] [] []) ?_;refine Zo (ZT [] [] []) ?_;refine Zd (ZT [] [] []) (Links_spec fo ls h fo.ns.length fo.ly.length fo.cb.length rfl rfl rfl) (id) ?_;refine Zd (ZT [] [] []) (refLinks_spec fo ls h fo.ns.length fo.ly.length fo.cb.length rfl rfl rfl) (fun q=>if q<4 then q+4 else q) ?_;refine Zd (ZT [] [] []) (refSame_lk_spec (z33 fo) (z33 fo) (z33 fo).length (z33 fo).length rfl rfl (by omega) (by omega) hlv hlv) (fun q=>q+10) ?_;simp only[jR];iterate 3 (refine Zo (ZT [] [] []) ?_)
 refine runT_op _ [] [] [] rfl rfl rfl rfl ?_;refine z1b rfl rfl ?_;refine Zgr ?_;refine⟨fun _=> ?_,fun h=>(by cases h)⟩;refine Zo id ?_;refine Zc1 (Check_spec fo ls h fo.ns.length fo.ly.length fo.cb.length rfl rfl rfl) (id) ?_;refine runT_op _ [] [] [] rfl rfl rfl rfl ?_;refine z1b rfl rfl ?_;refine Zgr ?_;refine⟨fun _=> ?_,fun h=>(by cases h)⟩;refine Zo id ?_;refine Zc1 (refCheck_specF fo ls h fo.ns.length fo.ly.length fo.cb.length rfl rfl rfl) (fun q=>if q<4 then q+4 else q) ?_;iterate 5 (refine Zo (ZT [] [] []) ?_)
 refine runT_op _ [] [] [] rfl rfl rfl rfl ?_;refine z1b rfl rfl ?_;refine Zgr ?_;refine⟨fun _=> ?_,fun h=>(by cases h)⟩;refine Zo id ?_;refine Zc1 (Bound_spec fo ls h fo.ns.length fo.ly.length fo.cb.length rfl rfl rfl) (id) ?_;refine runT_op _ [] [] [] rfl rfl rfl rfl ?_;refine z1b rfl rfl ?_;refine Zgr ?_;refine⟨fun _=> ?_,fun h=>(by cases h)⟩;refine Zo id ?_;refine Zc1 (refBound_spec fo h.fv fo.ns.length fo.ly.length fo.cb.length rfl rfl rfl) (fun q=>if q<4 then q+4 else q) ?_;iterate 3 (refine Zo (ZT [] [] []) ?_)
 refine z14 ?_;refine Zpr ?_;exact hG _ _ _ _ id (Zg id) hk6
end
end Go.Proofs
