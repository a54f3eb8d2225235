/-
  Walks and plain facts, joined: part 14 of 18.
  Conditions: those that each statement names.
-/
import Derived.Test.YtpnefndionckaaaGreatDoorRpk
import Derived.Test.YtpnefndionckaaaGreatDoorRpm
import Derived.Test.YtpnefndionckaaaGreatDoorRpb
import Derived.Test.YtpnefndionckaaaGreatDoorRph
import Derived.Test.YtpnefndionckaaaGreatDoorRpc
import Derived.Test.YtpnefndionckaaaGreatDoorRpj
set_option linter.unusedSimpArgs false
set_option linter.unusedVariables false
set_option linter.defProp false
set_option maxRecDepth 4000
set_option maxHeartbeats 8000000
namespace Go.Proofs
open Tryz
open Go.Sk
def Tryz.tyMapIB:z1o prog 56=⟨true,.map 3 4,1,8,[]⟩:=by kernel_rfl
def Tryz.zStrN:z3d prog 9=some [.str ⟨#[]⟩]:=by kernel_rfl
section
variable {ns:List Nd} {h:Nat}
def shp_sub (hc:z1t ns=0)(h16:h<=16){i:Nat}(hi:i<(z37 ns h).length):(shA (z37 ns h) i).2.Sublist (z4w ns):=
 by
 rw[shA_lt hi];obtain⟨n,h1,h2,h3⟩:=mem_shpL.1 (qK (l:=z37 ns h) (n:=i) hi);exact cls_sub (by omega) h3
def shp_keys (hc:z1t ns=0)(h16:h<=16){i:Nat}(hi:i<(z37 ns h).length):(∀k,k<(shA (z37 ns h) i).2.length->okKey (kAt (keyL (shA (z37 ns h) i).2) k)=true)/\(keyL (shA (z37 ns h) i).2).Nodup/\(shA (z37 ns h) i).2.length<=64:=by
 have hs:=shp_sub hc h16 hi;have hg:=good_sub hs (good_perm (z26 _) hc);have hgi:=(good_iff _).1 hg;refine⟨fun k hk=> ?_,?_,hgi.1⟩
 ·rw[keyL_at hk];have:=hgi.2.1 _ (nd_mem hk);simp only[badN,qk] at this;simp_all
 rw[keyL,Ji,jN];exact hgi.2.2.imp fun h=>(twinN_false h).2
def lvl_len (hc:z1t ns=0)(h16:h<=16):(z4s ns (h+1)).length=(z37 ns h).length:=by
 rw[show z4s ns (h+1)=lvlL ns h from rfl,lvlL_eq hc h16,qx]
def shp_at (hc:z1t ns=0)(h16:h<=16){lv i:Nat}(hl:lv<=h)(hi:i<(lstN ns (lv:Int)).length):(z4s ns lv).length+i<(z37 ns h).length/\(shA (z37 ns h) ((z4s ns lv).length+i)).1=lv/\(shA (z37 ns h) ((z4s ns lv).length+i)).2.map (·.id)=ind (lstN ns (lv:Int)) i:=by
 have h1:=lvlP_le (ns:=ns) (show lv+1<=h+1 by omega);rw[lvlP_len,lvl_len hc h16] at h1;have h2:(z4s ns lv).length+i<(z37 ns h).length:=by omega
 have h3:=lvA_in hl hi;rw[lvA_eq hc h16 h2] at h3;obtain⟨e1,e2⟩:=Prod.mk.inj h3;exact⟨h2,e1,e2⟩
end
def keyL_take {c:List Nd}{j:Nat}(h:j<c.length):(keyL c).take (j+1)=(keyL c).take j++[(nd c j).key]:=by
 rw[jp (by rw[z3e];exact h),z4z h];simp[keyL]
def innL_take {dn:List Int}{c:List Nd}{j:Nat}(h:j<c.length):(innL dn c).take (j+1)=(innL dn c).take j++[dn.contains (nd c j).id]:=by
 rw[jp (by rw[z5c];exact h),z4z h];simp[innL]
def any_takeI {l:List Int}(hd:l.Nodup){i:Nat}(h:i<l.length):(l.take i).contains (nth l i)=false:=by
 rw[List.contains_eq_any_beq,Jv];intro x hx;obtain⟨j,hj,rfl⟩:=Qk hx;rw[qN] at hj;rw[z30 h,jh];intro e;have e':l[j]=l[i]:=((qD ..).1 e).symm;exact absurd e' (Qd.1 hd j i (by omega) h (by omega))
def take_nthN {l:List Int}{i:Nat}(h:i<l.length):l.take (i+1)=l.take i++[nth l i]:=by
 rw[z30 h,List.take_add_one,qJ h];rfl
def cbs_zero (m:Nat):(fun _=>[SV.int .i64 0,SV.int .i64 0,SV.int .i64 0])=cbs (List.replicate m noCb):=by
 funext i
 rw[cbs,cbA_new];rfl
def app_strs1 {c:List Nd}{j:Nat}(h:j<c.length):app (strsK ((keyL c).take j)) j (z3y 1 1 [SV.str (nd c j).key])=strsK ((keyL c).take (j+1)):=by
 have hl:((keyL c).take j).length=j:=by rw[qN,z3e];omega
 funext i
 rw[keyL_take h,app];unfold strsK kAt
 split
 ·rename_i g;rw[qw,qw,QC (by omega)]
 rename_i g;rw[qw,QI (by omega),hl]
 by_cases e:i=j
 ·subst e;rw[QV];rfl
 obtain⟨t,ht⟩:∃t,i-j=t+1:=⟨i-j-1,by omega⟩;rw[ht];rfl
def app_bos1 {dn:List Int}{c:List Nd}{j:Nat}(h:j<c.length)(v:Int)(hv:v=(nd c j).id):app (bos ((innL dn c).take j)) j (z3y 1 1 [SV.bool (dn.contains v)])=bos ((innL dn c).take (j+1)):=by
 have hl:((innL dn c).take j).length=j:=by rw[qN,z5c];omega
 subst hv
 funext i
 rw[innL_take h,app];unfold bos bAt
 split
 ·rename_i g;rw[qw,qw,QC (by omega)]
 rename_i g;rw[qw,QI (by omega),hl]
 by_cases e:i=j
 ·subst e;rw[QV];rfl
 obtain⟨t,ht⟩:∃t,i-j=t+1:=⟨i-j-1,by omega⟩;rw[ht];rfl
def ind_drop (ls:List (List Int))(i q:Nat):ind (ls.drop i) q=ind ls (i+q):=by
 rw[ind,ind,qw,qw,QR]
def lyA_ge {L:List Ly}{i:Nat}(h:L.length<=i):lyA L i=noLy:=by rw[lyA,qw,qP h];rfl
def pxL_step {L:List Ly}{ls:List (List Int)}{P i q:Nat}(hP:P+ls.length<=L.length)(hi:i<ls.length)(hq:q≠P+i):lyA (pxL L (P+i+1) (ls.drop (i+1))) q=lyA (pxL L (P+i) (ls.drop i)) q:=by
 by_cases g:q<P+i
 ·rw[pxL_lo (by omega) (by omega),pxL_lo (by omega) g]
 by_cases g2:q<P+ls.length
 ·obtain⟨t,rfl⟩:∃t,q=P+i+1+t:=⟨q-(P+i+1),by omega⟩;rw[pxL_hi (by omega) (by rw[QO];omega),show P+i+1+t=P+i+(t+1) by omega,pxL_hi (by omega) (by rw[QO];omega),ind_drop,ind_drop,show i+1+t=i+(t+1) by omega]
 rw[lyA_ge (by simp[pxL];omega),lyA_ge (by simp[pxL];omega)]
def hdN_nd {c:List Nd}(h:0<c.length):(hdN c).word=(nd c 0).word:=by
 cases c with
 |nil=>cases h
 |cons _ _=>rfl
def ec44:=aj @lsS.eq_1 @lsH.eq_1
def JoDm.exE:=aj9 @z11 @zd @zf @zo @zh @zx @z10 ec2 (aj9 @zg @zp @zm @zi z58 @zn z3g z3w (aj9 @zq ec3 ec5 @z1a.eq_1 @zu.eq_1 @ints.eq_1 ec34 ec35 (aj9 ec36 @ex_map @lsCap.eq_1 ec44 ec30 ec31 @lyI_ap ec39 (aj5 @Tryz.tyMapIB @Tryz.zB @Tryz.zStrN ec40 @z18))))
def JoDm.gxE:=aj9 @z11 z3g ec16 z3w ec3 ec7 ec8 @z1a.eq_1 (aj9 @zu.eq_1 @z20 @z1u ec37 ec26 ec29 @lsCap.eq_1 ec32 (aj7 @lyI_ren' @lyI_lt ec42 @lt_blk ec40 @z3e @z5c))
def JoDm.axE:=aj9 @z11 @zd @zf @zo @zh @zx @z10 ec2 (aj9 @zg @zp @zm @zi z58 @zn z3g z3w (aj9 @zq ec3 ec5 @z1a.eq_1 @zu.eq_1 ec34 ec35 @ex_map (aj9 @lsCap.eq_1 ec44 ec30 @lyI_ap ec39 @Tryz.tyMapIB @Tryz.zB @Tryz.zStrN (aj9 ec40 @z18 @z1p @z21 @z2j @z2r ec38 @z38 (aj4 ec43 ec33 @ilR_fold @lyI_ren)))))
open JoDm (gxE axE exE)
open JnNm (oxE)
open D0 (sdE)
def New_ok (ns:List Nd)(dn:List Int)(m n d:Nat)(ht:Int)(hn:ns.length=n)(hd:dn.length=d)(hc:z1t ns=0)(hs:ns.length<=20)(m1:1<=m)(m8:m<=8)(h0:0<=ht)(h16:ht<=16)(hdx:d<=1000000)(hin:∀v∈dn,0<=findI ns v)(hnd:dn.Nodup):
  zj prog 16 [.slc false 0 0 0 n,.slc false 1 0 0 d,.int .i64 m,.int .i64 ht] ⟨2,[(0,rI 62 3 n (nds ns)),(1,rI 3 1 d (ints dn))]⟩
   (fun s H1=>s= .tup [.agg [.slc true 2 0 0 n,.int .i64 ht,.slc true 3 0 0 (z2n ns dn m ht).ly.length,.slc true 5 0 0 m],.int .i64 0]/\H1=⟨6,[(2,rO 62 3 n (nds ns)),(3,rO 89 5 ((z2n ns dn m ht).ly.length) (lyR 4 (z2n ns dn m ht).ly)),(4,(3*(z2n ns dn m ht).ly.length+1,fam true 3 1 (lyF true (z2n ns dn m ht).ly))),(5,rO 58 3 m (cbs (List.replicate m noCb)))]⟩):=by
 subst hn hd;have h64:ns.length<=64:=((good_iff ns).1 hc).1;obtain⟨h,hh⟩:∃h:Nat,ht=h:=⟨ht.toNat,by omega⟩;have hhn:ht.toNat=h:=by omega
 have hn16:h<=16:=by omega
 have hLe:(z2n ns dn m ht).ly=(z37 ns h).map (newLy dn m):=by rw[z2n,hhn]
 obtain⟨L,hL⟩:∃L,(z37 ns h).map (newLy dn m)=L:=⟨_,rfl⟩;have hLl:(z4s ns (h+1)).length=L.length:=by rw[<-hL,qx];exact lvl_len hc hn16
 have hLx:L.length<=1088:=by
  have:=lvlP_bd ns (h+1);have:(h+1)*ns.length<=17*64:=j9 (by omega) h64;omega
 rw[hLe,hL];refine Zf false 145 [.cell 8 34,.tmp 9] func16 ntmps16 results16 fun w0 own0 β0 Q hQ hQn=> ?_;refine Zrs [0,1,2,3,8] (z6 ?_);refine sg [0,1,2,3,8,31] rfl ?_;intro K hK;refine Zo Zl ?_;refine Zd Zl (check_spec ns ns.length rfl (by omega)) (id) ?_;refine Zkl hK ?_;clear hK K;refine Zcm ?_ ?_
 ·intro h31
  exfalso;simp[hc] at h31
 intro h31;refine z7 (z6 (Zrs [0,1,2,3,8,46] ?_));refine Zcm ?_ ?_
 ·intro h46
  exfalso;replace h46:=Znb h46;omega
 intro h46;refine z7 (Zrs [0,1,2,3,8,10] (z6 ?_));refine Zrs [0,1,2,3,8,10,49,50,51] ?_;refine z8 fun Q0 hN0 hX0 hR0 hE0=> ?_;refine zl (σ:=Nat) (fun i=>i<=dn.length) (fun i=>dn.length-i) (fun i=>[(0,.slc false 0 0 0 ns.length),(1,.slc false 1 0 0 dn.length),(2,.int .i64 m),(3,.int .i64 ht),(8,.ptr 2 0 0 0),(10,.mp 3 0),(49,.slc false 1 0 0 dn.length),(50,.int .i64 dn.length),(51,.int .i64 i)]) (fun i=>⟨4,[(3,uQ (.blk true (.ints (dn.take i)))),(2,rV 34 4 1 (fun _=>[.nils,.int .i64 0,.nils,.nils])),(0,rI 62 3 ns.length (nds ns)),(1,rI 3 1 dn.length (ints dn))]⟩) 0 (ql _) (ρ:=id) (have xE:=@z1a.eq_1;Zgx id) ?_;rintro i hi QL1 hL1 hRL1 hEL1;refine Zrs [0,1,2,3,8,10,49,50,51,52] (z6 ?_);refine Zcn ?_ ?_
 ·intro h52;refine z7 (z6 ?_);refine z8 fun Q1 hN1 hX1 hR1 hE1=> ?_;refine Zrs [0,1,2,3,8,10,12,49,50,51] (z6 ?_);refine sg [0,1,2,3,8,10,12,14,49,50,51] rfl ?_;intro K hK;iterate 2 (refine Zo Zl ?_)
  refine Zd Zl (find_spec ns (nth dn i) ns.length rfl (by omega)) (id) ?_;refine Zkl hK ?_;clear hK K;refine Zrs [0,1,2,3,8,10,12,49,50,51,62] ?_;refine Zcm ?_ ?_
  ·intro h62
   exfalso
   have:=hin (nth dn i) (by rw[z30 (by omega)];exact qK _);simp at h62;omega
  intro h62;refine z7 ?_;refine z3v [0,1,2,3,8,10,49,50,51] rfl ?_;intro K hK;iterate 3 (refine Zo Zl ?_)
  rw[any_takeI hnd (show i<dn.length by omega)];simp only[qz,Ql];rw[<-take_nthN (show i<dn.length by omega)];refine Zad ?_;refine Zk hK ?_;clear hK K;refine za (hN1 _ _ (Zrg [0,1,2,3,8,10,49,50,51] (za (hL1 _ _ ?_))));rw[iS i];exact⟨i+1,⟨by omega,by omega⟩,id,(Zg id)⟩
 intro h52;have hid:i=dn.length:=by omega
 subst hid;rw[jf];refine zk (hEL1 _ _ _ (hX0 _ _ (z6 (Zrs [0,2,3,8,10,71] ?_))));refine Zcm ?_ ?_
 ·intro h71
  exfalso;replace h71:=Znb h71;omega
 intro h71;refine z7 (z6 ?_);refine Zrt [0,2,3,8,10,15] (.op 0 (.op 2 (.op 3 (.three 1 4 6 (.two 4 6 (.op 5 (.op 6 (.op 7 .done))) (.op 4 (.op 5 (.op 7 .done)))) (.two 1 6 (.op 5 (.op 6 (.op 7 .done))) (.op 1 (.op 5 (.op 7 .done)))) (.two 1 4 (.op 4 (.op 5 (.op 7 .done))) (.op 1 (.op 5 (.op 7 .done)))))))) [] [] ?_;intro K hK hG
 have hk16:K [(0,.slc false 0 0 0 ns.length),(2,.int .i64 m),(3,.int .i64 ht),(8,.ptr 2 0 0 0),(10,.mp 3 0),(15,.ptr 6 0 0 0)] ⟨7,[(6,rV 34 4 1 (fun _=>[.slc true 4 0 0 ns.length,.int .i64 ht,.nils,.slc true 5 0 0 m])),(5,rO 58 3 m (fun _=>[SV.int .i64 0,SV.int .i64 0,SV.int .i64 0])),(4,rO 62 3 ns.length (nds ns)),(3,uQ (.blk true (.ints dn))),(2,rV 34 4 1 (fun _=>[.nils,.int .i64 0,.nils,.nils])),(0,rI 62 3 ns.length (nds ns))]⟩:=by
  refine hK _ _ ?_;clear hG hK K;refine z6 (Zrs [0,2,8,10,15,80,81] ?_);rw[cbs_zero m];refine z2g 6 2 89 5 (lyR 8 (L.take 0)) rfl rfl rfl rfl rfl rfl rfl rfl (by dsimp only;omega) (by simp[SV.ltL,SV.lt]) ?_;simp only[setO,↓reduceIte,Nat.reduceEqDiff,Nat.reduceAdd,Qf,Qe,reduceCtorEq,uQ,rO,rI,rV];refine z29 3 1 (lyF true (L.take 0)) ?_;dsimp only;refine z8 fun Q2 hN2 hX2 hR2 hE2=> ?_;refine zl (σ:=Nat) (fun lv=>lv<=h+1) (fun lv=>h+1-lv) (fun lv=>[(0,.slc false 0 0 0 ns.length),(2,.int .i64 m),(8,.ptr 2 0 0 0),(10,.mp 3 0),(15,.ptr 6 0 0 0),(80,.int .i64 (ht+1)),(81,.int .i64 lv)]) (fun lv=>⟨9,[(6,rV 34 4 1 (fun _=>[.slc true 4 0 0 ns.length,.int .i64 ht,.slc true 7 0 0 ((z4s ns lv).length),.slc true 5 0 0 m])),(7,rO 89 5 ((z4s ns lv).length) (lyR 8 (L.take ((z4s ns lv).length)))),(8,(3*((z4s ns lv).length)+1,fam true 3 1 (lyF true (L.take ((z4s ns lv).length))))),(5,rO 58 3 m (cbs (List.replicate m noCb))),(4,rO 62 3 ns.length (nds ns)),(3,uQ (.blk true (.ints dn))),(2,rV 34 4 1 (fun _=>[.nils,.int .i64 0,.nils,.nils])),(0,rI 62 3 ns.length (nds ns))]⟩) 0 (ql _) (ρ:=id) (have xE:=@z4s.eq_1;Zgx id) ?_;rintro lv hlv QL2 hL2 hRL2 hEL2;refine Zrs [0,2,8,10,15,80,81,82] (z6 ?_);refine Zcn ?_ ?_
  ·intro h82;refine z7 (z6 ?_);refine z8 fun Q3 hN3 hX3 hR3 hE3=> ?_;refine Zrs [0,2,8,10,15,16,80,81] ?_;refine sg [0,2,8,10,15,16,80,81,86,87,88] rfl ?_;intro K hK;iterate 2 (refine Zo Zl ?_)
   refine Zd Zl (lists_spec ns ns.length rfl lv (by omega)) (id) ?_;have hll:=lstN_len ns (lv:Int);have hil:=ind_len ns (lv:Int);have hsA:=fun i=>shp_at hc hn16 (lv:=lv) (i:=i) (by omega);have hps:=lvlP_len (ns:=ns) (n:=lv);have hpl:=lvlP_le (ns:=ns) (show lv+1<=h+1 by omega);obtain⟨ls,hls⟩:∃ls,lstN ns (lv:Int)=ls:=⟨_,rfl⟩;obtain⟨P,hP⟩:∃P,(z4s ns lv).length=P:=⟨_,rfl⟩;rw[hls] at hll hil hsA hps ⊢;rw[hP] at hps hsA ⊢;refine Zkl hK ?_;clear hK K;have hPw:P+ls.length<=L.length:=by omega
   refine Cs.famE (2*ls.length) 3 1 lyE (fun i _=>lyE_0 i) ?_;dsimp only;have hout:∀q,q<P+0->lyR 8 (L.take P) q=SV.renPL (anP (fun q=>q) 8 (mgM 8 10 11 P)) (lyR 8 (L.take (P+0)) q):=fun q hq=>(lyR_renG (fun q=>q) 8 10 11 P (L.take P) hq).symm;refine z2y (fr':=[(0,.slc false 0 0 0 ns.length),(2,.int .i64 m),(8,.ptr 2 0 0 0),(10,.mp 3 0),(15,.ptr 6 0 0 0),(16,.int .i64 lv),(80,.int .i64 (ht+1)),(81,.int .i64 lv),(86,.slc true 9 0 0 ls.length),(87,.int .i64 ls.length),(88,.int .i64 0)]) (H':=⟨10,[(9,rO 22 1 ls.length (lyI 8 P ls)),(6,rV 34 4 1 (fun _=>[.slc true 4 0 0 ns.length,.int .i64 ht,.slc true 7 0 0 (P+0),.slc true 5 0 0 m])),(7,rO 89 5 (P+0) (lyR 8 (L.take (P+0)))),(8,(3*(P+ls.length)+1,fam true 3 1 (lyF true (pxL L (P+0) (ls.drop (0)))))),(5,rO 58 3 m (cbs (List.replicate m noCb))),(4,rO 62 3 ns.length (nds ns)),(3,uQ (.blk true (.ints dn))),(2,rV 34 4 1 (fun _=>[.nils,.int .i64 0,.nils,.nils])),(0,rI 62 3 ns.length (nds ns))]⟩) _ (Zga (fun q=>q) (8) (mgM 8 10 11 P) ((z35 rfl qf (ze.of (fun _=>⟨rfl,rfl⟩) rfl (qd _) (fun q _=>(lyI_renG _ _ _ _ _ _ q).symm)) (Obj.lt_row.2 fun q _=>(lyI_lt _ _ _ _ q).2 (qb rfl)) (qb rfl) (z35 rfl qf (ze.of (fun _=>⟨rfl,rfl⟩) rfl (qd _) (fun _ _=>rfl)) (Obj.lt_row.2 fun q _=>by simp[SV.ltL,SV.lt]) (qb rfl) (z35 rfl qf (ze.of (fun _=>⟨rfl,rfl⟩) rfl (qd _) (hout)) (Obj.lt_row.2 fun q _=>(z67 _ _ _ q).2 (qb rfl)) (qb rfl) (lyF_consG (by omega) rfl rfl rfl rfl (qb rfl) (z35 rfl qf (ze.of (fun _=>⟨rfl,rfl⟩) rfl (qd _) (fun q _=>(z4j _ _ q).symm)) (Obj.lt_row.2 fun q _=>cbs_lt _ _ q) (qb rfl) (z35 rfl qf (ze.of (fun _=>⟨rfl,rfl⟩) rfl (qd _) (fun q _=>(z28 _ _ q).symm)) (Obj.lt_row.2 fun q _=>z4e _ _ q) (qb rfl) (z35 rfl qf ⟨id,rfl⟩ trivial (qb rfl) (z35 rfl qf (ze.of (fun _=>⟨rfl,rfl⟩) rfl (qd _) (fun _ _=>rfl)) (Obj.lt_row.2 fun q _=>by simp[SV.ltL,SV.lt]) (qb rfl) (z35 rfl qf (ze.of (fun h=>(by cases h)) rfl (qd _) (fun q _=>(z28 _ _ q).symm)) (Obj.lt_row.2 fun q _=>z4e _ _ q) (qb rfl) trivial)))))))))) (mgM_ok 8 10 11 P (by decide) rfl ⟨qb rfl,qb rfl,qb rfl⟩) (⟨Or.inr (mgM_ne (by decide)),⟨Or.inr (mgM_ne (by decide)),⟨Or.inr (mgM_ne (by decide)),⟨Or.inl rfl,⟨Or.inr (mgM_ne (by decide)),⟨Or.inr (mgM_ne (by decide)),⟨Or.inr (mgM_ne (by decide)),⟨Or.inr (mgM_ne (by decide)),⟨Or.inr (mgM_ne (by decide)),trivial⟩⟩⟩⟩⟩⟩⟩⟩⟩)) ?_
   refine z8 fun Q4 hN4 hX4 hR4 hE4=> ?_;refine zl (σ:=Nat) (fun i=>i<=ls.length) (fun i=>ls.length-i) (fun i=>[(0,.slc false 0 0 0 ns.length),(2,.int .i64 m),(8,.ptr 2 0 0 0),(10,.mp 3 0),(15,.ptr 6 0 0 0),(16,.int .i64 lv),(80,.int .i64 (ht+1)),(81,.int .i64 lv),(86,.slc true 9 0 0 ls.length),(87,.int .i64 ls.length),(88,.int .i64 i)]) (fun i=>⟨10,[(9,rO 22 1 ls.length (lyI 8 P ls)),(6,rV 34 4 1 (fun _=>[.slc true 4 0 0 ns.length,.int .i64 ht,.slc true 7 0 0 (P+i),.slc true 5 0 0 m])),(7,rO 89 5 (P+i) (lyR 8 (L.take (P+i)))),(8,(3*(P+ls.length)+1,fam true 3 1 (lyF true (pxL L (P+i) (ls.drop (i)))))),(5,rO 58 3 m (cbs (List.replicate m noCb))),(4,rO 62 3 ns.length (nds ns)),(3,uQ (.blk true (.ints dn))),(2,rV 34 4 1 (fun _=>[.nils,.int .i64 0,.nils,.nils])),(0,rI 62 3 ns.length (nds ns))]⟩) 0 (ql _) (ρ:=id) (Zg id) ?_;rintro i hi QL3 hL3 hRL3 hEL3;refine Zrs [0,2,8,10,15,16,80,81,86,87,88,89] (z6 ?_);refine Zcn ?_ ?_
   ·intro h89;obtain⟨hp1,hp2,hp3⟩:=hsA i (by omega);have hk3:=shp_keys hc hn16 hp1;have hsb:=shpL_sub hn16 hp1;obtain⟨c,hcc⟩:∃c,(shA (z37 ns h) (P+i)).2=c:=⟨_,rfl⟩;rw[hcc] at hp3 hk3 hsb;have hcl:c.length=(ind ls i).length:=by rw[<-hp3,qx]
    have hlA:lyA L (P+i)=newLy dn m ((lv:Int),c):=by
     rw[<-hL,lyA_new hp1];congr 1;exact Prod.ext hp2 hcc
    have hnth:∀j,j<c.length->nth (ind ls i) j=(nd c j).id:=fun j hj=>by
     rw[<-hp3,z30 (by rw[qx];exact hj),jA,z4z hj]
    have hfn:∀j,j<c.length->z3s ns (nth (ind ls i) j)=nd c j:=fun j hj=>by
     rw[hnth j hj];exact findN_at hc (hsb.1 _ (nd_mem hj))
    have hx0:lyA (pxL L (P+i) (ls.drop i)) (P+i)=idLy (ind ls i):=by
     have:=pxL_hi (L:=L) (P:=P+i) (l:=ls.drop i) (q:=0) (by omega) (by rw[QO];omega);rw[ja] at this;rw[this,ind_drop,ja]
    have hxi:(lyA (pxL L (P+i) (ls.drop i)) (P+i)).ids=ind ls i:=by rw[hx0];rfl
    have hxl:=Qv List.length hxi
    have hc1:0<c.length:=by
     cases c with
     |nil=>exact absurd rfl hsb.2
     |cons _ _=>exact QW _
    refine z7 (z6 ?_);refine z8 fun Q5 hN5 hX5 hR5 hE5=> ?_;refine Zrs [0,2,8,10,15,16,18,80,81,86,87,88] ?_;refine Zrs [0,2,8,10,15,16,18,19,80,81,86,87,88] ?_;refine Zrs [0,2,8,10,15,16,18,19,20,80,81,86,87,88] (z6 ?_);refine Zrs [0,2,8,10,15,16,18,19,20,80,81,86,87,88,92,93,94] (z2f 19 9 1 (strsK ((keyL c).take 0)) rfl ?_);dsimp only;refine z2f 20 4 1 (bos ((innL dn c).take 0)) rfl ?_;dsimp only;refine z8 fun Q6 hN6 hX6 hR6 hE6=> ?_;refine zl (σ:=Nat) (fun j=>j<=c.length) (fun j=>c.length-j) (fun j=>[(0,.slc false 0 0 0 ns.length),(2,.int .i64 m),(8,.ptr 2 0 0 0),(10,.mp 3 0),(15,.ptr 6 0 0 0),(16,.int .i64 lv),(18,.slc true 8 (3*(P+i)+1) 0 (ind ls i).length),(19,.slc true 10 0 0 j),(20,.slc true 11 0 0 j),(80,.int .i64 (ht+1)),(81,.int .i64 lv),(86,.slc true 9 0 0 ls.length),(87,.int .i64 ls.length),(88,.int .i64 i),(92,.slc true 8 (3*(P+i)+1) 0 (ind ls i).length),(93,.int .i64 (ind ls i).length),(94,.int .i64 j)]) (fun j=>⟨12,[(11,rO 4 1 j (bos ((innL dn c).take j))),(10,rO 9 1 j (strsK ((keyL c).take j))),(9,rO 22 1 ls.length (lyI 8 P ls)),(6,rV 34 4 1 (fun _=>[.slc true 4 0 0 ns.length,.int .i64 ht,.slc true 7 0 0 (P+i),.slc true 5 0 0 m])),(7,rO 89 5 (P+i) (lyR 8 (L.take (P+i)))),(8,(3*(P+ls.length)+1,fam true 3 1 (lyF true (pxL L (P+i) (ls.drop (i)))))),(5,rO 58 3 m (cbs (List.replicate m noCb))),(4,rO 62 3 ns.length (nds ns)),(3,uQ (.blk true (.ints dn))),(2,rV 34 4 1 (fun _=>[.nils,.int .i64 0,.nils,.nils])),(0,rI 62 3 ns.length (nds ns))]⟩) 0 (ql _) (ρ:=id) (Zg id) ?_
    rintro j hj QL4 hL4 hRL4 hEL4;refine Zrs [0,2,8,10,15,16,18,19,20,80,81,86,87,88,92,93,94,95] (z6 ?_);refine Zcn ?_ ?_
    ·intro h95;refine z7 (z6 ?_);refine Cs.blockG ?_;intro Q7 hN7 hX7 hR7 hE7 hB7;refine Zrs [0,2,8,10,15,16,18,19,20,22,80,81,86,87,88,92,93,94] ?_;refine sg [0,2,8,10,15,16,18,19,20,22,23,80,81,86,87,88,92,93,94] rfl ?_;intro K hK;iterate 3 (refine Zo Zl ?_)
     rw[hxi];refine Zc1 (find_spec ns (nth (ind ls i) j) ns.length rfl (by omega)) (id) ?_;rw[hfn j (by omega)];refine Zkl hK ?_;clear hK K;refine Zrn [0,2,8,10,15,16,18,19,20,80,81,86,87,88,92,93,94] (.op 0 (.op 1 (.op 2 (.op 5 (.op 6 (.op 7 (.two 3 8 (.two 4 8 (.op 8 (.op 9 (.op 10 (.op 11 (.op 12 .done))))) (.two 4 9 (.op 9 (.op 10 (.op 11 (.op 12 .done)))) (.op 4 (.op 10 (.op 11 (.op 12 .done)))))) (.two 3 9 (.two 4 9 (.op 9 (.op 10 (.op 11 (.op 12 .done)))) (.op 4 (.op 10 (.op 11 (.op 12 .done))))) (.op 3 (.op 4 (.op 10 (.op 11 (.op 12 .done))))))))))))) (ws 0 [(4,[10]),(10,[11])]) [[],[],[],[],[10],[10],[10],[10],[10],[10],[10,11],[10,11],[10,11]] hB7 ?_;intro K hK hG
     have hk29:K [(0,.slc false 0 0 0 ns.length),(2,.int .i64 m),(8,.ptr 2 0 0 0),(10,.mp 3 0),(15,.ptr 6 0 0 0),(16,.int .i64 lv),(18,.slc true 8 (3*(P+i)+1) 0 (ind ls i).length),(19,.slc true 14 0 0 (j+1)),(20,.slc true 16 0 0 (j+1)),(80,.int .i64 (ht+1)),(81,.int .i64 lv),(86,.slc true 9 0 0 ls.length),(87,.int .i64 ls.length),(88,.int .i64 i),(92,.slc true 8 (3*(P+i)+1) 0 (ind ls i).length),(93,.int .i64 (ind ls i).length),(94,.int .i64 j)] ⟨17,[(16,rO 4 1 (j+1) (bos ((innL dn c).take (j+1)))),(14,rO 9 1 (j+1) (strsK ((keyL c).take (j+1)))),(9,rO 22 1 ls.length (lyI 8 P ls)),(6,rV 34 4 1 (fun _=>[.slc true 4 0 0 ns.length,.int .i64 ht,.slc true 7 0 0 (P+i),.slc true 5 0 0 m])),(7,rO 89 5 (P+i) (lyR 8 (L.take (P+i)))),(8,(3*(P+ls.length)+1,fam true 3 1 (lyF true (pxL L (P+i) (ls.drop (i)))))),(5,rO 58 3 m (cbs (List.replicate m noCb))),(4,rO 62 3 ns.length (nds ns)),(3,uQ (.blk true (.ints dn))),(2,rV 34 4 1 (fun _=>[.nils,.int .i64 0,.nils,.nils])),(0,rI 62 3 ns.length (nds ns))]⟩:=by
      refine hK _ _ ?_;clear hG hK K;refine za (hN7 _ _ (Zrg [0,2,8,10,15,16,18,19,20,80,81,86,87,88,92,93,94] (za (hL4 _ _ ?_))));rw[iS j];exact⟨j+1,⟨by omega,by omega⟩,fun q=>if q=10 then 14 else if q=11 then 16 else q,(Zg (fun q=>if q=10 then 14 else if q=11 then 16 else q))⟩
     iterate 3 (refine Zo (ZT [] [] []) ?_)
     iterate 3 (refine Zo (ZT [] [10] []) ?_)
     refine z2e ?_ ?_
     ·skip
      refine Zo (ZT [] [] []) ?_;refine z2e ?_ ?_
      ·skip
       refine Zo (ZT [10] [10] []) ?_;refine Zo (ZT [] [10] []) ?_;refine Zo (ZT [] [10] []) ?_;refine Zo (ZT [11] [10,11] []) ?_;refine Zo (ZT [] [10,11] []) ?_;refine Zo (ZT [] [10,11] []) ?_;refine z14 ?_;refine Zpr ?_;rw[app_strs1 (by omega),app_bos1 (by omega) _ (hnth j (by omega))];exact hG _ _ _ _ id (Zg id) hk29
      skip
      refine Zo (ZT [] [10] []) ?_;refine z2e ?_ ?_
      ·skip
       refine Zo (ZT [10] [10] []) ?_;refine Zo (ZT [] [10] []) ?_;refine Zo (ZT [11] [10,11] []) ?_;refine Zo (ZT [] [10,11] []) ?_;refine Zo (ZT [] [10,11] []) ?_;refine z14 ?_;refine Zpr ?_;rw[app_strs1 (by omega),app_bos1 (by omega) _ (hnth j (by omega))];exact hG _ _ _ _ id (Zg id) hk29
      skip
      refine Zo (ZT [] [10] []) ?_;refine Zo (ZT [10] [10] []) ?_;refine Zo (ZT [11] [10,11] []) ?_;refine Zo (ZT [] [10,11] []) ?_;refine Zo (ZT [] [10,11] []) ?_;refine z14 ?_;refine Zpr ?_;rw[app_strs1 (by omega),app_bos1 (by omega) _ (hnth j (by omega))];exact hG _ _ _ _ (fun q=>if q=14 then 15 else q) (Zg (fun q=>if q=14 then 15 else q)) hk29
     skip
     refine Zo (ZT [] [10] []) ?_;refine z2e ?_ ?_
     ·skip
      refine Zo (ZT [] [] []) ?_;refine z2e ?_ ?_
      ·skip
       refine Zo (ZT [10] [10] []) ?_;refine Zo (ZT [] [10] []) ?_;refine Zo (ZT [11] [10,11] []) ?_;refine Zo (ZT [] [10,11] []) ?_;refine Zo (ZT [] [10,11] []) ?_;refine z14 ?_;refine Zpr ?_;rw[app_strs1 (by omega),app_bos1 (by omega) _ (hnth j (by omega))];exact hG _ _ _ _ id (Zg id) hk29
      skip
      refine Zo (ZT [] [10] []) ?_;refine Zo (ZT [10] [10] []) ?_;refine Zo (ZT [11] [10,11] []) ?_;refine Zo (ZT [] [10,11] []) ?_;refine Zo (ZT [] [10,11] []) ?_;refine z14 ?_;refine Zpr ?_;rw[app_strs1 (by omega),app_bos1 (by omega) _ (hnth j (by omega))];exact hG _ _ _ _ (fun q=>if q=14 then 15 else q) (Zg (fun q=>if q=14 then 15 else q)) hk29
     skip
     refine Zo (ZT [] [10] []) ?_;refine Zo (ZT [] [] []) ?_;refine Zo (ZT [10] [10] []) ?_;refine Zo (ZT [11] [10,11] []) ?_;refine Zo (ZT [] [10,11] []) ?_;refine Zo (ZT [] [10,11] []) ?_;refine z14 ?_;refine Zpr ?_;rw[app_strs1 (by omega),app_bos1 (by omega) _ (hnth j (by omega))];exact hG _ _ _ _ (fun q=>if q=14 then 15 else q) (Zg (fun q=>if q=14 then 15 else q)) hk29
    intro h95;have hjc:j=c.length:=by omega
    subst hjc;have hkl:=z3e c;have hkm:=z5c dn c;rw[Qj (show(keyL c).length<=c.length by rw[z3e];exact qd _),Qj (show(innL dn c).length<=c.length by rw[z5c];exact qd _)];refine zk (hEL4 _ _ _ (hX6 _ _ (sg [0,2,8,10,15,16,18,19,20,25,80,81,86,87,88] rfl ?_)));intro K hK;iterate 5 (refine Zo Zl ?_)
    rw[hxi];refine Zc1 (find_spec ns (nth (ind ls i) 0) ns.length rfl (by omega)) (id) ?_;rw[hfn 0 (by omega)];refine Zkl hK ?_;clear hK K;refine sg [0,2,8,10,15,16,18,25,27,80,81,86,87,88] rfl ?_;intro K hK;iterate 3 (refine Zo Zl ?_)
    refine Zd Zl (newP_spec (keyL c) (innL dn c) c.length m (z3e c) (z5c dn c) hk3.2.2 m1 m8 hk3.1 hk3.2.1) (fun q=>if q=0 then 10 else if q=1 then 11 else q) ?_;refine Zkl hK ?_;clear hK K;refine Zrg [0,2,8,10,15,16,80,81,86,87,88] (za (hN5 _ _ ?_));have hT:∀q,q≠P+i->lyA (pxL L (P+i+1) (ls.drop (i+1))) q=lyA (pxL L (P+i) (ls.drop i)) q:=fun q hq=>pxL_step hPw (by omega) hq;have hx:lyA (pxL L (P+i+1) (ls.drop (i+1))) (P+i)=newLy dn m ((lv:Int),c):=by rw[pxL_lo (by omega) (by omega),hlA]
    have hids:(newLy dn m ((lv:Int),c)).ids=ind ls i:=hp3
    have hout:∀q,q<P+i+1->app (lyR 8 (L.take (P+i))) (P+i) (z3y 5 1 [SV.int .i64 lv,SV.int .u32 (nd c 0).word,SV.slc true 8 (3*(P+i)+1) 0 (ind ls i).length,SV.slc true 13 0 0 (newK (keyL c) (innL dn c) c.length).length,SV.slc true 14 0 0 (List.replicate m noPr).length]) q=SV.renPL (mvM (fun q=>if q=7 then 17 else q) 8 (ms2 (P+i) 13 14)) (lyR 8 (L.take (P+i+1)) q):=fun q hq=>by
     have e:=lyR_renM2 (fun q=>if q=7 then 17 else q) 8 (P+i) 13 14 (L.take (P+i+1)) q;rw[show(if(8:Nat)=7 then 17 else 8)=8 from rfl] at e;rw[e]
     split
     ·rename_i e;subst e;rw[app,qc (by omega),QV,z5m (by omega),hlA,hids];simp only[newLy];rw[hdN_nd hc1];rfl
     rename_i e;rw[app,qe (by omega),lyR,lyR,z5m (by omega),z5m (by omega)]
    refine z2y (fr':=[(0,.slc false 0 0 0 ns.length),(2,.int .i64 m),(8,.ptr 2 0 0 0),(10,.mp 3 0),(15,.ptr 6 0 0 0),(16,.int .i64 lv),(80,.int .i64 (ht+1)),(81,.int .i64 lv),(86,.slc true 9 0 0 ls.length),(87,.int .i64 ls.length),(88,.int .i64 i)]) (H':=⟨10,[(9,rO 22 1 ls.length (lyI 8 P ls)),(6,rV 34 4 1 (fun _=>[.slc true 4 0 0 ns.length,.int .i64 ht,.slc true 7 0 0 (P+i+1),.slc true 5 0 0 m])),(7,rO 89 5 (P+i+1) (lyR 8 (L.take (P+i+1)))),(8,(3*(P+ls.length)+1,fam true 3 1 (lyF true (pxL L (P+i+1) (ls.drop (i+1)))))),(5,rO 58 3 m (cbs (List.replicate m noCb))),(4,rO 62 3 ns.length (nds ns)),(3,uQ (.blk true (.ints dn))),(2,rV 34 4 1 (fun _=>[.nils,.int .i64 0,.nils,.nils])),(0,rI 62 3 ns.length (nds ns))]⟩) _ (Zgm (fun q=>if q=7 then 17 else q) (8) (ms2 (P+i) 13 14) (ms2_ok (P+i) (by decide) ⟨rfl,rfl⟩ ⟨qb rfl,qb rfl⟩) ((zc (by decide) rfl qf (ze.of (fun _=>⟨rfl,rfl⟩) rfl (qd _) (fun q _=>(show lyI 8 P ls q=SV.renPL _ (lyI 8 P ls q) by rw[lyI_renM2];rfl))) (Obj.lt_row.2 fun q _=>(lyI_lt _ _ _ _ q).2 (qb rfl)) (qb rfl) (zc (by decide) rfl qf (ze.of (fun _=>⟨rfl,rfl⟩) rfl (qd _) (fun _ _=>rfl)) (Obj.lt_row.2 fun q _=>by simp[SV.ltL,SV.lt]) (qb rfl) (zc (by decide) rfl qf (ze.of (fun _=>⟨rfl,rfl⟩) rfl (qd _) (hout)) (Obj.lt_row.2 fun q _=>(z67 _ _ _ q).2 (qb rfl)) (qb rfl) (lyF_cons2 (x:=newLy dn m ((lv:Int),c)) rfl rfl rfl hx (by rw[hx0];exact hids) hT (qb rfl) (zc (by decide) rfl qf (ze.of (fun _=>⟨rfl,rfl⟩) rfl (qd _) (fun q _=>(z4j _ _ q).symm)) (Obj.lt_row.2 fun q _=>cbs_lt _ _ q) (qb rfl) (zc (by decide) rfl qf (ze.of (fun _=>⟨rfl,rfl⟩) rfl (qd _) (fun q _=>(z28 _ _ q).symm)) (Obj.lt_row.2 fun q _=>z4e _ _ q) (qb rfl) (zc (by decide) rfl qf ⟨id,rfl⟩ trivial (qb rfl) (zc (by decide) rfl qf (ze.of (fun _=>⟨rfl,rfl⟩) rfl (qd _) (fun _ _=>rfl)) (Obj.lt_row.2 fun q _=>by simp[SV.ltL,SV.lt]) (qb rfl) (zc (by decide) rfl qf (ze.of (fun h=>(by cases h)) rfl (qd _) (fun q _=>(z28 _ _ q).symm)) (Obj.lt_row.2 fun q _=>z4e _ _ q) (qb rfl) trivial))))))))))) ?_
    refine Zrg [0,2,8,10,15,16,80,81,86,87,88] (za (hL3 _ _ ?_));rw[jm P i 1];rw[iS i];exact⟨i+1,⟨by omega,by omega⟩,id,(Zg id)⟩
   intro h89;refine zk (hEL3 _ _ _ (hX4 _ _ (za (hN3 _ _ (Zrg [0,2,8,10,15,80,81] (za (hL2 _ _ ?_)))))));have hie:i=ls.length:=by omega
   subst hie;rw[List.drop_length,pxL_nil];rw[<-hps,iS lv];exact⟨lv+1,⟨by omega,by omega⟩,id,(Zg id)⟩
  intro h82;have hlh:lv=h+1:=by omega
  subst hlh;rw[hLl,jf];refine zk (hEL2 _ _ _ (hX2 _ _ (Zrs [8,9] (zb (hQ _ _ ?_)))));exact Zos (fun q=>if q=2 then 4 else if q=3 then 7 else if q=4 then 8 else q) (.tup [.agg [.slc true 2 0 0 ns.length,.int .i64 ht,.slc true 3 0 0 L.length,.slc true 5 0 0 m],.int .i64 0]) (⟨6,[(2,rO 62 3 ns.length (nds ns)),(3,rO 89 5 L.length (lyR 4 L)),(4,(3*L.length+1,fam true 3 1 (lyF true L))),(5,rO 58 3 m (cbs (List.replicate m noCb)))]⟩)
 iterate 3 (refine Zo (ZT [] [] []) ?_)
 refine runT_three ?_ ?_ ?_
 ·skip
  refine Zd (ZT [] [] []) (z5q ns ns.length rfl (by omega)) (id) ?_;refine z2e ?_ ?_
  ·skip
   refine Zo (ZT [] [] []) ?_;refine Zo (ZT [] [] []) ?_;refine Zo (ZT [] [] [6]) ?_;refine Zo (ZT [6] [] [6]) ?_;refine z14 ?_;refine Zpr ?_;exact hG _ _ _ _ id (Zg id) hk16
  skip
  refine Zo (ZT [] [] [5]) ?_;iterate 3 (refine Zo (ZT [5] [] [5]) ?_)
  refine z14 ?_;refine Zpr ?_;exact hG _ _ _ _ (fun q=>if q=5 then 6 else if q=6 then 5 else q) (Zg (fun q=>if q=5 then 6 else if q=6 then 5 else q)) hk16
 ·skip
  refine Zo (ZT [] [] []) ?_;refine z2e ?_ ?_
  ·skip
   refine Zd (ZT [] [] []) (z5q ns ns.length rfl (by omega)) (id) ?_;refine Zo (ZT [] [] []) ?_;refine Zo (ZT [] [] [6]) ?_;refine Zo (ZT [6] [] [6]) ?_;refine z14 ?_;refine Zpr ?_;exact hG _ _ _ _ (fun q=>if q=4 then 5 else if q=5 then 4 else q) (Zg (fun q=>if q=4 then 5 else if q=5 then 4 else q)) hk16
  skip
  refine Zo (ZT [] [] [5]) ?_;refine Zd (ZT [5] [] [5]) (z5q ns ns.length rfl (by omega)) (id) ?_;refine Zo (ZT [5] [] [5]) ?_;refine Zo (ZT [5] [] [5]) ?_;refine z14 ?_;refine Zpr ?_;exact hG _ _ _ _ (fun q=>if q=4 then 6 else if q=5 then 4 else if q=6 then 5 else q) (Zg (fun q=>if q=4 then 6 else if q=5 then 4 else if q=6 then 5 else q)) hk16
 skip
 refine Zo (ZT [] [] [4]) ?_;refine z2e ?_ ?_
 ·skip
  refine Zd (ZT [4] [] [4]) (z5q ns ns.length rfl (by omega)) (id) ?_;iterate 3 (refine Zo (ZT [4] [] [4]) ?_)
  refine z14 ?_;refine Zpr ?_;exact hG _ _ _ _ (fun q=>if q=4 then 5 else if q=5 then 6 else if q=6 then 4 else q) (Zg (fun q=>if q=4 then 5 else if q=5 then 6 else if q=6 then 4 else q)) hk16
 skip
 refine Zo (ZT [4] [] [4]) ?_;refine Zd (ZT [4] [] [4]) (z5q ns ns.length rfl (by omega)) (id) ?_;refine Zo (ZT [4] [] [4]) ?_;refine Zo (ZT [4] [] [4]) ?_;refine z14 ?_;refine Zpr ?_;exact hG _ _ _ _ (fun q=>if q=4 then 6 else if q=6 then 4 else q) (Zg (fun q=>if q=4 then 6 else if q=6 then 4 else q)) hk16
end Go.Proofs
namespace Go.Sk
open Go.RowKit
def zj.nil {P : Program} {f : FuncId} {args args' : List SV} {n : Nat} {os os1 : List (Nat × Nat × (Nat -> Obj))} {e : TypeId} {va : Bool} {sz : Nat} {F : Nat -> List SV} {R : SV -> AH -> Prop}
    (h:zj P f args ⟨n+1,os1⟩ R) (hl:∀id k,look os1 id k=look ((n,uQ (.row ⟨false,va,e,sz,0,F⟩))::os) id k) (hm:∀y∈os1,(y.2.2 0).own=true->y∈os)
    (hd:∀β vs,z2u β args' vs->z2u β args vs) (hlt1:SV.ltL (n+1) args):zj P f args' ⟨n,os⟩ R:=by
  intro X β w vs hP hm0 hw hb ho hS hv hlt;have hm0:X.m0=n:=hm0
  have hS1:St X (β.set n fun _=>none) ⟨n+1,(n,uQ (.row ⟨false,va,e,sz,0,F⟩))::os⟩ w:=
    St.new' (H:=⟨n,os⟩) hS (fun k L _ he=>by cases he) (fun k k' L L' h h' he he' _=>by cases he) (fun k hk=> .inl ⟨rfl,rfl⟩) (fun k hk i j s hi _=>absurd hi (qI _))
  have hrow:∀{k o},look ((n,uQ (.row ⟨false,va,e,sz,0,F⟩))::os) n k=some o->o.own=false:=fun {k o} g=>by
    rw[z19,qe rfl] at g
    split at g
    · cases g;rfl
    · cases g
  have hne:∀{id k},id≠n->look ((n,uQ (.row ⟨false,va,e,sz,0,F⟩))::os) id k=look os id k:=fun {id k} g=>by rw[z19,qc (Qt g)]
  have how:(fun id k=> ∃o,look os1 id k=some o/\o.own=true)=fun id k=> ∃o,look os id k=some o/\o.own=true:=by
    funext id k
    apply propext
    constructor
    · rintro⟨o,g1,g2⟩;rw[hl] at g1
      by_cases g:id=n
      · subst g;rw[hrow g1] at g2;cases g2
      · rw[hne g] at g1;exact⟨o,g1,g2⟩
    · rintro⟨o,g1,g2⟩;have:id<n:=(hS.lt _ _ _ g1).1;exact⟨o,by rw[hl,hne (by omega)];exact g1,g2⟩
  have hkl:∀{id k},X.own0 id k->id<n:=fun {id k} g=>by have:=(hS.keep _ _ g).1;omega
  have hS2:St {X with m0:=n+1,β0:=β.set n fun _=>none} (β.set n fun _=>none) ⟨n+1,os1⟩ w:=by
    refine⟨hS1.os,hS1.tape,hS1.output,hS1.size,fun _ _ _=>rfl,fun id k o g=>hS1.holds id k o (by rw[<-hl];exact g),fun id k id' k' o o' L L' g1 g2=>hS1.sep id k id' k' o o' L L' (by rw[<-hl];exact g1) (by rw[<-hl];exact g2),fun b hb' hn=>hS1.old b hb' fun id k o L g=>hn id k o L (by rw[hl];exact g),fun id k o L g go gb=> ?_,fun id k g=> ?_,qd _,fun id k o g=>hS1.lt id k o (by rw[<-hl];exact g),?_,hS1.drawn⟩
    · rw[hl] at g;rcases hS1.mine id k o L g go gb with q|q
      · exact .inl ⟨Jx (hm0 ▸ q.1),q.2⟩
      · refine .inr ⟨?_,q.2⟩;have:id≠n:=fun e=>by subst e;rw[hrow g] at go;cases go
        have:=q.1
        show n+1<=id
        omega
    · obtain⟨g1,o,g2,g3⟩:=hS1.keep id k g;exact⟨Jx (hkl g),o,by rw[hl];exact g2,g3⟩
    · refine⟨fun g hg=> ?_,fun g hg=> ?_⟩
      · obtain⟨a,b,c⟩:=hS1.tabs.1 g hg
        exact ⟨a, b, fun id k L q1 q2 => c id k L q1 (by rw [hb]; have := hkl q1; have e : (β.set n fun _ => none) id k = β id k := by unfold Env.set; rw [qc (by omega)]
                                                         rw[<-e];exact q2)⟩
      · obtain⟨a,b,c⟩:=hS1.tabs.2 g hg
        exact ⟨a, b, fun id k L q1 q2 => c id k L q1 (by rw [hb]; have := hkl q1; have e : (β.set n fun _ => none) id k = β id k := by unfold Env.set; rw [qc (by omega)]
                                                         rw[<-e];exact q2)⟩
  refine(h {X with m0:=n+1,β0:=β.set n fun _=>none} _ w vs hP rfl hw rfl (ho.trans how.symm) hS2 (hd _ _ (z4y (Env.agree_set β n _) _ _ hlt hv)) hlt1).mono ?_;rintro e w' ⟨v,rfl,β',s,H',hR,h1,h2,h3,h4⟩;refine⟨v,rfl,β',s,H',hR,fun x hx=> ?_,h2,h3,?_⟩
  · obtain⟨q1,q2⟩:=h1 x hx;refine⟨q1,?_⟩;rcases q2 with q2|⟨y,y1,y2,y3,y4⟩
    · exact .inl (JY q2)
    · exact .inr ⟨y,hm y y1 y4,y2,y3,y4⟩
  · refine⟨h4.os,h4.tape,h4.output,h4.size,fun id k hid=> ?_,h4.holds,h4.sep,h4.old,fun id k o L g go gb=> ?_,fun id k g=> ?_,?_,h4.lt,hS.tabs,h4.drawn⟩
    · rw[hm0] at hid;rw[h4.fix id k (Jx hid),hb]
      show(β.set n fun _=>none) id k=β id k
      unfold Env.set;rw[qc (by omega)]
    · rcases h4.mine id k o L g go gb with q|q
      · exact .inl ⟨by rw[hm0];exact hkl q.2,q.2⟩
      · exact .inr ⟨by rw[hm0];exact JY q.1,q.2⟩
    · exact⟨by rw[hm0];exact hkl g,(h4.keep id k g).2⟩
    · rw[hm0];exact JY h4.m0
end Go.Sk
namespace Go.Proofs
open Tryz
open Go.Sk
def New_nil (ns:List Nd)(m n:Nat)(ht:Int)(hn:ns.length=n)(hc:z1t ns=0)(hs:ns.length<=20)(m1:1<=m)(m8:m<=8)(h0:0<=ht)(h16:ht<=16):
  zj prog 16 [.slc false 0 0 0 n,.nils,.int .i64 m,.int .i64 ht] ⟨1,[(0,rI 62 3 n (nds ns))]⟩
   (fun s H1=>s= .tup [.agg [.slc true 2 0 0 n,.int .i64 ht,.slc true 3 0 0 (z2n ns [] m ht).ly.length,.slc true 5 0 0 m],.int .i64 0]/\H1=⟨6,[(2,rO 62 3 n (nds ns)),(3,rO 89 5 ((z2n ns [] m ht).ly.length) (lyR 4 (z2n ns [] m ht).ly)),(4,(3*(z2n ns [] m ht).ly.length+1,fam true 3 1 (lyF true (z2n ns [] m ht).ly))),(5,rO 58 3 m (cbs (List.replicate m noCb)))]⟩):=by
 refine(New_ok ns [] m n 0 ht hn rfl hc hs m1 m8 h0 h16 (by decide) (fun v hv=>by cases hv) JL).nil (n:=1) (e:=3) (va:=false) (sz:=1) (F:=ints []) (fun id k=> ?_) (fun y hy ho=> ?_) (fun β vs hv=> ?_) (by simp[SV.ltL,SV.lt])
 ·rw[z19,z19,z19,z19]
  by_cases g:id=0
  ·subst g;rfl
  by_cases g1:id=1
  ·subst g1;rfl
  rw[qc (Qt g),qc (Qt g1),qc (Qt g),qc (Qt g1)]
 ·simp only[qv,QJ,jU] at hy;rcases hy with rfl|rfl
  ·exact qo ..
  cases ho
 obtain⟨a,l,h1,⟨b,l2,h2,h3,e2⟩,e1⟩:=hv;have h2:b= .slice none 0 0:=h2;subst h2;exact⟨a,l,h1,⟨_,l2,⟨none,0,rfl,qd _,fun h=>absurd h (jL _)⟩,h3,e2⟩,e1⟩
end Go.Proofs
