/-
  Walks and plain facts, joined: part 10 of 12.
  Conditions: those that each statement names.
-/
import Derived.Test.YtpnefndionckaaaGreatDoorRoh
import Derived.Test.YtpnefndionckaaaGreatDoorRoi
import Derived.Test.YtpnefndionckaaaGreatDoorRob
import Derived.Test.YtpnefndionckaaaGreatDoorRof
import Derived.Test.YtpnefndionckaaaGreatDoorRoc
import Derived.Test.YtpnefndionckaaaGreatDoorRog
set_option linter.unusedSimpArgs false
set_option linter.unusedVariables false
set_option maxRecDepth 4000
set_option linter.defProp false
set_option maxHeartbeats 8000000
namespace Go.Proofs
open Tryz
open Go.Sk
theorem Tryz.tyMapIB:z1m prog 56=⟨true,.map 3 4,1,8,[]⟩:=by kernel_rfl
theorem Tryz.zStrN:z32 prog 9=some [.str ⟨#[]⟩]:=by kernel_rfl
section
variable {ns:List Nd} {h:Nat}
theorem shp_sub (hc:z1o ns=0)(h16:h<=16){i:Nat}(hi:i<(z3n ns h).length):(shA (z3n ns h) i).2.Sublist (z52 ns):=
 by
 rw[shA_lt hi];obtain⟨n,h1,h2,h3⟩:=mem_shpL.1 (qM (l:=z3n ns h) (n:=i) hi);exact cls_sub (by omega) h3
theorem shp_keys (hc:z1o ns=0)(h16:h<=16){i:Nat}(hi:i<(z3n ns h).length):(∀k,k<(shA (z3n ns h) i).2.length->okKey (kAt (keyL (shA (z3n ns h) i).2) k)=true)/\(keyL (shA (z3n ns h) i).2).Nodup/\(shA (z3n ns h) i).2.length<=64:=by
 have hs:=shp_sub hc h16 hi;have hg:=good_sub hs (good_perm (z2f _) hc);have hgi:=(good_iff _).1 hg;refine⟨fun k hk=> ?_,?_,hgi.1⟩
 ·rw[keyL_at hk];have:=hgi.2.1 _ (nd_mem hk);simp only[badN,qi] at this;simp_all
 ·rw[keyL,j9,jF];exact hgi.2.2.imp fun h=>(twinN_false h).2
theorem lvl_len (hc:z1o ns=0)(h16:h<=16):(z4l ns (h+1)).length=(z3n ns h).length:=by
 rw[show z4l ns (h+1)=lvlL ns h from rfl,lvlL_eq hc h16,qB]
theorem shp_at (hc:z1o ns=0)(h16:h<=16){lv i:Nat}(hl:lv<=h)(hi:i<(lstN ns (lv:Int)).length):(z4l ns lv).length+i<(z3n ns h).length/\(shA (z3n ns h) ((z4l ns lv).length+i)).1=lv/\(shA (z3n ns h) ((z4l ns lv).length+i)).2.map (·.id)=ind (lstN ns (lv:Int)) i:=by
 have h1:=lvlP_le (ns:=ns) (show lv+1<=h+1 by omega);rw[lvlP_len,lvl_len hc h16] at h1;have h2:(z4l ns lv).length+i<(z3n ns h).length:=by omega
 have h3:=lvA_in hl hi;rw[lvA_eq hc h16 h2] at h3;obtain⟨e1,e2⟩:=Prod.mk.inj h3;exact⟨h2,e1,e2⟩
end
theorem keyL_take {c:List Nd}{j:Nat}(h:j<c.length):(keyL c).take (j+1)=(keyL c).take j++[(nd c j).key]:=by
 rw[jm (by rw[z2i];exact h),z51 h];simp[keyL]
theorem innL_take {dn:List Int}{c:List Nd}{j:Nat}(h:j<c.length):(innL dn c).take (j+1)=(innL dn c).take j++[dn.contains (nd c j).id]:=by
 rw[jm (by rw[z3q];exact h),z51 h];simp[innL]
theorem any_takeI {l:List Int}(hd:l.Nodup){i:Nat}(h:i<l.length):(l.take i).contains (nth l i)=false:=by
 rw[List.contains_eq_any_beq,Jp];intro x hx;obtain⟨j,hj,rfl⟩:=Qe hx;rw[qO] at hj;rw[z2v h,jd];intro e;have e':l[j]=l[i]:=((qy ..).1 e).symm;exact absurd e' (Qc.1 hd j i (by omega) h (by omega))
theorem take_nthN {l:List Int}{i:Nat}(h:i<l.length):l.take (i+1)=l.take i++[nth l i]:=by
 rw[z2v h,List.take_add_one,qK h];rfl
theorem cbs_zero (m:Nat):(fun _=>[SV.int .i64 0,SV.int .i64 0,SV.int .i64 0])=cbs (List.replicate m noCb):=by
 funext i
 rw[cbs,cbA_new];rfl
theorem app_strs1 {c:List Nd}{j:Nat}(h:j<c.length):app (strsK ((keyL c).take j)) j (z4f 1 1 [SV.str (nd c j).key])=strsK ((keyL c).take (j+1)):=by
 have hl:((keyL c).take j).length=j:=by rw[qO,z2i];omega
 funext i
 rw[keyL_take h,app];unfold strsK kAt
 split
 ·rename_i g;rw[qx,qx,Qy (by omega)]
 ·rename_i g;rw[qx,QK (by omega),hl]
  by_cases e:i=j
  ·subst e;rw[jb];rfl
  ·obtain⟨t,ht⟩:∃t,i-j=t+1:=⟨i-j-1,by omega⟩;rw[ht];rfl
theorem app_bos1 {dn:List Int}{c:List Nd}{j:Nat}(h:j<c.length)(v:Int)(hv:v=(nd c j).id):app (bos ((innL dn c).take j)) j (z4f 1 1 [SV.bool (dn.contains v)])=bos ((innL dn c).take (j+1)):=by
 have hl:((innL dn c).take j).length=j:=by rw[qO,z3q];omega
 subst hv
 funext i
 rw[innL_take h,app];unfold bos bAt
 split
 ·rename_i g;rw[qx,qx,Qy (by omega)]
 ·rename_i g;rw[qx,QK (by omega),hl]
  by_cases e:i=j
  ·subst e;rw[jb];rfl
  ·obtain⟨t,ht⟩:∃t,i-j=t+1:=⟨i-j-1,by omega⟩;rw[ht];rfl
theorem ind_drop (ls:List (List Int))(i q:Nat):ind (ls.drop i) q=ind ls (i+q):=by
 rw[ind,ind,qx,qx,QL]
theorem lyA_ge {L:List Ly}{i:Nat}(h:L.length<=i):lyA L i=noLy:=by rw[lyA,qx,qQ h];rfl
theorem pxL_step {L:List Ly}{ls:List (List Int)}{P i q:Nat}(hP:P+ls.length<=L.length)(hi:i<ls.length)(hq:q≠P+i):lyA (pxL L (P+i+1) (ls.drop (i+1))) q=lyA (pxL L (P+i) (ls.drop i)) q:=by
 by_cases g:q<P+i
 ·rw[pxL_lo (by omega) (by omega),pxL_lo (by omega) g]
 ·by_cases g2:q<P+ls.length
  ·obtain⟨t,rfl⟩:∃t,q=P+i+1+t:=⟨q-(P+i+1),by omega⟩;rw[pxL_hi (by omega) (by rw[QJ];omega),show P+i+1+t=P+i+(t+1) by omega,pxL_hi (by omega) (by rw[QJ];omega),ind_drop,ind_drop,show i+1+t=i+(t+1) by omega]
  ·rw[lyA_ge (by simp[pxL];omega),lyA_ge (by simp[pxL];omega)]
theorem hdN_nd {c:List Nd}(h:0<c.length):(hdN c).word=(nd c 0).word:=by
 cases c with
 |nil=>cases h
 |cons _ _=>rfl
theorem JoDm.s {a:Prop}(h:a:=by simp[SV.wkL,SV.wk,frGives,z4h,Sk.get,Sk.find,uQ,z19.eq_1,z19.eq_2,z19.eq_3,z34,renL_id,ren_id,SV.renL,SV.ren,Obj.lt_row,SV.ltL,SV.lt,ownU,keepB,z36,OwnAll,Obj.own.eq_1,Obj.own.eq_2,Obj.own.eq_3,Obj.own.eq_4,z17,inNds,z3t,nds_ren',z4e,nds,Nd.sv,inCl,z2x,inPr,z3h,cls_ren',cls_lt,prs_ren',prs_lt,z1d,zz,z1v,z1t,Cl.sv,Pr.sv,cbs_ren',cbs_lt,lyR_ren',lyR_lt,lyF_gives,z3l,z4d,fam_gives,fam_gives',fam_g0,fam_l0,fam_own,ren_id,lsCap,ilR_ren',ilR_lt,ilF_gives,ilFm_lt,ilF_fown,lyI_ren',lyI_lt,strs_ren'K,strs_ltK,bos_ren',bos_lt,lt_blk,inStr,inBo,z2i,z3q]):a:=h
theorem JoDm.t {s e:SV}{H g:AH}(q:AfQ s e H g:=by constructor<;>(simp only[fam_zero,after,cren,id,dropO,reduceCtorEq,Nat.reduceEqDiff,Jh,Nat.zero_ne_one,renOs,dropIds,z36,uQ,Obj.own.eq_1,Obj.own.eq_2,Obj.own.eq_3,Obj.own.eq_4,Obj.ren.eq_1,Obj.ren.eq_2,Obj.ren_blk,Row.ren,SV.ren,SV.renL,q7,QY,jq,QO,↓reduceIte,Nat.reduceLT,Nat.reduceAdd,Nat.reduceSub,Nat.reduceEqDiff,QR,qF,z17,zg,zi,zn,zk,z12,z1a,Tryz.szErr,Tryz.zErr,Tryz.tyBoolK,Tryz.szBool,Tryz.zBool,zj,zt,zo,zl,Tryz.szNode,zp,Tryz.tyNodes,Tryz.szNodes,inNds,z3t,nds,Nd.sv,Tryz.tyCl,Tryz.szCl,Tryz.zCl,Tryz.tyPr,Tryz.szPr,Tryz.zPr,Tryz.tyCls,Tryz.szCls,Tryz.tyPrs,Tryz.szPrs,zu,Tryz.szLsK,Tryz.zLsK,inCl,z2x,inPr,z3h,cls_0,cls_1,cls_2,cls_3,cls_4,prs_0,prs_1,prs_2,prs_3,prs_4,prs_5,prs_6,Cl.sv,Pr.sv,z1d,zz,Tryz.tyLy,Tryz.szLy,Tryz.zLy,Tryz.tyLys,Tryz.szLys,Tryz.tyCb,Tryz.szCb,Tryz.zCb,Tryz.tyCbs,Tryz.szCbs,Tryz.tyFo,Tryz.szFo,Tryz.zFo,lyF_0,lyF_1,lyF_2,ex_map,lsCap,lsS,lsH,Tryz.tyIntss,Tryz.szIntss,lyI_ap,Tryz.tyStrsK,Tryz.szStrs,Tryz.tyBools,Tryz.szBools,Tryz.tyMapIB,Tryz.zB,Tryz.zStrN,strs_ap,bos_ap,inStr,inBo,z1c,z1q,z26,z2n,z31,z1q,cbs_ren,lyR_ren,lyF_ren,z40,lsS,lsH,strs_renK,bos_ren,ilF_ren,ilR_fold,ilR_ren,lyI_ren];exact rfl)):AfQ s e H g:=q
theorem JoDm.c1 {P:Program}{f:FuncId}{args args0:List SV}{H0 H Y g:AH}{X e:SV}{dr:Bool}{W:List Nat}{k:SV->AH->Prop}(hF:zf P f args0 H0 fun s H1=>s=X/\H1=Y)(ρ:Nat->Nat)(h:k e g)(q:CaQ args args0 ρ H0 H dr W:=by constructor<;>exact JoDm.s)(r:CaR ρ H0 H:=by exact⟨rfl,rfl⟩)(b:AfQ (X.ren (cren H0.nxt H.nxt ρ)) e (after H0.nxt ρ H0 H Y) g:=by exact JoDm.t):callK P f args H dr W k:=c1S hF ρ h q r b
theorem JoDm.sd {a:Prop}(h:a:=by first|omega|(simp only[In64];omega)|(simp only[qr,qh,qi,qv,qk,qq,qj,qg,qy,qz,qX,ne_eq,Qa,q9,qH,qu,In64];omega)|(simp only[qr,qh,qi,qv,qk,qq,qj,qg,qy,qz,qX,ne_eq,Qa,q9,qH,qu,In64] at*;omega)):a:=h
theorem JoDm.ou {a d:Prop}(h:d)(e:Sd a d:=by simp only[resK,z5k,loadK,QE,qd,Jm,J2,QX,ne_eq,Sk.get,Sk.find,uQ,Jq,ju,jX,jM,jJ,JP,↓reduceIte,Nat.reduceEqDiff,resV,zu,Tryz.tyFo,Tryz.tyLy,Tryz.tyCb,Kd.agg,Nat.reduceAdd,qp,Nat.reduceLeDiff];(repeat(with_reducible apply Sd.and;exact JoDm.sd));exact Sd.rfl):a:=e.f h
theorem z5l {X:Cx}{fr:Fr}{H:AH}{fr1:Fr}{H1:AH}(ρ:Nat->Nat)(q:GvQ X ρ fr H fr1 H1:=by constructor<;>exact JoDm.s)(r:GvR X ρ H1:=by exact⟨rfl,rfl,qc rfl,rfl⟩):z4x X ρ fr H fr1 H1:=gvS ρ q r
theorem JoDm.w {a:Prop}(h:a:=by simp[frGivesP,Sk.get,SV.renP,SV.renPL,anP,mgM,SV.lt,SV.ltL,ownU,uQ,keepB,Sk.find,Obj.own.eq_1,Obj.own.eq_2,Obj.own.eq_3,Obj.own.eq_4,z17,inNds,z3t,nds_ren',z4e,nds,Nd.sv,inCl,z2x,inPr,z3h,cls_ren',cls_lt,prs_ren',prs_lt,z1d,zz,z1v,z1t,Cl.sv,Pr.sv,cbs_ren',cbs_lt,lyR_ren',lyR_lt,lyF_gives,z3l,z4d,fam_gives,fam_gives',fam_g0,fam_l0,fam_own,ren_id,lsCap,ilR_ren',ilR_lt,ilF_gives,ilFm_lt,ilF_fown,lyI_ren',lyI_lt,strs_ren'K,strs_ltK,bos_ren',bos_lt,lt_blk,inStr,inBo,z2i,z3q]):a:=h
theorem JoDm.ga {X:Cx}{fr:Fr}{H:AH}{fr1:Fr}{H1:AH}(ρ:Nat->Nat)(f:Nat)(μ:Nat->Nat×Nat)(a2:HGivesJ (anP ρ f μ) H1.nxt H.os H1.os)(hμ:MuOk X ρ f μ)(t:MuL ρ f μ H1.os)(q:GpQ X (anP ρ f μ) fr H fr1 H1:=by constructor<;>exact JoDm.w)(r:GpR X ρ f H1:=by exact⟨rfl,rfl,qc rfl,qc rfl,rfl⟩):z54 X (anP ρ f μ) fr H fr1 H1:=goS ρ f μ a2 hμ t q r
theorem JoDm.v {a:Prop}(h:a:=by simp[frGivesP,Sk.get,SV.renP,SV.renPL,mvM,SV.lt,SV.ltL,ownU,uQ,keepB,Sk.find,Obj.own.eq_1,Obj.own.eq_2,Obj.own.eq_3,Obj.own.eq_4,z17,inNds,z3t,nds_ren',z4e,nds,Nd.sv,inCl,z2x,inPr,z3h,cls_ren',cls_lt,prs_ren',prs_lt,z1d,zz,z1v,z1t,Cl.sv,Pr.sv,cbs_ren',cbs_lt,lyR_ren',lyR_lt,lyF_gives,z3l,z4d,fam_gives,fam_gives',fam_g0,fam_l0,fam_own,ren_id,lsCap,ilR_ren',ilR_lt,ilF_gives,ilFm_lt,ilF_fown,lyI_ren',lyI_lt,strs_ren'K,strs_ltK,bos_ren',bos_lt,lt_blk,inStr,inBo,z2i,z3q]):a:=h
theorem JoDm.gm {X:Cx}{fr:Fr}{H:AH}{fr1:Fr}{H1:AH}(ρ:Nat->Nat)(f:Nat)(ms:Nat->Option Nat)(hs:MsOk X ρ ms H1.os)(a2:z1b (mvM ρ f ms) H1.nxt H.os H1.os)(q:GpQ X (mvM ρ f ms) fr H fr1 H1:=by constructor<;>exact JoDm.v)(r:GmR X ρ f H1:=by exact⟨rfl,rfl,qc rfl,qc rfl,rfl⟩):z54 X (mvM ρ f ms) fr H fr1 H1:=gmS ρ f ms hs a2 q r
theorem z15 {a c d:Prop}(r:a->c)(h:d)(e:Sd a d:=by simp only[stp,isQ,z5k,Sk.get,Sk.put,ofConst,z1w,↓reduceIte,reduceCtorEq,Nat.reduceEqDiff,QX,and_true,J2,implies_true,forall_const,imp_self,qF,false_implies,false_and,and_false,QH,Q8,qop,grdK,jY,ju,jN,beq_true,beq_false,j6,Ju,Qb,Qn,Jl,JA,qh,qk,qq,pickB_bool,Bool.cond_true_left,Bool.cond_false_left,Bool.cond_true_right,Bool.cond_false_right,cond_true,cond_false,and_imp,loadK,Sk.find,uQ,z2h,setF_fam,Kd.agg,Jq,List.contains_cons,Nat.reduceBEq,ji,Ji,JX,jP,ite_self,Jm,QE,QR,Nat.reduceAdd,Nat.reduceMul,Nat.reduceSub,Nat.reduceLT,Nat.reduceLeDiff,qd,qp,ne_eq,Jh,JV,not_true_eq_false,qE,Int.reduceToNat,QI,JC,JG,Kd.slice.injEq,exists_eq',Q9,Qs,jX,List.drop_succ_cons,jM,jJ,JP,List.drop_nil,jq,QO,jg,List.append_eq,JO,List.all_nil,spl,okCells,SV.cells,SV.scalar,binK,binII,binBB,intK,arithK,strK,shiftK,binAA,binNil,unK,convX,convK,faddrK,fieldK,partK,iaddrK,indexK,optK,sliceK,bndK,Option.isSome_some,JL,J0,or_true,true_or,partsK,buildK,fillS,placeS,lenK,z56.len,z2q.n,opdsK,mmK,foldInt,eop,copyK,srcK,srcF_zero,setO,clearK,capK,growK,appendK,dropO,allocK,boxK,bsliceK,replZ,storeK,updF,mkK,mmapK,z56.ofKd,z2q.ofKd,mputK,z56.add,z56.okKd,z2q.put,z2q.okKd,z2q.okP,mlookK,z56.has,z2q.get,z2q.z,z17,zg,zi,zn,zk,z12,z1a,Tryz.szErr,Tryz.zErr,Tryz.tyBoolK,Tryz.szBool,Tryz.zBool,zj,zt,zo,zl,Tryz.szNode,zp,Tryz.tyNodes,Tryz.szNodes,inNds,z3t,nds,Nd.sv,Tryz.tyCl,Tryz.szCl,Tryz.zCl,Tryz.tyPr,Tryz.szPr,Tryz.zPr,Tryz.tyCls,Tryz.szCls,Tryz.tyPrs,Tryz.szPrs,zu,Tryz.szLsK,Tryz.zLsK,inCl,z2x,inPr,z3h,cls_0,cls_1,cls_2,cls_3,cls_4,prs_0,prs_1,prs_2,prs_3,prs_4,prs_5,prs_6,Cl.sv,Pr.sv,z1d,zz,ints,Tryz.tyLy,Tryz.szLy,Tryz.zLy,Tryz.tyLys,Tryz.szLys,Tryz.tyCb,Tryz.szCb,Tryz.zCb,Tryz.tyCbs,Tryz.szCbs,Tryz.tyFo,Tryz.szFo,Tryz.zFo,lyR_ap,cbs_ap,lyF_0,lyF_1,lyF_2,ex_map,lsCap,lsS,lsH,Tryz.tyIntss,Tryz.szIntss,ilR_ap,ilF_ap,lyI_ap,Tryz.tyStrsK,Tryz.szStrs,Tryz.tyBools,Tryz.szBools,Tryz.tyMapIB,Tryz.zB,Tryz.zStrN,strs_ap,bos_ap,inStr,inBo,z1c];(repeat(with_reducible apply Sd.and;exact JoDm.sd));exact Sd.rfl):c:=r (e.f h)
theorem z3k {a b:Prop}(h:b)(e:a=b:=by simp only[prune,Sk.get,Sk.put,↓reduceIte,Nat.reduceEqDiff];exact rfl):a:=Eq.mpr e h
theorem JoDm.rg {X:Cx}{Q:Exit->Fr->AH->Prop}{fr fr1:Fr}{H H1:AH}{l:List Code}{id:Nat}{ops:List Oper}(keep:List Nat)(h:Cs X l Q fr1 H1)(hd:dstOk X.n ops=true:=by exact rfl)(e:∀K:Fr->AH->Prop,K fr1 H1->runL X.P X.wrap X.m0 ops.toArray ops fr H (fun fr H=>K (prune keep fr) H):=by(intro K hK;(repeat(refine z15 z16 ?_));exact z8 (z3k hK))):Cs X (.region id ops.toArray false::l) Q fr H:=rgS keep h hd e
theorem z3x {X:Cx}{Q:Exit->Fr->AH->Prop}{fr fr1:Fr}{H H1:AH}{l:List Code}{id:Nat}{ops:List Oper}{y:Code}(keep:List Nat)(h:Cs X (y::l) Q fr1 H1)(hd:dstOk X.n ops=true:=by exact rfl)(e:∀K:Fr->AH->Prop,K fr1 H1->runL X.P X.wrap X.m0 ops.toArray ops fr H (fun fr H=>K (prune keep fr) H):=by(intro K hK;(repeat(refine z15 z16 ?_));exact z8 (z3k hK))):Cs X (.seq (.region id ops.toArray false) y::l) Q fr H:=z6 (rgS keep h hd e)
theorem JoDm.s_inRow {a:Prop}(h:a:=by simp[SV.wkL,SV.wk,frGives,z4h,Sk.get,Sk.find,uQ,z19.eq_1,z19.eq_2,z19.eq_3,z34,renL_id,ren_id,SV.renL,SV.ren,Obj.lt_row,SV.ltL,SV.lt,ownU,keepB,z36,OwnAll,Obj.own.eq_1,Obj.own.eq_2,Obj.own.eq_3,Obj.own.eq_4,z17,inNds,z3t,nds_ren',z4e,nds,Nd.sv,inCl,z2x,inPr,z3h,cls_ren',cls_lt,prs_ren',prs_lt,z1d,zz,z1v,z1t,Cl.sv,Pr.sv,cbs_ren',cbs_lt,lyR_ren',lyR_lt,lyF_gives,z3l,z4d,fam_gives,fam_gives',fam_g0,fam_l0,fam_own,ren_id,lsCap,ilR_ren',ilR_lt,ilF_gives,ilFm_lt,ilF_fown,lyI_ren',lyI_lt,strs_ren'K,strs_ltK,bos_ren',bos_lt,lt_blk,inStr,inBo,z2i,z3q,z1d]):a:=h
theorem JoDm.g_inRow {X:Cx}{fr:Fr}{H:AH}{fr1:Fr}{H1:AH}(ρ:Nat->Nat)(q:GvQ X ρ fr H fr1 H1:=by constructor<;>exact JoDm.s_inRow)(r:GvR X ρ H1:=by exact⟨rfl,rfl,qc rfl,rfl⟩):z4x X ρ fr H fr1 H1:=gvS ρ q r
theorem JoDm.s_lvlP {a:Prop}(h:a:=by simp[SV.wkL,SV.wk,frGives,z4h,Sk.get,Sk.find,uQ,z19.eq_1,z19.eq_2,z19.eq_3,z34,renL_id,ren_id,SV.renL,SV.ren,Obj.lt_row,SV.ltL,SV.lt,ownU,keepB,z36,OwnAll,Obj.own.eq_1,Obj.own.eq_2,Obj.own.eq_3,Obj.own.eq_4,z17,inNds,z3t,nds_ren',z4e,nds,Nd.sv,inCl,z2x,inPr,z3h,cls_ren',cls_lt,prs_ren',prs_lt,z1d,zz,z1v,z1t,Cl.sv,Pr.sv,cbs_ren',cbs_lt,lyR_ren',lyR_lt,lyF_gives,z3l,z4d,fam_gives,fam_gives',fam_g0,fam_l0,fam_own,ren_id,lsCap,ilR_ren',ilR_lt,ilF_gives,ilFm_lt,ilF_fown,lyI_ren',lyI_lt,strs_ren'K,strs_ltK,bos_ren',bos_lt,lt_blk,inStr,inBo,z2i,z3q,z4l]):a:=h
theorem JoDm.g_lvlP {X:Cx}{fr:Fr}{H:AH}{fr1:Fr}{H1:AH}(ρ:Nat->Nat)(q:GvQ X ρ fr H fr1 H1:=by constructor<;>exact JoDm.s_lvlP)(r:GvR X ρ H1:=by exact⟨rfl,rfl,qc rfl,rfl⟩):z4x X ρ fr H fr1 H1:=gvS ρ q r
theorem JoDm.nb {a b:Prop}(h:a)(e:a=b:=by simp only[qr,qh,qi,qv,qk,qq,qj,qg,qy,qz,qX,ne_eq,Qa,q9,qH,qu];exact rfl):b:=Eq.mp e h
theorem New_ok (ns:List Nd)(dn:List Int)(m n d:Nat)(ht:Int)(hn:ns.length=n)(hd:dn.length=d)(hc:z1o ns=0)(hs:ns.length<=20)(m1:1<=m)(m8:m<=8)(h0:0<=ht)(h16:ht<=16)(hdx:d<=1000000)(hin:∀v∈dn,0<=z44 ns v)(hnd:dn.Nodup):
  zf prog 16 [.slc false 0 0 0 n,.slc false 1 0 0 d,.int .i64 m,.int .i64 ht] ⟨2,[(0,uQ (.row ⟨false,false,62,3,n,nds ns⟩)),(1,uQ (.row ⟨false,false,3,1,d,ints dn⟩))]⟩
   (fun s H1=>s= .tup [.agg [.slc true 2 0 0 n,.int .i64 ht,.slc true 3 0 0 (z3j ns dn m ht).ly.length,.slc true 5 0 0 m],.int .i64 0]/\H1=⟨6,[(2,uQ (.row ⟨true,false,62,3,n,nds ns⟩)),(3,uQ (.row ⟨true,false,89,5,(z3j ns dn m ht).ly.length,lyR 4 (z3j ns dn m ht).ly⟩)),(4,(3*(z3j ns dn m ht).ly.length+1,fam true 3 1 (lyF true (z3j ns dn m ht).ly))),(5,uQ (.row ⟨true,false,58,3,m,cbs (List.replicate m noCb)⟩))]⟩):=by
 subst hn hd;have h64:ns.length<=64:=((good_iff ns).1 hc).1;obtain⟨h,hh⟩:∃h:Nat,ht=h:=⟨ht.toNat,by omega⟩;have hhn:ht.toNat=h:=by omega
 have hn16:h<=16:=by omega
 have hLe:(z3j ns dn m ht).ly=(z3n ns h).map (newLy dn m):=by rw[z3j,hhn]
 obtain⟨L,hL⟩:∃L,(z3n ns h).map (newLy dn m)=L:=⟨_,rfl⟩;have hLl:(z4l ns (h+1)).length=L.length:=by rw[<-hL,qB];exact lvl_len hc hn16
 have hLx:L.length<=1088:=by
  have:=lvlP_bd ns (h+1);have:(h+1)*ns.length<=17*64:=j0 (by omega) h64;omega
 rw[hLe,hL];refine zf.ofC false 145 [.cell 8 34,.tmp 9] func16 rfl rfl ntmps16 results16 rfl ?_;intro w0 own0 β0 Q hQ hQn;simp only[z18];refine z3x [0,1,2,3,8] ?_;refine z6 ?_;refine sg [0,1,2,3,8,31] rfl ?_;intro K hK;refine z15 z16 ?_;refine z15 z16 ?_;refine JoDm.c1 (check_spec ns ns.length rfl (by omega)) (id) ?_;refine z15 z16 ?_;refine z8 (z3k (hK _ _ ?_));clear hK K;refine z7 _ rfl ?_ ?_
 ·intro h31
  exfalso;simp[hc] at h31
 ·intro h31
  refine za (z6 ?_);refine z3x [0,1,2,3,8,46] ?_;refine z7 _ rfl ?_ ?_
  ·intro h46
   exfalso;simp only[qr,qh,qi,qv,qk,qq,qj,qg,qy,qz,qX,ne_eq,Qa,q9,qH,qu] at h46;omega
  ·intro h46
   refine za ?_;refine z3x [0,1,2,3,8,10] ?_;refine z6 ?_;refine z3x [0,1,2,3,8,10,49,50,51] ?_;refine zc fun Q0 hN0 hX0 hR0 hE0=> ?_;refine zx (σ:=Nat) (fun i=>i<=dn.length) (fun i=>dn.length-i) (fun i=>[(0,.slc false 0 0 0 ns.length),(1,.slc false 1 0 0 dn.length),(2,.int .i64 m),(3,.int .i64 ht),(8,.ptr 2 0 0 0),(10,.mp 3 0),(49,.slc false 1 0 0 dn.length),(50,.int .i64 dn.length),(51,.int .i64 i)]) (fun i=>⟨4,[(3,uQ (.blk true (.ints (dn.take i)))),(2,uQ (.row ⟨true,true,34,4,1,fun _=>[.nils,.int .i64 0,.nils,.nils]⟩)),(0,uQ (.row ⟨false,false,62,3,ns.length,nds ns⟩)),(1,uQ (.row ⟨false,false,3,1,dn.length,ints dn⟩))]⟩) 0 (qp _) (ρ:=id) (JoDm.g_inRow id) ?_;rintro i hi QL1 hL1 hRL1 hEL1;refine z3x [0,1,2,3,8,10,49,50,51,52] ?_;refine z6 ?_;refine z7 _ rfl ?_ ?_
   ·intro h52;replace h52:=JoDm.nb h52;refine za (z6 (zc fun Q1 hN1 hX1 hR1 hE1=> ?_));refine z3x [0,1,2,3,8,10,12,49,50,51] ?_;refine z6 ?_;refine sg [0,1,2,3,8,10,12,14,49,50,51] rfl ?_;intro K hK;iterate 2 (refine z15 z16 ?_)
    refine z15 z16 ?_;refine JoDm.c1 (find_spec ns (nth dn i) ns.length rfl (by omega)) (id) ?_;iterate 6 (refine z15 z16 ?_)
    refine z8 (z3k (hK _ _ ?_));clear hK K;refine z3x [0,1,2,3,8,10,12,49,50,51,62] ?_;refine z7 _ rfl ?_ ?_
    ·intro h62
     exfalso
     have:=hin (nth dn i) (by rw[z2v (by omega)];exact qM _);simp at h62;omega
    ·intro h62
     refine za ?_;refine z3c [0,1,2,3,8,10,49,50,51] rfl ?_;intro K hK;iterate 3 (refine z15 z16 ?_)
     rw[any_takeI hnd (show i<dn.length by omega)];simp only[qF,Qw];rw[<-take_nthN (show i<dn.length by omega)];repeat(with_reducible apply ai;exact JoDm.sd)
     refine z8 (z3k (hK _ _ ?_));clear hK K;refine ze (hN1 _ _ ?_);refine JoDm.rg [0,1,2,3,8,10,49,50,51] ?_;refine ze (hL1 _ _ ?_);rw[show(i:Int)+1=((i+1:Nat):Int) from by omega];exact⟨i+1,⟨by omega,by omega⟩,id,(z5l id)⟩
   ·intro h52;replace h52:=JoDm.nb h52;have hid:i=dn.length:=by omega
    subst hid;rw[QV];refine zw (hEL1 _ _ _ (hX0 _ _ (z6 ?_)));refine z3x [0,2,3,8,10,71] ?_;refine z7 _ rfl ?_ ?_
    ·intro h71
     exfalso;simp only[qr,qh,qi,qv,qk,qq,qj,qg,qy,qz,qX,ne_eq,Qa,q9,qH,qu] at h71;omega
    ·intro h71
     refine za (z6 ?_);refine Cs.regTree [0,2,3,8,10,15] (.op 0 (.op 2 (.op 3 (.three 1 4 6 (.two 4 6 (.op 5 (.op 6 (.op 7 .done))) (.op 4 (.op 5 (.op 7 .done)))) (.two 1 6 (.op 5 (.op 6 (.op 7 .done))) (.op 1 (.op 5 (.op 7 .done)))) (.two 1 4 (.op 4 (.op 5 (.op 7 .done))) (.op 1 (.op 5 (.op 7 .done)))))))) [[],[0],[],[],[3],[0,1,2,3,4],[],[0,1,2,3,4,5,6]] [[],[],[],[],[],[],[],[]] [[],[],[],[],[],[],[],[]] Tryz.mo rfl rfl (by kernel_rfl) (by kernel_rfl) (by kernel_rfl) (by exact rfl) (by kernel_rfl) ?_;intro K hK hG
     have hk16:K [(0,.slc false 0 0 0 ns.length),(2,.int .i64 m),(3,.int .i64 ht),(8,.ptr 2 0 0 0),(10,.mp 3 0),(15,.ptr 6 0 0 0)] ⟨7,[(6,uQ (.row ⟨true,true,34,4,1,fun _=>[.slc true 4 0 0 ns.length,.int .i64 ht,.nils,.slc true 5 0 0 m]⟩)),(5,uQ (.row ⟨true,false,58,3,m,fun _=>[SV.int .i64 0,SV.int .i64 0,SV.int .i64 0]⟩)),(4,uQ (.row ⟨true,false,62,3,ns.length,nds ns⟩)),(3,uQ (.blk true (.ints dn))),(2,uQ (.row ⟨true,true,34,4,1,fun _=>[.nils,.int .i64 0,.nils,.nils]⟩)),(0,uQ (.row ⟨false,false,62,3,ns.length,nds ns⟩))]⟩:=by
      refine hK _ _ ?_;clear hG hK K;refine z6 ?_;refine z3x [0,2,8,10,15,80,81] ?_;rw[cbs_zero m];refine z4w 6 2 89 5 (lyR 8 (L.take 0)) rfl rfl rfl rfl rfl rfl rfl rfl (by dsimp only;omega) (by simp[SV.ltL,SV.lt]) ?_;simp only[setO,↓reduceIte,Nat.reduceEqDiff,Nat.reduceAdd,QN,QM,reduceCtorEq,uQ];refine z23 3 1 (lyF true (L.take 0)) ?_;dsimp only;refine zc fun Q2 hN2 hX2 hR2 hE2=> ?_;refine zx (σ:=Nat) (fun lv=>lv<=h+1) (fun lv=>h+1-lv) (fun lv=>[(0,.slc false 0 0 0 ns.length),(2,.int .i64 m),(8,.ptr 2 0 0 0),(10,.mp 3 0),(15,.ptr 6 0 0 0),(80,.int .i64 (ht+1)),(81,.int .i64 lv)]) (fun lv=>⟨9,[(6,uQ (.row ⟨true,true,34,4,1,fun _=>[.slc true 4 0 0 ns.length,.int .i64 ht,.slc true 7 0 0 ((z4l ns lv).length),.slc true 5 0 0 m]⟩)),(7,uQ (.row ⟨true,false,89,5,(z4l ns lv).length,lyR 8 (L.take ((z4l ns lv).length))⟩)),(8,(3*((z4l ns lv).length)+1,fam true 3 1 (lyF true (L.take ((z4l ns lv).length))))),(5,uQ (.row ⟨true,false,58,3,m,cbs (List.replicate m noCb)⟩)),(4,uQ (.row ⟨true,false,62,3,ns.length,nds ns⟩)),(3,uQ (.blk true (.ints dn))),(2,uQ (.row ⟨true,true,34,4,1,fun _=>[.nils,.int .i64 0,.nils,.nils]⟩)),(0,uQ (.row ⟨false,false,62,3,ns.length,nds ns⟩))]⟩) 0 (qp _) (ρ:=id) (JoDm.g_lvlP id) ?_;rintro lv hlv QL2 hL2 hRL2 hEL2;refine z3x [0,2,8,10,15,80,81,82] ?_;refine z6 ?_;refine z7 _ rfl ?_ ?_
      ·intro h82;replace h82:=JoDm.nb h82;refine za (z6 (zc fun Q3 hN3 hX3 hR3 hE3=> ?_));refine z3x [0,2,8,10,15,16,80,81] ?_;refine sg [0,2,8,10,15,16,80,81,86,87,88] rfl ?_;intro K hK;iterate 2 (refine z15 z16 ?_)
       refine z15 z16 ?_;refine JoDm.c1 (lists_spec ns ns.length rfl lv (by omega)) (id) ?_;have hll:=lstN_len ns (lv:Int);have hil:=ind_len ns (lv:Int);have hsA:=fun i=>shp_at hc hn16 (lv:=lv) (i:=i) (by omega);have hps:=lvlP_len (ns:=ns) (n:=lv);have hpl:=lvlP_le (ns:=ns) (show lv+1<=h+1 by omega);obtain⟨ls,hls⟩:∃ls,lstN ns (lv:Int)=ls:=⟨_,rfl⟩;obtain⟨P,hP⟩:∃P,(z4l ns lv).length=P:=⟨_,rfl⟩;rw[hls] at hll hil hsA hps ⊢;rw[hP] at hps hsA ⊢;iterate 2 (refine z15 z16 ?_)
       refine z8 (z3k (hK _ _ ?_));clear hK K;have hPw:P+ls.length<=L.length:=by omega
       refine Cs.famE (2*ls.length) 3 1 lyE (fun i _=>lyE_0 i) ?_;dsimp only;have hout:∀q,q<P+0->lyR 8 (L.take P) q=SV.renPL (anP (fun q=>q) 8 (mgM 8 10 11 P)) (lyR 8 (L.take (P+0)) q):=fun q hq=>(lyR_renG (fun q=>q) 8 10 11 P (L.take P) hq).symm;refine z4p (fr':=[(0,.slc false 0 0 0 ns.length),(2,.int .i64 m),(8,.ptr 2 0 0 0),(10,.mp 3 0),(15,.ptr 6 0 0 0),(16,.int .i64 lv),(80,.int .i64 (ht+1)),(81,.int .i64 lv),(86,.slc true 9 0 0 ls.length),(87,.int .i64 ls.length),(88,.int .i64 0)]) (H':=⟨10,[(9,uQ (.row ⟨true,false,22,1,ls.length,lyI 8 P ls⟩)),(6,uQ (.row ⟨true,true,34,4,1,fun _=>[.slc true 4 0 0 ns.length,.int .i64 ht,.slc true 7 0 0 (P+0),.slc true 5 0 0 m]⟩)),(7,uQ (.row ⟨true,false,89,5,P+0,lyR 8 (L.take (P+0))⟩)),(8,(3*(P+ls.length)+1,fam true 3 1 (lyF true (pxL L (P+0) (ls.drop (0)))))),(5,uQ (.row ⟨true,false,58,3,m,cbs (List.replicate m noCb)⟩)),(4,uQ (.row ⟨true,false,62,3,ns.length,nds ns⟩)),(3,uQ (.blk true (.ints dn))),(2,uQ (.row ⟨true,true,34,4,1,fun _=>[.nils,.int .i64 0,.nils,.nils]⟩)),(0,uQ (.row ⟨false,false,62,3,ns.length,nds ns⟩))]⟩) _ (JoDm.ga (fun q=>q) (8) (mgM 8 10 11 P) ((z2u rfl ql (zq.of (fun _=>⟨rfl,rfl⟩) rfl (qd _) (fun q _=>(lyI_renG _ _ _ _ _ _ q).symm)) (Obj.lt_row.2 fun q _=>(lyI_lt _ _ _ _ q).2 (qc rfl)) (qc rfl) (z2u rfl ql (zq.of (fun _=>⟨rfl,rfl⟩) rfl (qd _) (fun _ _=>rfl)) (Obj.lt_row.2 fun q _=>by simp[SV.ltL,SV.lt]) (qc rfl) (z2u rfl ql (zq.of (fun _=>⟨rfl,rfl⟩) rfl (qd _) (hout)) (Obj.lt_row.2 fun q _=>(lyR_lt _ _ _ q).2 (qc rfl)) (qc rfl) (lyF_consG (by omega) rfl rfl rfl rfl (qc rfl) (z2u rfl ql (zq.of (fun _=>⟨rfl,rfl⟩) rfl (qd _) (fun q _=>(cbs_renP _ _ q).symm)) (Obj.lt_row.2 fun q _=>cbs_lt _ _ q) (qc rfl) (z2u rfl ql (zq.of (fun _=>⟨rfl,rfl⟩) rfl (qd _) (fun q _=>(z33 _ _ q).symm)) (Obj.lt_row.2 fun q _=>z4e _ _ q) (qc rfl) (z2u rfl ql ⟨id,rfl⟩ trivial (qc rfl) (z2u rfl ql (zq.of (fun _=>⟨rfl,rfl⟩) rfl (qd _) (fun _ _=>rfl)) (Obj.lt_row.2 fun q _=>by simp[SV.ltL,SV.lt]) (qc rfl) (z2u rfl ql (zq.of (fun h=>(by cases h)) rfl (qd _) (fun q _=>(z33 _ _ q).symm)) (Obj.lt_row.2 fun q _=>z4e _ _ q) (qc rfl) trivial)))))))))) (mgM_ok 8 10 11 P (by decide) rfl ⟨qc rfl,qc rfl,qc rfl⟩) (⟨Or.inr (mgM_ne (by decide)),⟨Or.inr (mgM_ne (by decide)),⟨Or.inr (mgM_ne (by decide)),⟨Or.inl rfl,⟨Or.inr (mgM_ne (by decide)),⟨Or.inr (mgM_ne (by decide)),⟨Or.inr (mgM_ne (by decide)),⟨Or.inr (mgM_ne (by decide)),⟨Or.inr (mgM_ne (by decide)),trivial⟩⟩⟩⟩⟩⟩⟩⟩⟩)) ?_
       refine zc fun Q4 hN4 hX4 hR4 hE4=> ?_;refine zx (σ:=Nat) (fun i=>i<=ls.length) (fun i=>ls.length-i) (fun i=>[(0,.slc false 0 0 0 ns.length),(2,.int .i64 m),(8,.ptr 2 0 0 0),(10,.mp 3 0),(15,.ptr 6 0 0 0),(16,.int .i64 lv),(80,.int .i64 (ht+1)),(81,.int .i64 lv),(86,.slc true 9 0 0 ls.length),(87,.int .i64 ls.length),(88,.int .i64 i)]) (fun i=>⟨10,[(9,uQ (.row ⟨true,false,22,1,ls.length,lyI 8 P ls⟩)),(6,uQ (.row ⟨true,true,34,4,1,fun _=>[.slc true 4 0 0 ns.length,.int .i64 ht,.slc true 7 0 0 (P+i),.slc true 5 0 0 m]⟩)),(7,uQ (.row ⟨true,false,89,5,P+i,lyR 8 (L.take (P+i))⟩)),(8,(3*(P+ls.length)+1,fam true 3 1 (lyF true (pxL L (P+i) (ls.drop (i)))))),(5,uQ (.row ⟨true,false,58,3,m,cbs (List.replicate m noCb)⟩)),(4,uQ (.row ⟨true,false,62,3,ns.length,nds ns⟩)),(3,uQ (.blk true (.ints dn))),(2,uQ (.row ⟨true,true,34,4,1,fun _=>[.nils,.int .i64 0,.nils,.nils]⟩)),(0,uQ (.row ⟨false,false,62,3,ns.length,nds ns⟩))]⟩) 0 (qp _) (ρ:=id) (z5l id) ?_;rintro i hi QL3 hL3 hRL3 hEL3;refine z3x [0,2,8,10,15,16,80,81,86,87,88,89] ?_;refine z6 ?_;refine z7 _ rfl ?_ ?_
       ·intro h89;replace h89:=JoDm.nb h89;obtain⟨hp1,hp2,hp3⟩:=hsA i (by omega);have hk3:=shp_keys hc hn16 hp1;have hsb:=shpL_sub hn16 hp1;obtain⟨c,hcc⟩:∃c,(shA (z3n ns h) (P+i)).2=c:=⟨_,rfl⟩;rw[hcc] at hp3 hk3 hsb;have hcl:c.length=(ind ls i).length:=by rw[<-hp3,qB]
        have hlA:lyA L (P+i)=newLy dn m ((lv:Int),c):=by
         rw[<-hL,lyA_new hp1];congr 1;exact Prod.ext hp2 hcc
        have hnth:∀j,j<c.length->nth (ind ls i) j=(nd c j).id:=fun j hj=>by
         rw[<-hp3,z2v (by rw[qB];exact hj),j4,z51 hj]
        have hfn:∀j,j<c.length->findN ns (nth (ind ls i) j)=nd c j:=fun j hj=>by
         rw[hnth j hj];exact findN_at hc (hsb.1 _ (nd_mem hj))
        have hx0:lyA (pxL L (P+i) (ls.drop i)) (P+i)=idLy (ind ls i):=by
         have:=pxL_hi (L:=L) (P:=P+i) (l:=ls.drop i) (q:=0) (by omega) (by rw[QJ];omega);rw[QR] at this;rw[this,ind_drop,QR]
        have hxi:(lyA (pxL L (P+i) (ls.drop i)) (P+i)).ids=ind ls i:=by rw[hx0];rfl
        have hxl:=Qr List.length hxi
        have hc1:0<c.length:=by
         cases c with
         |nil=>exact absurd rfl hsb.2
         |cons _ _=>exact QZ _
        refine za (z6 (zc fun Q5 hN5 hX5 hR5 hE5=> ?_));refine z3x [0,2,8,10,15,16,18,80,81,86,87,88] ?_;refine z3x [0,2,8,10,15,16,18,19,80,81,86,87,88] ?_;refine z3x [0,2,8,10,15,16,18,19,20,80,81,86,87,88] ?_;refine z6 ?_;refine z3x [0,2,8,10,15,16,18,19,20,80,81,86,87,88,92,93,94] ?_;refine z2d 19 9 1 (strsK ((keyL c).take 0)) rfl ?_;dsimp only;refine z2d 20 4 1 (bos ((innL dn c).take 0)) rfl ?_;dsimp only;refine zc fun Q6 hN6 hX6 hR6 hE6=> ?_;refine zx (σ:=Nat) (fun j=>j<=c.length) (fun j=>c.length-j) (fun j=>[(0,.slc false 0 0 0 ns.length),(2,.int .i64 m),(8,.ptr 2 0 0 0),(10,.mp 3 0),(15,.ptr 6 0 0 0),(16,.int .i64 lv),(18,.slc true 8 (3*(P+i)+1) 0 (ind ls i).length),(19,.slc true 10 0 0 j),(20,.slc true 11 0 0 j),(80,.int .i64 (ht+1)),(81,.int .i64 lv),(86,.slc true 9 0 0 ls.length),(87,.int .i64 ls.length),(88,.int .i64 i),(92,.slc true 8 (3*(P+i)+1) 0 (ind ls i).length),(93,.int .i64 (ind ls i).length),(94,.int .i64 j)]) (fun j=>⟨12,[(11,uQ (.row ⟨true,false,4,1,j,bos ((innL dn c).take j)⟩)),(10,uQ (.row ⟨true,false,9,1,j,strsK ((keyL c).take j)⟩)),(9,uQ (.row ⟨true,false,22,1,ls.length,lyI 8 P ls⟩)),(6,uQ (.row ⟨true,true,34,4,1,fun _=>[.slc true 4 0 0 ns.length,.int .i64 ht,.slc true 7 0 0 (P+i),.slc true 5 0 0 m]⟩)),(7,uQ (.row ⟨true,false,89,5,P+i,lyR 8 (L.take (P+i))⟩)),(8,(3*(P+ls.length)+1,fam true 3 1 (lyF true (pxL L (P+i) (ls.drop (i)))))),(5,uQ (.row ⟨true,false,58,3,m,cbs (List.replicate m noCb)⟩)),(4,uQ (.row ⟨true,false,62,3,ns.length,nds ns⟩)),(3,uQ (.blk true (.ints dn))),(2,uQ (.row ⟨true,true,34,4,1,fun _=>[.nils,.int .i64 0,.nils,.nils]⟩)),(0,uQ (.row ⟨false,false,62,3,ns.length,nds ns⟩))]⟩) 0 (qp _) (ρ:=id) (z5l id) ?_
        rintro j hj QL4 hL4 hRL4 hEL4;refine z3x [0,2,8,10,15,16,18,19,20,80,81,86,87,88,92,93,94,95] ?_;refine z6 ?_;refine z7 _ rfl ?_ ?_
        ·intro h95;replace h95:=JoDm.nb h95;refine za (z6 ?_);refine Cs.blockG ?_;intro Q7 hN7 hX7 hR7 hE7 hB7;refine z3x [0,2,8,10,15,16,18,19,20,22,80,81,86,87,88,92,93,94] ?_;refine sg [0,2,8,10,15,16,18,19,20,22,23,80,81,86,87,88,92,93,94] rfl ?_;intro K hK;iterate 2 (refine z15 z16 ?_)
         refine z15 z16 ?_;rw[hxi];refine JoDm.c1 (find_spec ns (nth (ind ls i) j) ns.length rfl (by omega)) (id) ?_;rw[hfn j (by omega)];iterate 6 (refine z15 z16 ?_)
         refine z8 (z3k (hK _ _ ?_));clear hK K;refine Cs.regTreeN [0,2,8,10,15,16,18,19,20,80,81,86,87,88,92,93,94] (.op 0 (.op 1 (.op 2 (.op 5 (.op 6 (.op 7 (.two 3 8 (.two 4 8 (.op 8 (.op 9 (.op 10 (.op 11 (.op 12 .done))))) (.two 4 9 (.op 9 (.op 10 (.op 11 (.op 12 .done)))) (.op 4 (.op 10 (.op 11 (.op 12 .done)))))) (.two 3 9 (.two 4 9 (.op 9 (.op 10 (.op 11 (.op 12 .done)))) (.op 4 (.op 10 (.op 11 (.op 12 .done))))) (.op 3 (.op 4 (.op 10 (.op 11 (.op 12 .done))))))))))))) [[],[],[1],[1,2],[0,1,2,3],[],[],[],[6,7],[6,7,8],[0,1,2,3,4,5,6,7,8,9],[0,1,2,3,4,5,6,7,8,9,10],[0,1,2,3,4,5,6,7,8,9,10,11]] [[],[],[],[],[10],[],[],[],[],[],[11],[],[]] [[],[],[],[],[10],[10],[10],[10],[10],[10],[10,11],[10,11],[10,11]] hB7 Tryz.mo rfl rfl (by kernel_rfl) (by kernel_rfl) (by kernel_rfl) (by exact rfl) (by kernel_rfl) ?_;intro K hK hG
         have hk29:K [(0,.slc false 0 0 0 ns.length),(2,.int .i64 m),(8,.ptr 2 0 0 0),(10,.mp 3 0),(15,.ptr 6 0 0 0),(16,.int .i64 lv),(18,.slc true 8 (3*(P+i)+1) 0 (ind ls i).length),(19,.slc true 14 0 0 (j+1)),(20,.slc true 16 0 0 (j+1)),(80,.int .i64 (ht+1)),(81,.int .i64 lv),(86,.slc true 9 0 0 ls.length),(87,.int .i64 ls.length),(88,.int .i64 i),(92,.slc true 8 (3*(P+i)+1) 0 (ind ls i).length),(93,.int .i64 (ind ls i).length),(94,.int .i64 j)] ⟨17,[(16,uQ (.row ⟨true,false,4,1,j+1,bos ((innL dn c).take (j+1))⟩)),(14,uQ (.row ⟨true,false,9,1,j+1,strsK ((keyL c).take (j+1))⟩)),(9,uQ (.row ⟨true,false,22,1,ls.length,lyI 8 P ls⟩)),(6,uQ (.row ⟨true,true,34,4,1,fun _=>[.slc true 4 0 0 ns.length,.int .i64 ht,.slc true 7 0 0 (P+i),.slc true 5 0 0 m]⟩)),(7,uQ (.row ⟨true,false,89,5,P+i,lyR 8 (L.take (P+i))⟩)),(8,(3*(P+ls.length)+1,fam true 3 1 (lyF true (pxL L (P+i) (ls.drop (i)))))),(5,uQ (.row ⟨true,false,58,3,m,cbs (List.replicate m noCb)⟩)),(4,uQ (.row ⟨true,false,62,3,ns.length,nds ns⟩)),(3,uQ (.blk true (.ints dn))),(2,uQ (.row ⟨true,true,34,4,1,fun _=>[.nils,.int .i64 0,.nils,.nils]⟩)),(0,uQ (.row ⟨false,false,62,3,ns.length,nds ns⟩))]⟩:=by
          refine hK _ _ ?_;clear hG hK K;refine ze (hN7 _ _ ?_);refine JoDm.rg [0,2,8,10,15,16,18,19,20,80,81,86,87,88,92,93,94] ?_;refine ze (hL4 _ _ ?_);rw[show(j:Int)+1=((j+1:Nat):Int) from by omega];exact⟨j+1,⟨by omega,by omega⟩,fun q=>if q=10 then 14 else if q=11 then 16 else q,(z5l (fun q=>if q=10 then 14 else if q=11 then 16 else q))⟩
         refine z15 (z14 _ [] [] [] rfl rfl rfl rfl) ?_;refine z15 (z14 _ [] [] [] rfl rfl rfl rfl) ?_;refine z15 (z14 _ [] [] [] rfl rfl rfl rfl) ?_;refine z15 (z14 _ [] [10] [] rfl rfl rfl rfl) ?_;refine z15 (z14 _ [] [10] [] rfl rfl rfl rfl) ?_;refine z15 (z14 _ [] [10] [] rfl rfl rfl rfl) ?_;refine z2r ?_ ?_
         ·skip
          refine z15 (z14 _ [] [] [] rfl rfl rfl rfl) ?_;refine z2r ?_ ?_
          ·skip
           refine z15 (z14 _ [10] [10] [] rfl rfl rfl rfl) ?_;refine z15 (z14 _ [] [10] [] rfl rfl rfl rfl) ?_;refine z15 (z14 _ [] [10] [] rfl rfl rfl rfl) ?_;refine z15 (z14 _ [11] [10,11] [] rfl rfl rfl rfl) ?_;refine z15 (z14 _ [] [10,11] [] rfl rfl rfl rfl) ?_;refine z15 (z14 _ [] [10,11] [] rfl rfl rfl rfl) ?_;refine z1f ?_;refine z3k ?_;rw[app_strs1 (by omega),app_bos1 (by omega) _ (hnth j (by omega))];exact hG _ _ _ _ id (z5l id) hk29
          ·skip
           refine z15 (z14 _ [] [10] [] rfl rfl rfl rfl) ?_;refine z2r ?_ ?_
           ·skip
            refine z15 (z14 _ [10] [10] [] rfl rfl rfl rfl) ?_;refine z15 (z14 _ [] [10] [] rfl rfl rfl rfl) ?_;refine z15 (z14 _ [11] [10,11] [] rfl rfl rfl rfl) ?_;refine z15 (z14 _ [] [10,11] [] rfl rfl rfl rfl) ?_;refine z15 (z14 _ [] [10,11] [] rfl rfl rfl rfl) ?_;refine z1f ?_;refine z3k ?_;rw[app_strs1 (by omega),app_bos1 (by omega) _ (hnth j (by omega))];exact hG _ _ _ _ id (z5l id) hk29
           ·skip
            refine z15 (z14 _ [] [10] [] rfl rfl rfl rfl) ?_;refine z15 (z14 _ [10] [10] [] rfl rfl rfl rfl) ?_;refine z15 (z14 _ [11] [10,11] [] rfl rfl rfl rfl) ?_;refine z15 (z14 _ [] [10,11] [] rfl rfl rfl rfl) ?_;refine z15 (z14 _ [] [10,11] [] rfl rfl rfl rfl) ?_;refine z1f ?_;refine z3k ?_;rw[app_strs1 (by omega),app_bos1 (by omega) _ (hnth j (by omega))];exact hG _ _ _ _ (fun q=>if q=14 then 15 else q) (z5l (fun q=>if q=14 then 15 else q)) hk29
         ·skip
          refine z15 (z14 _ [] [10] [] rfl rfl rfl rfl) ?_;refine z2r ?_ ?_
          ·skip
           refine z15 (z14 _ [] [] [] rfl rfl rfl rfl) ?_;refine z2r ?_ ?_
           ·skip
            refine z15 (z14 _ [10] [10] [] rfl rfl rfl rfl) ?_;refine z15 (z14 _ [] [10] [] rfl rfl rfl rfl) ?_;refine z15 (z14 _ [11] [10,11] [] rfl rfl rfl rfl) ?_;refine z15 (z14 _ [] [10,11] [] rfl rfl rfl rfl) ?_;refine z15 (z14 _ [] [10,11] [] rfl rfl rfl rfl) ?_;refine z1f ?_;refine z3k ?_;rw[app_strs1 (by omega),app_bos1 (by omega) _ (hnth j (by omega))];exact hG _ _ _ _ id (z5l id) hk29
           ·skip
            refine z15 (z14 _ [] [10] [] rfl rfl rfl rfl) ?_;refine z15 (z14 _ [10] [10] [] rfl rfl rfl rfl) ?_;refine z15 (z14 _ [11] [10,11] [] rfl rfl rfl rfl) ?_;refine z15 (z14 _ [] [10,11] [] rfl rfl rfl rfl) ?_;refine z15 (z14 _ [] [10,11] [] rfl rfl rfl rfl) ?_;refine z1f ?_;refine z3k ?_;rw[app_strs1 (by omega),app_bos1 (by omega) _ (hnth j (by omega))];exact hG _ _ _ _ (fun q=>if q=14 then 15 else q) (z5l (fun q=>if q=14 then 15 else q)) hk29
          ·skip
           refine z15 (z14 _ [] [10] [] rfl rfl rfl rfl) ?_;refine z15 (z14 _ [] [] [] rfl rfl rfl rfl) ?_;refine z15 (z14 _ [10] [10] [] rfl rfl rfl rfl) ?_;refine z15 (z14 _ [11] [10,11] [] rfl rfl rfl rfl) ?_;refine z15 (z14 _ [] [10,11] [] rfl rfl rfl rfl) ?_;refine z15 (z14 _ [] [10,11] [] rfl rfl rfl rfl) ?_;refine z1f ?_;refine z3k ?_;rw[app_strs1 (by omega),app_bos1 (by omega) _ (hnth j (by omega))];exact hG _ _ _ _ (fun q=>if q=14 then 15 else q) (z5l (fun q=>if q=14 then 15 else q)) hk29
        ·intro h95;replace h95:=JoDm.nb h95;have hjc:j=c.length:=by omega
         subst hjc;have hkl:=z2i c;have hkm:=z3q dn c;rw[Qo (show(keyL c).length<=c.length by rw[z2i];exact qd _),Qo (show(innL dn c).length<=c.length by rw[z3q];exact qd _)];refine zw (hEL4 _ _ _ (hX6 _ _ ?_));refine sg [0,2,8,10,15,16,18,19,20,25,80,81,86,87,88] rfl ?_;intro K hK;iterate 4 (refine z15 z16 ?_)
         refine z15 z16 ?_;rw[hxi];refine JoDm.c1 (find_spec ns (nth (ind ls i) 0) ns.length rfl (by omega)) (id) ?_;rw[hfn 0 (by omega)];iterate 6 (refine z15 z16 ?_)
         refine z8 (z3k (hK _ _ ?_));clear hK K;refine sg [0,2,8,10,15,16,18,25,27,80,81,86,87,88] rfl ?_;intro K hK;iterate 3 (refine z15 z16 ?_)
         refine z15 z16 ?_;refine JoDm.c1 (newP_spec (keyL c) (innL dn c) c.length m (z2i c) (z3q dn c) hk3.2.2 m1 m8 hk3.1 hk3.2.1) (fun q=>if q=0 then 10 else if q=1 then 11 else q) ?_;iterate 6 (refine z15 z16 ?_)
         refine z8 (z3k (hK _ _ ?_));clear hK K;refine JoDm.rg [0,2,8,10,15,16,80,81,86,87,88] ?_;refine ze (hN5 _ _ ?_);have hT:∀q,q≠P+i->lyA (pxL L (P+i+1) (ls.drop (i+1))) q=lyA (pxL L (P+i) (ls.drop i)) q:=fun q hq=>pxL_step hPw (by omega) hq;have hx:lyA (pxL L (P+i+1) (ls.drop (i+1))) (P+i)=newLy dn m ((lv:Int),c):=by rw[pxL_lo (by omega) (by omega),hlA]
         have hids:(newLy dn m ((lv:Int),c)).ids=ind ls i:=hp3
         have hout:∀q,q<P+i+1->app (lyR 8 (L.take (P+i))) (P+i) (z4f 5 1 [SV.int .i64 lv,SV.int .u32 (nd c 0).word,SV.slc true 8 (3*(P+i)+1) 0 (ind ls i).length,SV.slc true 13 0 0 (newK (keyL c) (innL dn c) c.length).length,SV.slc true 14 0 0 (List.replicate m noPr).length]) q=SV.renPL (mvM (fun q=>if q=7 then 17 else q) 8 (ms2 (P+i) 13 14)) (lyR 8 (L.take (P+i+1)) q):=fun q hq=>by
          have e:=lyR_renM2 (fun q=>if q=7 then 17 else q) 8 (P+i) 13 14 (L.take (P+i+1)) q;rw[show(if(8:Nat)=7 then 17 else 8)=8 from rfl] at e;rw[e]
          split
          ·rename_i e;subst e;rw[app,qb (by omega),jb,take_ly (by omega),hlA,hids];simp only[newLy];rw[hdN_nd hc1];rfl
          ·rename_i e;rw[app,qf (by omega),lyR,lyR,take_ly (by omega),take_ly (by omega)]
         refine z4p (fr':=[(0,.slc false 0 0 0 ns.length),(2,.int .i64 m),(8,.ptr 2 0 0 0),(10,.mp 3 0),(15,.ptr 6 0 0 0),(16,.int .i64 lv),(80,.int .i64 (ht+1)),(81,.int .i64 lv),(86,.slc true 9 0 0 ls.length),(87,.int .i64 ls.length),(88,.int .i64 i)]) (H':=⟨10,[(9,uQ (.row ⟨true,false,22,1,ls.length,lyI 8 P ls⟩)),(6,uQ (.row ⟨true,true,34,4,1,fun _=>[.slc true 4 0 0 ns.length,.int .i64 ht,.slc true 7 0 0 (P+i+1),.slc true 5 0 0 m]⟩)),(7,uQ (.row ⟨true,false,89,5,P+i+1,lyR 8 (L.take (P+i+1))⟩)),(8,(3*(P+ls.length)+1,fam true 3 1 (lyF true (pxL L (P+i+1) (ls.drop (i+1)))))),(5,uQ (.row ⟨true,false,58,3,m,cbs (List.replicate m noCb)⟩)),(4,uQ (.row ⟨true,false,62,3,ns.length,nds ns⟩)),(3,uQ (.blk true (.ints dn))),(2,uQ (.row ⟨true,true,34,4,1,fun _=>[.nils,.int .i64 0,.nils,.nils]⟩)),(0,uQ (.row ⟨false,false,62,3,ns.length,nds ns⟩))]⟩) _ (JoDm.gm (fun q=>if q=7 then 17 else q) (8) (ms2 (P+i) 13 14) (ms2_ok (P+i) (by decide) ⟨rfl,rfl⟩ ⟨qc rfl,qc rfl⟩) ((z10 (by decide) rfl ql (zq.of (fun _=>⟨rfl,rfl⟩) rfl (qd _) (fun q _=>(show lyI 8 P ls q=SV.renPL _ (lyI 8 P ls q) by rw[lyI_renM2];rfl))) (Obj.lt_row.2 fun q _=>(lyI_lt _ _ _ _ q).2 (qc rfl)) (qc rfl) (z10 (by decide) rfl ql (zq.of (fun _=>⟨rfl,rfl⟩) rfl (qd _) (fun _ _=>rfl)) (Obj.lt_row.2 fun q _=>by simp[SV.ltL,SV.lt]) (qc rfl) (z10 (by decide) rfl ql (zq.of (fun _=>⟨rfl,rfl⟩) rfl (qd _) (hout)) (Obj.lt_row.2 fun q _=>(lyR_lt _ _ _ q).2 (qc rfl)) (qc rfl) (lyF_cons2 (x:=newLy dn m ((lv:Int),c)) rfl rfl rfl hx (by rw[hx0];exact hids) hT (qc rfl) (z10 (by decide) rfl ql (zq.of (fun _=>⟨rfl,rfl⟩) rfl (qd _) (fun q _=>(cbs_renP _ _ q).symm)) (Obj.lt_row.2 fun q _=>cbs_lt _ _ q) (qc rfl) (z10 (by decide) rfl ql (zq.of (fun _=>⟨rfl,rfl⟩) rfl (qd _) (fun q _=>(z33 _ _ q).symm)) (Obj.lt_row.2 fun q _=>z4e _ _ q) (qc rfl) (z10 (by decide) rfl ql ⟨id,rfl⟩ trivial (qc rfl) (z10 (by decide) rfl ql (zq.of (fun _=>⟨rfl,rfl⟩) rfl (qd _) (fun _ _=>rfl)) (Obj.lt_row.2 fun q _=>by simp[SV.ltL,SV.lt]) (qc rfl) (z10 (by decide) rfl ql (zq.of (fun h=>(by cases h)) rfl (qd _) (fun q _=>(z33 _ _ q).symm)) (Obj.lt_row.2 fun q _=>z4e _ _ q) (qc rfl) trivial))))))))))) ?_
         refine JoDm.rg [0,2,8,10,15,16,80,81,86,87,88] ?_;refine ze (hL3 _ _ ?_);rw[jj P i 1];rw[show(i:Int)+1=((i+1:Nat):Int) from by omega];exact⟨i+1,⟨by omega,by omega⟩,id,(z5l id)⟩
       ·intro h89;replace h89:=JoDm.nb h89;refine zw (hEL3 _ _ _ (hX4 _ _ (ze (hN3 _ _ ?_))));refine JoDm.rg [0,2,8,10,15,80,81] ?_;refine ze (hL2 _ _ ?_);have hie:i=ls.length:=by omega
        subst hie;rw[List.drop_length,pxL_nil];rw[<-hps,show(lv:Int)+1=((lv+1:Nat):Int) from by omega];exact⟨lv+1,⟨by omega,by omega⟩,id,(z5l id)⟩
      ·intro h82;replace h82:=JoDm.nb h82;have hlh:lv=h+1:=by omega
       subst hlh;rw[hLl,QV];refine zw (hEL2 _ _ _ (hX2 _ _ ?_));refine z3x [8,9] ?_;refine zd (hQ _ _ ?_);refine zm (fun q=>if q=2 then 4 else if q=3 then 7 else if q=4 then 8 else q) (.tup [.agg [.slc true 2 0 0 ns.length,.int .i64 ht,.slc true 3 0 0 L.length,.slc true 5 0 0 m],.int .i64 0]) (⟨6,[(2,uQ (.row ⟨true,false,62,3,ns.length,nds ns⟩)),(3,uQ (.row ⟨true,false,89,5,L.length,lyR 4 L⟩)),(4,(3*L.length+1,fam true 3 1 (lyF true L))),(5,uQ (.row ⟨true,false,58,3,m,cbs (List.replicate m noCb)⟩))]⟩) (.inl rfl) ?_;refine JoDm.ou ?_;refine⟨JoDm.s,JoDm.s,(z5l (fun q=>if q=2 then 4 else if q=3 then 7 else if q=4 then 8 else q)),JoDm.s,?_⟩
       all_goals first|trivial|exact⟨rfl,trivial⟩
     refine z15 (z14 _ [] [] [] rfl rfl rfl rfl) ?_;refine z15 (z14 _ [] [] [] rfl rfl rfl rfl) ?_;refine z15 (z14 _ [] [] [] rfl rfl rfl rfl) ?_;refine runT_three ?_ ?_ ?_
     ·skip
      refine z15 (z14 _ [] [] [] rfl rfl rfl rfl) ?_;refine JoDm.c1 (z5e ns ns.length rfl (by omega)) (id) ?_;refine z2r ?_ ?_
      ·skip
       refine z15 (z14 _ [] [] [] rfl rfl rfl rfl) ?_;refine z15 (z14 _ [] [] [] rfl rfl rfl rfl) ?_;refine z15 (z14 _ [] [] [6] rfl rfl rfl rfl) ?_;refine z15 (z14 _ [6] [] [6] rfl rfl rfl rfl) ?_;refine z1f ?_;refine z3k ?_;exact hG _ _ _ _ id (z5l id) hk16
      ·skip
       refine z15 (z14 _ [] [] [5] rfl rfl rfl rfl) ?_;refine z15 (z14 _ [5] [] [5] rfl rfl rfl rfl) ?_;refine z15 (z14 _ [5] [] [5] rfl rfl rfl rfl) ?_;refine z15 (z14 _ [5] [] [5] rfl rfl rfl rfl) ?_;refine z1f ?_;refine z3k ?_;exact hG _ _ _ _ (fun q=>if q=5 then 6 else if q=6 then 5 else q) (z5l (fun q=>if q=5 then 6 else if q=6 then 5 else q)) hk16
     ·skip
      refine z15 (z14 _ [] [] [] rfl rfl rfl rfl) ?_;refine z2r ?_ ?_
      ·skip
       refine z15 (z14 _ [] [] [] rfl rfl rfl rfl) ?_;refine JoDm.c1 (z5e ns ns.length rfl (by omega)) (id) ?_;refine z15 (z14 _ [] [] [] rfl rfl rfl rfl) ?_;refine z15 (z14 _ [] [] [6] rfl rfl rfl rfl) ?_;refine z15 (z14 _ [6] [] [6] rfl rfl rfl rfl) ?_;refine z1f ?_;refine z3k ?_;exact hG _ _ _ _ (fun q=>if q=4 then 5 else if q=5 then 4 else q) (z5l (fun q=>if q=4 then 5 else if q=5 then 4 else q)) hk16
      ·skip
       refine z15 (z14 _ [] [] [5] rfl rfl rfl rfl) ?_;refine z15 (z14 _ [5] [] [5] rfl rfl rfl rfl) ?_;refine JoDm.c1 (z5e ns ns.length rfl (by omega)) (id) ?_;refine z15 (z14 _ [5] [] [5] rfl rfl rfl rfl) ?_;refine z15 (z14 _ [5] [] [5] rfl rfl rfl rfl) ?_;refine z1f ?_;refine z3k ?_;exact hG _ _ _ _ (fun q=>if q=4 then 6 else if q=5 then 4 else if q=6 then 5 else q) (z5l (fun q=>if q=4 then 6 else if q=5 then 4 else if q=6 then 5 else q)) hk16
     ·skip
      refine z15 (z14 _ [] [] [4] rfl rfl rfl rfl) ?_;refine z2r ?_ ?_
      ·skip
       refine z15 (z14 _ [4] [] [4] rfl rfl rfl rfl) ?_;refine JoDm.c1 (z5e ns ns.length rfl (by omega)) (id) ?_;refine z15 (z14 _ [4] [] [4] rfl rfl rfl rfl) ?_;refine z15 (z14 _ [4] [] [4] rfl rfl rfl rfl) ?_;refine z15 (z14 _ [4] [] [4] rfl rfl rfl rfl) ?_;refine z1f ?_;refine z3k ?_;exact hG _ _ _ _ (fun q=>if q=4 then 5 else if q=5 then 6 else if q=6 then 4 else q) (z5l (fun q=>if q=4 then 5 else if q=5 then 6 else if q=6 then 4 else q)) hk16
      ·skip
       refine z15 (z14 _ [4] [] [4] rfl rfl rfl rfl) ?_;refine z15 (z14 _ [4] [] [4] rfl rfl rfl rfl) ?_;refine JoDm.c1 (z5e ns ns.length rfl (by omega)) (id) ?_;refine z15 (z14 _ [4] [] [4] rfl rfl rfl rfl) ?_;refine z15 (z14 _ [4] [] [4] rfl rfl rfl rfl) ?_;refine z1f ?_;refine z3k ?_;exact hG _ _ _ _ (fun q=>if q=4 then 6 else if q=6 then 4 else q) (z5l (fun q=>if q=4 then 6 else if q=6 then 4 else q)) hk16
end Go.Proofs
namespace Go.Sk
open Go.RowKit
theorem zf.nil {P : Program} {f : FuncId} {args args' : List SV} {n : Nat} {os os1 : List (Nat × Nat × (Nat -> Obj))} {e : TypeId} {va : Bool} {sz : Nat} {F : Nat -> List SV} {R : SV -> AH -> Prop}
    (h:zf P f args ⟨n+1,os1⟩ R) (hl:∀id k,look os1 id k=look ((n,uQ (.row ⟨false,va,e,sz,0,F⟩))::os) id k) (hm:∀y∈os1,(y.2.2 0).own=true->y∈os)
    (hd:∀β vs,z2g β args' vs->z2g β args vs) (hlt1:SV.ltL (n+1) args):zf P f args' ⟨n,os⟩ R:=by
  intro X β w vs hP hm0 hw hb ho hS hv hlt;have hm0:X.m0=n:=hm0
  have hS1:St X (β.set n fun _=>none) ⟨n+1,(n,uQ (.row ⟨false,va,e,sz,0,F⟩))::os⟩ w:=
    St.new' (H:=⟨n,os⟩) hS (fun k L _ he=>by cases he) (fun k k' L L' h h' he he' _=>by cases he) (fun k hk=> .inl ⟨rfl,rfl⟩) (fun k hk i j s hi _=>absurd hi (qI _))
  have hrow:∀{k o},look ((n,uQ (.row ⟨false,va,e,sz,0,F⟩))::os) n k=some o->o.own=false:=fun {k o} g=>by
    rw[z1e,qf rfl] at g
    split at g
    · cases g;rfl
    · cases g
  have hne:∀{id k},id≠n->look ((n,uQ (.row ⟨false,va,e,sz,0,F⟩))::os) id k=look os id k:=fun {id k} g=>by rw[z1e,qb (Qv g)]
  have how:(fun id k=> ∃o,look os1 id k=some o/\o.own=true)=fun id k=> ∃o,look os id k=some o/\o.own=true:=by
    funext id k
    apply propext
    constructor
    · rintro⟨o,g1,g2⟩;rw[hl] at g1
      by_cases g:id=n
      · subst g;rw[hrow g1] at g2;cases g2
      · rw[hne g] at g1;exact⟨o,g1,g2⟩
    · rintro⟨o,g1,g2⟩;have:id<n:=(hS.lt _ _ _ g1).1;exact⟨o,by rw[hl,hne (by omega)];exact g1,g2⟩
  have hkl:∀{id k},X.own0 id k->id<n:=fun {id k} g=>by have:=(hS.keep _ _ g).1;omega
  have hS2:St {X with m0:=n+1,β0:=β.set n fun _=>none} (β.set n fun _=>none) ⟨n+1,os1⟩ w:=by
    refine⟨hS1.os,hS1.tape,hS1.output,hS1.size,fun _ _ _=>rfl,fun id k o g=>hS1.holds id k o (by rw[<-hl];exact g),fun id k id' k' o o' L L' g1 g2=>hS1.sep id k id' k' o o' L L' (by rw[<-hl];exact g1) (by rw[<-hl];exact g2),fun b hb' hn=>hS1.old b hb' fun id k o L g=>hn id k o L (by rw[hl];exact g),fun id k o L g go gb=> ?_,fun id k g=> ?_,qd _,fun id k o g=>hS1.lt id k o (by rw[<-hl];exact g),?_,hS1.drawn⟩
    · rw[hl] at g;rcases hS1.mine id k o L g go gb with q|q
      · exact .inl ⟨Js (hm0 ▸ q.1),q.2⟩
      · refine .inr ⟨?_,q.2⟩;have:id≠n:=fun e=>by subst e;rw[hrow g] at go;cases go
        have:=q.1
        show n+1<=id
        omega
    · obtain⟨g1,o,g2,g3⟩:=hS1.keep id k g;exact⟨Js (hkl g),o,by rw[hl];exact g2,g3⟩
    · refine⟨fun g hg=> ?_,fun g hg=> ?_⟩
      · obtain⟨a,b,c⟩:=hS1.tabs.1 g hg
        exact ⟨a, b, fun id k L q1 q2 => c id k L q1 (by rw [hb]; have := hkl q1; have e : (β.set n fun _ => none) id k = β id k := by unfold Env.set; rw [qb (by omega)]
                                                         rw[<-e];exact q2)⟩
      · obtain⟨a,b,c⟩:=hS1.tabs.2 g hg
        exact ⟨a, b, fun id k L q1 q2 => c id k L q1 (by rw [hb]; have := hkl q1; have e : (β.set n fun _ => none) id k = β id k := by unfold Env.set; rw [qb (by omega)]
                                                         rw[<-e];exact q2)⟩
  refine(h {X with m0:=n+1,β0:=β.set n fun _=>none} _ w vs hP rfl hw rfl (ho.trans how.symm) hS2 (hd _ _ (z4s (Env.agree_set β n _) _ _ hlt hv)) hlt1).mono ?_;rintro e w' ⟨v,rfl,β',s,H',hR,h1,h2,h3,h4⟩;refine⟨v,rfl,β',s,H',hR,fun x hx=> ?_,h2,h3,?_⟩
  · obtain⟨q1,q2⟩:=h1 x hx;refine⟨q1,?_⟩;rcases q2 with q2|⟨y,y1,y2,y3,y4⟩
    · exact .inl (JU q2)
    · exact .inr ⟨y,hm y y1 y4,y2,y3,y4⟩
  · refine⟨h4.os,h4.tape,h4.output,h4.size,fun id k hid=> ?_,h4.holds,h4.sep,h4.old,fun id k o L g go gb=> ?_,fun id k g=> ?_,?_,h4.lt,hS.tabs,h4.drawn⟩
    · rw[hm0] at hid;rw[h4.fix id k (Js hid),hb]
      show(β.set n fun _=>none) id k=β id k
      unfold Env.set;rw[qb (by omega)]
    · rcases h4.mine id k o L g go gb with q|q
      · exact .inl ⟨by rw[hm0];exact hkl q.2,q.2⟩
      · exact .inr ⟨by rw[hm0];exact JU q.1,q.2⟩
    · exact⟨by rw[hm0];exact hkl g,(h4.keep id k g).2⟩
    · rw[hm0];exact JU h4.m0
end Go.Sk
namespace Go.Proofs
open Tryz
open Go.Sk
theorem New_nil (ns:List Nd)(m n:Nat)(ht:Int)(hn:ns.length=n)(hc:z1o ns=0)(hs:ns.length<=20)(m1:1<=m)(m8:m<=8)(h0:0<=ht)(h16:ht<=16):
  zf prog 16 [.slc false 0 0 0 n,.nils,.int .i64 m,.int .i64 ht] ⟨1,[(0,uQ (.row ⟨false,false,62,3,n,nds ns⟩))]⟩
   (fun s H1=>s= .tup [.agg [.slc true 2 0 0 n,.int .i64 ht,.slc true 3 0 0 (z3j ns [] m ht).ly.length,.slc true 5 0 0 m],.int .i64 0]/\H1=⟨6,[(2,uQ (.row ⟨true,false,62,3,n,nds ns⟩)),(3,uQ (.row ⟨true,false,89,5,(z3j ns [] m ht).ly.length,lyR 4 (z3j ns [] m ht).ly⟩)),(4,(3*(z3j ns [] m ht).ly.length+1,fam true 3 1 (lyF true (z3j ns [] m ht).ly))),(5,uQ (.row ⟨true,false,58,3,m,cbs (List.replicate m noCb)⟩))]⟩):=by
 refine(New_ok ns [] m n 0 ht hn rfl hc hs m1 m8 h0 h16 (by decide) (fun v hv=>by cases hv) jI).nil (n:=1) (e:=3) (va:=false) (sz:=1) (F:=ints []) (fun id k=> ?_) (fun y hy ho=> ?_) (fun β vs hv=> ?_) (by simp[SV.ltL,SV.lt])
 ·rw[z1e,z1e,z1e,z1e]
  by_cases g:id=0
  ·subst g;rfl
  ·by_cases g1:id=1
   ·subst g1;rfl
   ·rw[qb (Qv g),qb (Qv g1),qb (Qv g),qb (Qv g1)]
 ·simp only[qw,QA,j7] at hy;rcases hy with rfl|rfl
  ·exact qm ..
  ·cases ho
 ·obtain⟨a,l,h1,⟨b,l2,h2,h3,e2⟩,e1⟩:=hv;have h2:b= .slice none 0 0:=h2;subst h2;exact⟨a,l,h1,⟨_,l2,⟨none,0,rfl,qd _,fun h=>absurd h (jQ _)⟩,h3,e2⟩,e1⟩
end Go.Proofs
