/-
  Walks and plain facts, joined: part 6 of 6.
  Conditions: those that each statement names.
-/
import Derived.Test.YtcgbbbockmcmoaaGreatDoorQxe
import Derived.Test.YtcgbbbockmcmoaaGreatDoorQxc
import Derived.Test.YtcgbbbockmcmoaaGreatDoorQxb
import Derived.Test.YtcgbbbockmcmoaaGreatDoorQxd
set_option linter.unusedSimpArgs false
set_option linter.unusedVariables false
set_option maxRecDepth 4000
namespace Go.Proofs
open Go.Sk
theorem nds_renP (π:Pn)(l:List Nd)(i:Nat):SV.renPL π (nds l i)=nds l i:=by simp[nds,Nd.sv,SV.renPL,SV.renP]
theorem MwKm.s {a:Prop}(h:a:=by simp[SV.wkL,SV.wk,z1i,z1b,Sk.get,Sk.find,Sk.one,zb.eq_1,zb.eq_2,zb.eq_3,zo,z1k,z1g,SV.renL,SV.ren,Obj.lt_row,SV.ltL,SV.lt,z7c,z3q,zw,z25,Obj.own.eq_1,Obj.own.eq_2,Obj.own.eq_3,Obj.own.eq_4,z1e,zn,zr,z1w,nds,Nd.sv,z14,zx,z3a,z3b,z28,z1r,z2t,z15,z1h,z18,z21,z2u,z1o,z1j,z20,z19,z2h,zj,z1t,z43,z7x,Rg.sv]):a:=h
theorem MwKm.ca {P:Program}{f:FuncId}{args args0:List SV}{H0 H:AH}{R:SV→AH→Prop}{dr:Bool}{W:List Nat}{k:SV→AH→Prop}(hF:ze P f args0 H0 R)(ρ:Nat→Nat)(hk:∀s0 H1,R s0 H1→∀s1 H2,s1=s0.ren (z57 H0.nxt H.nxt ρ)→H2=after H0.nxt ρ H0 H H1→k s1 H2)(q:CaQ args args0 ρ H0 H dr W:=by constructor<;>exact MwKm.s)(r:CaR ρ H0 H:=by exact⟨rfl,rfl⟩):z4u P f args H dr W k:=caS hF ρ hk q r
theorem MwKm.t {s e:SV}{H g:AH}(q:AfQ s e H g:=by constructor<;>(simp only[z1x,after,z57,id,z2q,reduceCtorEq,Nat.reduceEqDiff,zc5,zc6,z5u,z2p,zw,Sk.one,Obj.own.eq_1,Obj.own.eq_2,Obj.own.eq_3,Obj.own.eq_4,Obj.ren.eq_1,Obj.ren.eq_2,Obj.ren_blk,Row.ren,SV.ren,SV.renL,↓reduceIte,Nat.reduceLT,Nat.reduceAdd,Nat.reduceSub,Tryz.tyInt,Tryz.szInt,Tryz.tyStr,Tryz.tyU32,Tryz.tyNode,Tryz.szNode,Tryz.zNode,Tryz.tyNodes,Tryz.szNodes,z1e,zn,nds,Nd.sv,Tryz.tyRow,Tryz.szRow,Tryz.zRow,Tryz.tyRows,Tryz.szRows,Tryz.zRows,Tryz.tyHd,Tryz.szHd,Tryz.zHd,Tryz.tyHds,Tryz.szHds,Tryz.tyHoldings,Tryz.tyErr,Tryz.tyBool,Tryz.tyTape,Tryz.szTape,Tryz.zTape,zj,z1t,Tryz.tyInts,Tryz.szInts,Tryz.tyRg,Tryz.szRg,Tryz.zRg,Rg.sv,z6i,z4b,fam_ren,hmF_ren,z8k,hmR_ren,z6m,hoF_ren,hoR_fold,hoR_ren];exact rfl)):AfQ s e H g:=q
theorem MwKm.af {s e e1:SV}{H g g1:AH}(h1:s=e)(h2:H=g)(q:AfQ e e1 g g1:=by exact MwKm.t):s=e1∧H=g1:=⟨h1.trans q.s,h2.trans q.h⟩
theorem MwKm.c1 {P:Program}{f:FuncId}{args args0:List SV}{H0 H Y g:AH}{X e:SV}{dr:Bool}{W:List Nat}{k:SV→AH→Prop}(hF:ze P f args0 H0 fun s H1=>s=X∧H1=Y)(ρ:Nat→Nat)(h:k e g)(q:CaQ args args0 ρ H0 H dr W:=by constructor<;>exact MwKm.s)(r:CaR ρ H0 H:=by exact⟨rfl,rfl⟩)(b:AfQ (X.ren (z57 H0.nxt H.nxt ρ)) e (after H0.nxt ρ H0 H Y) g:=by exact MwKm.t):z4u P f args H dr W k:=c1S hF ρ h q r b
theorem MwKm.g {X:Cx}{fr:Fr}{H:AH}{fr1:Fr}{H1:AH}(ρ:Nat→Nat)(q:GvQ X ρ fr H fr1 H1:=by constructor<;>exact MwKm.s)(r:GvR X ρ H1:=by exact⟨rfl,rfl,Nat.le_of_ble_eq_true rfl,rfl⟩):z2v X ρ fr H fr1 H1:=gvS ρ q r
theorem MwKm.u {a:Prop}(h:a:=by simp[frGivesP,Sk.get,SV.renP,SV.renPL,mvP,shP,SV.lt,SV.ltL,z7c,Sk.one,z3q,Sk.find,Obj.own.eq_1,Obj.own.eq_2,Obj.own.eq_3,Obj.own.eq_4,z1e,zn,zr,z1w,nds,Nd.sv,z14,zx,z3a,z3b,z28,z1r,z2t,z15,z1h,z18,z21,z2u,z1o,z1j,z20,z1g,z19,z2h,zj,z1t,z43,z7x,Rg.sv]):a:=h
theorem MwKm.gp {X:Cx}{fr:Fr}{H:AH}{fr1:Fr}{H1:AH}(ρ:Nat→Nat)(f j a:Nat)(a2:z16 ρ f j a H1.nxt H.os H1.os)(q:GpQ X (mvP ρ f j a) fr H fr1 H1:=by constructor<;>exact MwKm.u)(r:GpR X ρ f H1:=by exact⟨rfl,rfl,Nat.le_of_ble_eq_true rfl,Nat.le_of_ble_eq_true rfl,rfl⟩)(t:GpA X ρ a H1:=by exact⟨rfl,Nat.le_of_ble_eq_true rfl⟩):z8d X (mvP ρ f j a) fr H fr1 H1:=gpS ρ f j a a2 q r t
theorem MwKm.o {a c d:Prop}(r:a→c)(h:d)(e:Sd a d:=by simp only[stp,isQ,z4q,Sk.get,Sk.put,z24,zt,↓reduceIte,reduceCtorEq,Nat.reduceEqDiff,zc2,zc3,implies_true,forall_const,zc5,qop,grdK,zc4,List.getElem?_cons_zero,beq_self_eq_true,zc1,z13,cond_true,cond_false,z3x,Sk.find,Sk.one,z17,z1u,Kd.agg,Nat.reduceBEq,ite_self,Nat.zero_add,Nat.reduceAdd,Nat.reduceMul,Nat.reduceSub,Nat.reduceLT,Nat.reduceLeDiff,Nat.zero_le,ne_eq,Int.reduceToNat,exists_eq',spl,z29,SV.cells,SV.scalar,binK,z5o,z5n,intK,z2x,strK,z37,z5m,z3u,unK,z5p,z5i,z39,z3c,z5c,z3d,z3e,optK,z3g,bndK,z36,z38,z55,z3k,lenK,z1a.len,zq.n,z50,mmK,z1y,eop,z5s,srcK,z1f,z44,z3o,capK,z5t,z2c,z2q,z30,boxK,z2d,z3m,z31,updF,mkK,z5a,z1a.ofKd,zq.ofKd,z5b,z1a.add,z1a.okKd,zq.put,zq.okKd,zq.okP,z3f,z1a.has,zq.get,zq.z,Tryz.tyInt,Tryz.szInt,Tryz.tyStr,Tryz.tyU32,Tryz.tyNode,Tryz.szNode,Tryz.zNode,Tryz.tyNodes,Tryz.szNodes,z1e,zn,nds,Nd.sv,Tryz.tyRow,Tryz.szRow,Tryz.zRow,Tryz.tyRows,Tryz.szRows,Tryz.zRows,Tryz.tyHd,Tryz.szHd,Tryz.zHd,Tryz.tyHds,Tryz.szHds,Tryz.tyHoldings,z87,z86,z8p,Tryz.tyErr,Tryz.tyBool,Tryz.tyTape,Tryz.szTape,Tryz.zTape,zj,z1t,ints,Tryz.tyInts,Tryz.szInts,Tryz.tyRg,Tryz.szRg,Tryz.zRg,Rg.sv,hoR_ap,hoF_ap];(repeat(with_reducible apply Sd.and;exact z7));exact Sd.rfl):c:=r (e.f h)
theorem MwKm.rg {X:Cx}{Q:Exit→Fr→AH→Prop}{fr fr1:Fr}{H H1:AH}{l:List Code}{id:Nat}{ops:List Oper}(keep:List Nat)(h:Cs X l Q fr1 H1)(hd:z2b X.n ops=true:=by exact rfl)(e:∀K:Fr→AH→Prop,K fr1 H1→z5v X.P X.wrap X.m0 ops.toArray ops fr H (fun fr H=>K (prune keep fr) H):=by(intro K hK;(repeat(refine MwKm.o z5 ?_));exact za (z8 hK))):Cs X (.region id ops.toArray false::l) Q fr H:=rgS keep h hd e
theorem MwKm.rs {X:Cx}{Q:Exit→Fr→AH→Prop}{fr fr1:Fr}{H H1:AH}{l:List Code}{id:Nat}{ops:List Oper}{y:Code}(keep:List Nat)(h:Cs X (y::l) Q fr1 H1)(hd:z2b X.n ops=true:=by exact rfl)(e:∀K:Fr→AH→Prop,K fr1 H1→z5v X.P X.wrap X.m0 ops.toArray ops fr H (fun fr H=>K (prune keep fr) H):=by(intro K hK;(repeat(refine MwKm.o z5 ?_));exact za (z8 hK))):Cs X (.seq (.region id ops.toArray false) y::l) Q fr H:=Cs.seq (rgS keep h hd e)
theorem small_spec (l:List Hm)(hl:l.length≤9223372036854775807)(hr:∀i,i<l.length→(hm l i).off≤(hm l i).full.length∧(hm l i).full.length≤9223372036854775807)(n:Nat)(hn:l.length=n):
  ze Tryz.prog 4 [.slc false 0 0 0 n] ⟨2,[(0,Sk.one (.row ⟨false,false,43,4,n,hmR false 1 l⟩)),(1,(n+1,fam false 45 2 (hmF false l)))]⟩
   (fun s H1=> ∃B:Bool,(B=true→n≤70∧∀i,i<n→(hm l i).n≤40)∧s= .bool B∧H1=⟨2,[]⟩):=by
 subst hn;refine ze.ofC false 19 [.tmp 2] Tryz.func4 rfl rfl Tryz.ntmps4 Tryz.results4 rfl ?_;intro w0 own0 β0 Q hQ hQn;simp only[z1n];refine MwKm.rs [0] ?_;refine Cs.seq ?_;refine MwKm.rs [0,5,6,7] ?_;refine Cs.block ?_;intro Q0 hN0 hX0 hR0 hE0;refine Cs.loop (σ:=Nat) (fun i=>i≤l.length∧∀j,j<i→(hm l j).n≤40) (fun i=>l.length-i) (fun i=>[(0,.slc false 0 0 0 l.length),(5,.slc false 0 0 0 l.length),(6,.int .i64 l.length),(7,.int .i64 i)]) (fun i=>⟨2,[(0,Sk.one (.row ⟨false,false,43,4,l.length,hmR false 1 l⟩)),(1,(l.length+1,fam false 45 2 (hmF false l)))]⟩) 0 ⟨Nat.zero_le _,fun j hj=>absurd hj (Nat.not_lt_zero j)⟩ (ρ:=id) (MwKm.g id) ?_;rintro i ⟨hi,hall⟩ QL1 hL1 hRL1 hEL1;refine MwKm.rs [0,5,6,7,8] ?_;refine Cs.seq ?_;refine Cs.cond _ rfl ?_ ?_
 ·intro h8;replace h8:=z6 h8;have hii:i<l.length:=by omega
  obtain⟨r1,r2⟩:=hr i hii;refine Cs.skip ?_;refine Cs.seq ?_;refine Cs.block ?_;intro Q1 hN1 hX1 hR1 hE1;refine MwKm.rs [0,4,5,6,7] ?_;refine MwKm.rs [0,5,6,7,14] ?_;refine Cs.cond _ rfl ?_ ?_
  ·intro h14
   refine MwKm.rs [2] ?_;refine Cs.ret ?_;refine hR1 _ _ ?_;refine hRL1 _ _ ?_;refine hR0 _ _ ?_;refine hQ _ _ ?_;refine zm.mk (H':=⟨2,[]⟩) (.inl rfl) ?_;refine zh ?_;refine⟨MwKm.s,(MwKm.g id),MwKm.s,?_⟩;exact⟨false,fun h=>(by cases h),by trivial,by trivial⟩
  ·intro h14;replace h14:=z6 h14;refine Cs.skip ?_;refine Cs.nil ?_;refine hN1 _ _ ?_;refine MwKm.rg [0,5,6,7] ?_;refine Cs.nil ?_;refine hL1 _ _ ?_;rw[show(i:Int)+1=((i+1:Nat):Int) from by omega];refine⟨i+1,⟨⟨by omega,fun j hj=> ?_⟩,by omega⟩,id,(MwKm.g id)⟩
   by_cases e:j<i
   ·exact hall j e
   ·have:j=i:=by omega
    rw[this];omega
 ·intro h8;replace h8:=z6 h8;refine Cs.exit ?_;refine hEL1 _ _ _ ?_;refine hX0 _ _ ?_;refine MwKm.rs [2] ?_;refine Cs.ret ?_;refine hQ _ _ ?_;have hin:i=l.length:=by omega
  refine zm.mk (H':=⟨2,[]⟩) (.inl rfl) ?_;refine zh ?_;refine⟨MwKm.s,(MwKm.g id),MwKm.s,?_⟩;refine⟨_,fun h=> ?_,rfl,by trivial⟩;simp only[decide_eq_true_eq] at h;exact⟨by omega,fun j hj=>hall j (by omega)⟩
theorem raw_ok {l:List Hm}(hr:∀i,i<l.length→(hm l i).off=0){n:Nat}(hn:l.length=n)(h:n≤70∧∀i,i<n→(hm l i).n≤40):HmB l:=by
 subst hn;refine⟨by omega,fun x hx=> ?_⟩;obtain⟨i,hi,rfl⟩:=List.getElem_of_mem hx;rw[←hm_lt hi];have h1:=hr i hi;have h2:=h.2 i hi;simp only[Hm.n] at h2;omega
def vOf (ys:List Nd)(rs:List Rw):List Hd:=ys.map fun y=>⟨y,slT (refIvN ys y.id) rs⟩
theorem vOf_len (ys:List Nd)(rs:List Rw):(vOf ys rs).length=ys.length:=by simp[vOf]
theorem hd_vOf {ys:List Nd}{rs:List Rw}{i:Nat}(h:i<ys.length):hd (vOf ys rs) i=⟨nd ys i,slT (refIvN ys (nd ys i).id) rs⟩:=by
 simp[hd,vOf,nd,List.getD,h]
theorem vOf_rows (ys:List Nd)(rs:List Rw)(i:Nat):(hd (vOf ys rs) i).rows.length≤rs.length:=by
 by_cases h:i<ys.length
 ·rw[hd_vOf h];exact List.length_filter_le _ _
 ·have:hd (vOf ys rs) i=noHd:=by simp[hd,vOf,List.getD,List.getElem?_eq_none (show ys.length≤i by omega)]
  rw[this];exact Nat.zero_le _
set_option maxHeartbeats 2000000 in
theorem holdings_spec (ls:List Int)(m at_:Nat)(hx:ls.length≤9223372036854775807)(hm0:m≤ls.length)(ha:at_≤m)(n:Int)(hn:1≤n∧n≤64)(rows:Int)(hr:0≤rows∧rows≤1000):
  ze Tryz.prog 7 [.ptr 0 0 0 0,.int .i64 n,.int .i64 rows] ⟨2,[(0,zj 1 m at_),(1,z1t ls)]⟩
   (fun s H1=> ∃(l:List Hm) (at1:Nat),at1≤m∧0<l.length∧(l.length:Int)≤n∧(∀i,(hm l i).off=0∧((hm l i).full.length:Int)≤rows)∧s= .slc true 2 0 0 l.length∧H1=⟨4,[(2,Sk.one (.row ⟨true,false,43,4,l.length,hmR false 3 l⟩)),(3,(l.length+1,fam true 45 2 (hmF true l))),(0,zj 1 m at1)]⟩):=by
 refine ze.ofC false 44 [.tmp 6] Tryz.func7 rfl rfl Tryz.ntmps7 Tryz.results7 rfl ?_;intro w0 own0 β0 Q hQ hQn;simp only[z1n];refine MwKm.rs [0,1,2] ?_;refine sg [0,2,7] rfl ?_;intro K hK;iterate 2 (refine MwKm.o z5 ?_)
 refine MwKm.o z5 ?_;refine MwKm.ca (some_spec ls m at_ n hx hm0 ha hn) (id) ?_;rintro s0 H0 ⟨xs,at1,h1,h2,h3,h4,rfl,rfl⟩ s1 H1 hs1 hH1;obtain⟨hs2,hH2⟩:=MwKm.af hs1 hH1;clear hs1 hH1;subst hs2 hH2;repeat(with_reducible apply ai;exact z7)
 refine MwKm.o z5 ?_;refine MwKm.c1 (refSort_spec xs xs.length rfl (by omega)) (fun _=>2) ?_;obtain⟨ys,hys⟩:∃ys,ys=srtN xs:=⟨_,rfl⟩;have hyl:ys.length=xs.length:=by rw[hys];exact z82 xs
 rw[←hys,←hyl];refine MwKm.o z5 ?_;refine za (z8 (hK _ _ ?_));clear hK K;refine sg [7,8] rfl ?_;intro K hK;iterate 2 (refine MwKm.o z5 ?_)
 refine MwKm.o z5 ?_;refine MwKm.ca (rows_spec ls m at1 hx hm0 h1 rows hr) (id) ?_;rintro s0 H0 ⟨rs,at2,g1,g2,rfl,rfl⟩ s1 H1 hs1 hH1;obtain⟨hs2,hH2⟩:=MwKm.af hs1 hH1;clear hs1 hH1;subst hs2 hH2;repeat(with_reducible apply ai;exact z7)
 refine MwKm.o z5 ?_;refine za (z8 (hK _ _ ?_));clear hK K;refine MwKm.rs [7,8,9] ?_;refine Cs.seq ?_;refine MwKm.rs [7,8,9,21,22,23] ?_;refine Cs.nilO 9 43 4 (hoR true 6 ((vOf ys rs).take 0)) rfl ?_;dsimp only;refine Cs.fam0 45 2 (hoF true ((vOf ys rs).take 0)) ?_;dsimp only;refine Cs.block ?_;intro Q0 hN0 hX0 hR0 hE0;refine Cs.loop (σ:=Nat) (fun i=>i≤ys.length) (fun i=>ys.length-i) (fun i=>[(7,.slc true 3 0 0 ys.length),(8,.slc true 4 0 0 rs.length),(9,.slc true 5 0 0 i),(21,.slc true 3 0 0 ys.length),(22,.int .i64 ys.length),(23,.int .i64 i)]) (fun i=>⟨7,[(5,Sk.one (.row ⟨true,false,43,4,i,hoR true 6 ((vOf ys rs).take i)⟩)),(6,(i+1,fam true 45 2 (hoF true ((vOf ys rs).take i)))),(4,Sk.one (.row ⟨true,false,45,2,rs.length,rws rs⟩)),(0,zj 1 m at2),(3,Sk.one (.row ⟨true,false,40,3,ys.length,nds ys⟩))]⟩) 0 (Nat.zero_le _) (ρ:=id) (MwKm.g id) ?_;rintro i hi QL1 hL1 hRL1 hEL1;refine MwKm.rs [7,8,9,21,22,23,24] ?_;refine Cs.seq ?_;refine Cs.cond _ rfl ?_ ?_
 ·intro h24;replace h24:=z6 h24;have hii:i<ys.length:=by omega
  refine Cs.skip ?_;refine Cs.seq ?_;refine Cs.block ?_;intro Q1 hN1 hX1 hR1 hE1;refine MwKm.rs [7,8,9,11,21,22,23] ?_;refine sg [7,8,9,11,12,21,22,23] rfl ?_;intro K hK;iterate 3 (refine MwKm.o z5 ?_)
  refine MwKm.o z5 ?_;refine MwKm.c1 (refInterval_spec ys (nd ys i).id ys.length rfl (by omega)) (fun _=>3) ?_;iterate 6 (refine MwKm.o z5 ?_)
  refine za (z8 (hK _ _ ?_));clear hK K;refine Cs.regDraw [7,8,9,21,22,23] [0,1,2,3,4,5,6,7,8] [[],[],[],[],[2,3],[1,2,3,4],[1,2,3,4,5],[0,1,2,3,4,5,6],[0,1,2,3,4,5,6,7]] [[],[],[],[],[],[],[],[5],[]] [[],[],[],[],[],[],[],[5],[5]] Tryz.mo rfl rfl rfl (by kernel_rfl) (by kernel_rfl) (by kernel_rfl) rfl (by kernel_rfl) ?_;intro K hK;iterate 4 (refine MwKm.o (zf _ [] [] rfl rfl rfl) ?_)
  refine MwKm.o (zf _ [] [] rfl rfl rfl) ?_;refine MwKm.c1 (sliceR0_spec rs (refIvN ys (nd ys i).id) rs.length rfl (by omega)) (fun _=>4) ?_;iterate 2 (refine MwKm.o (zf _ [] [] rfl rfl rfl) ?_)
  refine MwKm.o (zf _ [5] [5] rfl rfl rfl) ?_;refine MwKm.o (zf _ [] [5] rfl rfl rfl) ?_;refine z2n (z8 (hK _ _ ?_));clear hK K;refine Cs.nil ?_;refine hN1 _ _ ?_;have hT:(vOf ys rs).take (i+1)=(vOf ys rs).take i++[hd (vOf ys rs) i]:=by rw[hd_lt (by rw[vOf_len];exact hii),List.take_succ_eq_append_getElem (by rw[vOf_len];exact hii)]
  have hold:∀q,q<i→hd ((vOf ys rs).take (i+1)) q=hd ((vOf ys rs).take i) q:=fun q hq=>by rw[hd_take (by omega),hd_take hq]
  have hnew:hd ((vOf ys rs).take (i+1)) i=⟨nd ys i,slT (refIvN ys (nd ys i).id) rs⟩:=by rw[hd_take (by omega),hd_vOf hii]
  have hout:∀q,q<i+1→app (hoR true 6 ((vOf ys rs).take i)) i (z7r 4 1 [SV.int .i64 (nd ys i).id,SV.str (nd ys i).key,SV.int .u32 (nd ys i).word,SV.slc true 9 0 0 (slT (refIvN ys (nd ys i).id) rs).length]) q=SV.renPL (mvP (fun q=>if q=5 then 11 else q) 6 i 9) (hoR true 6 ((vOf ys rs).take (i+1)) q):=fun q hq=>by
   rw[z8l]
   split
   ·rename_i e;subst e;rw[app,if_neg (by omega),Nat.sub_self,hnew]
    rfl
   ·rw[hold q (by omega),app,if_pos (by omega)];rfl
  refine Cs.giveP (fr':=[(7,.slc true 3 0 0 ys.length),(8,.slc true 4 0 0 rs.length),(9,.slc true 5 0 0 (i+1)),(21,.slc true 3 0 0 ys.length),(22,.int .i64 ys.length),(23,.int .i64 i)]) (H':=⟨7,[(5,Sk.one (.row ⟨true,false,43,4,(i+1),hoR true 6 ((vOf ys rs).take (i+1))⟩)),(6,((i+1)+1,fam true 45 2 (hoF true ((vOf ys rs).take (i+1))))),(4,Sk.one (.row ⟨true,false,45,2,rs.length,rws rs⟩)),(0,zj 1 m at2),(3,Sk.one (.row ⟨true,false,40,3,ys.length,nds ys⟩))]⟩) _ (MwKm.gp (fun q=>if q=5 then 11 else q) (6) (i) (9) (z16.cons1 rfl Nat.zero_lt_one (by decide) (z1c.of (fun _=>⟨rfl,rfl⟩) rfl (Nat.le_refl _) (hout)) (Obj.lt_row.2 fun q _=>(z2u _ _ _ _ q).2 (Nat.le_of_ble_eq_true rfl)) (Nat.le_of_ble_eq_true rfl) (z16.consF rfl rfl Nat.zero_lt_one ⟨fun _=>⟨rfl,rfl⟩,rfl⟩ (Nat.succ_pos _) (fun q hq hne=>⟨by omega,z6r _ _ _ _ _ _ id (hold q (by omega)),z1j _ _ _ _⟩) (hoF_newP _ _ _ _ _ (by rw[hnew]) (fun q hq=>by rw[hnew])) (z1j _ _ _ _) (Nat.le_of_ble_eq_true rfl) (z16.cons1 rfl Nat.zero_lt_one (by decide) (z1c.of (fun _=>⟨rfl,rfl⟩) rfl (Nat.le_refl _) (fun q _=>(z7g _ _ q).symm)) (Obj.lt_row.2 fun q _=>z2h _ _ q) (Nat.le_of_ble_eq_true rfl) (z16.cons1 rfl Nat.zero_lt_one (by decide) (z1c.of (fun _=>⟨rfl,rfl⟩) rfl (Nat.le_refl _) (fun _ _=>rfl)) (Obj.lt_row.2 fun q _=>by simp[SV.ltL,SV.lt]) (Nat.le_of_ble_eq_true rfl) (z16.cons1 rfl Nat.zero_lt_one (by decide) (z1c.of (fun _=>⟨rfl,rfl⟩) rfl (Nat.le_refl _) (fun q _=>(nds_renP _ _ q).symm)) (Obj.lt_row.2 fun q _=>z1w _ _ q) (Nat.le_of_ble_eq_true rfl) trivial)))))) ?_
  refine MwKm.rg [7,8,9,21,22,23] ?_;refine Cs.nil ?_;refine hL1 _ _ ?_;rw[show(i:Int)+1=((i+1:Nat):Int) from by omega];exact⟨i+1,⟨by omega,by omega⟩,id,(MwKm.g id)⟩
 ·intro h24;replace h24:=z6 h24;refine Cs.exit ?_;refine hEL1 _ _ _ ?_;refine hX0 _ _ ?_;refine MwKm.rs [6] ?_;have hin:i=ys.length:=by omega
  subst hin;rw[←vOf_len ys rs,List.take_length];refine Cs.wkRow 5 (hmR false 6 (ofV (vOf ys rs))) rfl rfl (fun q _=>hoR_wk (Nat.le_of_ble_eq_true rfl) _ q) ?_;simp only[z44,↓reduceIte,Sk.one,Nat.reduceEqDiff];rw[←z6l (vOf ys rs),hoF_hm];refine Cs.ret ?_;refine hQ _ _ ?_;refine zm.mkR (fun k=>if k=2 then 5 else if k=3 then 6 else k) (.slc true 2 0 0 (ofV (vOf ys rs)).length) (⟨4,[(2,Sk.one (.row ⟨true,false,43,4,(ofV (vOf ys rs)).length,hmR false 3 (ofV (vOf ys rs))⟩)),(3,((ofV (vOf ys rs)).length+1,fam true 45 2 (hmF true (ofV (vOf ys rs))))),(0,zj 1 m at2)]⟩) (.inl rfl) ?_;refine zh ?_;refine⟨MwKm.s,MwKm.s,(MwKm.g (fun k=>if k=2 then 5 else if k=3 then 6 else k)),MwKm.s,?_⟩;refine⟨ofV (vOf ys rs),at2,g1,by rw[z6l,vOf_len];omega,by rw[z6l,vOf_len];omega,fun i=> ?_,rfl,rfl⟩;rw[z6o];refine⟨rfl,?_⟩;have:=vOf_rows ys rs i;dsimp only;omega
end Go.Proofs

namespace Go.Proofs
open Go.Sk
theorem MwLm.s {a:Prop}(h:a:=by simp[SV.wkL,SV.wk,z1i,z1b,Sk.get,Sk.find,Sk.one,zb.eq_1,zb.eq_2,zb.eq_3,zo,z1k,z1g,SV.renL,SV.ren,Obj.lt_row,SV.ltL,SV.lt,z7c,z3q,zw,z25,Obj.own.eq_1,Obj.own.eq_2,Obj.own.eq_3,Obj.own.eq_4,z1e,zn,zr,z1w,nds,Nd.sv,z14,zx,z3a,z3b,z28,z1r,z2t,z15,z1h,z18,z21,z2u,z1o,z1j,z20,z19,z2h]):a:=h
theorem MwLm.t {s e:SV}{H g:AH}(q:AfQ s e H g:=by constructor<;>(simp only[z1x,after,z57,id,z2q,reduceCtorEq,Nat.reduceEqDiff,zc5,zc6,z5u,z2p,zw,Sk.one,Obj.own.eq_1,Obj.own.eq_2,Obj.own.eq_3,Obj.own.eq_4,Obj.ren.eq_1,Obj.ren.eq_2,Obj.ren_blk,Row.ren,SV.ren,SV.renL,↓reduceIte,Nat.reduceLT,Nat.reduceAdd,Nat.reduceSub,Tryz.tyInt,Tryz.szInt,Tryz.tyStr,Tryz.tyU32,Tryz.tyNode,Tryz.szNode,Tryz.zNode,Tryz.tyNodes,Tryz.szNodes,z1e,zn,nds,Nd.sv,Tryz.tyRow,Tryz.szRow,Tryz.zRow,Tryz.tyRows,Tryz.szRows,Tryz.zRows,Tryz.tyHd,Tryz.szHd,Tryz.zHd,Tryz.tyHds,Tryz.szHds,Tryz.tyHoldings,Tryz.tyErr,Tryz.tyBool,beq_self_eq_true,z4b,fam_ren,hmF_ren,z8k,hmR_ren,z6m,hoF_ren,hoR_fold,hoR_ren];exact rfl)):AfQ s e H g:=q
theorem MwLm.c1 {P:Program}{f:FuncId}{args args0:List SV}{H0 H Y g:AH}{X e:SV}{dr:Bool}{W:List Nat}{k:SV→AH→Prop}(hF:ze P f args0 H0 fun s H1=>s=X∧H1=Y)(ρ:Nat→Nat)(h:k e g)(q:CaQ args args0 ρ H0 H dr W:=by constructor<;>exact MwLm.s)(r:CaR ρ H0 H:=by exact⟨rfl,rfl⟩)(b:AfQ (X.ren (z57 H0.nxt H.nxt ρ)) e (after H0.nxt ρ H0 H Y) g:=by exact MwLm.t):z4u P f args H dr W k:=c1S hF ρ h q r b
theorem MwLm.g {X:Cx}{fr:Fr}{H:AH}{fr1:Fr}{H1:AH}(ρ:Nat→Nat)(q:GvQ X ρ fr H fr1 H1:=by constructor<;>exact MwLm.s)(r:GvR X ρ H1:=by exact⟨rfl,rfl,Nat.le_of_ble_eq_true rfl,rfl⟩):z2v X ρ fr H fr1 H1:=gvS ρ q r
theorem z8e {a c d:Prop}(r:a→c)(h:d)(e:Sd a d:=by simp only[stp,isQ,z4q,Sk.get,Sk.put,z24,zt,↓reduceIte,reduceCtorEq,Nat.reduceEqDiff,zc2,zc3,implies_true,forall_const,zc5,qop,grdK,zc4,List.getElem?_cons_zero,beq_self_eq_true,zc1,z13,cond_true,cond_false,z3x,Sk.find,Sk.one,z17,z1u,Kd.agg,Nat.reduceBEq,ite_self,Nat.zero_add,Nat.reduceAdd,Nat.reduceMul,Nat.reduceSub,Nat.reduceLT,Nat.reduceLeDiff,Nat.zero_le,ne_eq,Int.reduceToNat,exists_eq',spl,z29,SV.cells,SV.scalar,binK,z5o,z5n,intK,z2x,strK,z37,z5m,z3u,unK,z5p,z5i,z39,z3c,z5c,z3d,z3e,optK,z3g,bndK,z36,z38,z55,z3k,lenK,z1a.len,zq.n,z50,mmK,z1y,eop,z5s,srcK,z1f,z44,z3o,capK,z5t,z2c,z2q,z30,boxK,z2d,z3m,z31,updF,mkK,z5a,z1a.ofKd,zq.ofKd,z5b,z1a.add,z1a.okKd,zq.put,zq.okKd,zq.okP,z3f,z1a.has,zq.get,zq.z,Tryz.tyInt,Tryz.szInt,Tryz.tyStr,Tryz.tyU32,Tryz.tyNode,Tryz.szNode,Tryz.zNode,Tryz.tyNodes,Tryz.szNodes,z1e,zn,nds,Nd.sv,Tryz.tyRow,Tryz.szRow,Tryz.zRow,Tryz.tyRows,Tryz.szRows,Tryz.zRows,Tryz.tyHd,Tryz.szHd,Tryz.zHd,Tryz.tyHds,Tryz.szHds,Tryz.tyHoldings,z87,z86,z8p,Tryz.tyErr,Tryz.tyBool];(repeat(with_reducible apply Sd.and;exact z7));exact Sd.rfl):c:=r (e.f h)
theorem MwLm.rs {X:Cx}{Q:Exit→Fr→AH→Prop}{fr fr1:Fr}{H H1:AH}{l:List Code}{id:Nat}{ops:List Oper}{y:Code}(keep:List Nat)(h:Cs X (y::l) Q fr1 H1)(hd:z2b X.n ops=true:=by exact rfl)(e:∀K:Fr→AH→Prop,K fr1 H1→z5v X.P X.wrap X.m0 ops.toArray ops fr H (fun fr H=>K (prune keep fr) H):=by(intro K hK;(repeat(refine z8e z5 ?_));exact za (z8 hK))):Cs X (.seq (.region id ops.toArray false) y::l) Q fr H:=Cs.seq (rgS keep h hd e)
theorem same_spec (a b:List Hm)(hab:vls a=vls b)(ha:HmB a)(hb:HmB b)(n:Nat)(hn:a.length=n)(e:Int):
  ze Tryz.prog 11 [.slc false 0 0 0 n,.int .i64 e,.slc false 2 0 0 n,.int .i64 e] ⟨4,[(0,Sk.one (.row ⟨false,false,43,4,n,hmR false 1 a⟩)),(1,(n+1,fam false 45 2 (hmF false a))),(2,Sk.one (.row ⟨false,false,43,4,n,hmR false 3 b⟩)),(3,(n+1,fam false 45 2 (hmF false b)))]⟩ (fun s H1=>s= .bool true∧H1=⟨4,[]⟩):=by
 refine ze.ofC false 17 [.tmp 8] Tryz.func11 rfl rfl Tryz.ntmps11 Tryz.results11 rfl ?_;intro w0 own0 β0 Q hQ hQn;simp only[z1n];refine MwLm.rs [0,1,2,3] ?_;refine sg [8] rfl ?_;intro K hK;iterate 6 (refine z8e z5 ?_)
 refine z5 ?_;refine z1d rfl rfl ?_;refine zy ?_;refine⟨fun _=> ?_,fun h=>(by cases h)⟩;refine z8e id ?_;refine MwLm.c1 (sameH_spec a b hab ha hb n hn) (id) ?_;iterate 2 (refine z8e z5 ?_)
 refine za (z8 (hK _ _ ?_));clear hK K;refine Cs.ret ?_;refine hQ _ _ ?_;refine zm.mk (H':=⟨4,[]⟩) (.inl rfl) ?_;refine zh ?_;refine⟨MwLm.s,(MwLm.g id),MwLm.s,?_⟩
 first|trivial|exact⟨rfl,trivial⟩
def SrcQ (src:List (Nat×Nat×(Nat→Sk.Obj)))(N:Nat)(b:List Hm)(κ:Nat→Nat×Nat):Prop:=
 ∀i,i<b.length→3≤(κ i).1∧(κ i).1<N∧∃c F,Sk.find src (κ i).1=some (c,F)∧(κ i).2<c∧∃(s:List Rw) (t:Nat),F (κ i).2= .row ⟨false,false,45,2,s.length,rws s⟩∧(hm b i).full=s.take t
def sqP (κ:Nat→Nat×Nat)(n:Nat):Pn:=fun id k=>if id=3 then(if 0<k∧k≤n then κ (k-1) else(1,0)) else(id,k)
theorem sqP_succ (κ:Nat→Nat×Nat){n i:Nat}(h:i<n):sqP κ n 3 (i+1)=κ i:=by
 unfold sqP;rw[if_pos rfl,if_pos ⟨Nat.succ_pos i,h⟩]
 rfl
theorem find_src {src:List (Nat×Nat×(Nat→Sk.Obj))}{a b c:Nat×(Nat→Sk.Obj)}{id:Nat}(h:3≤id):Sk.find ((0,a)::(1,b)::(2,c)::src) id=Sk.find src id:=by
 simp only[Sk.find];rw[if_neg (by omega),if_neg (by omega),if_neg (by omega)]
theorem sameQ_spec (a b:List Hm)(hab:vls a=vls b)(ha:HmB a)(hb:HmB b)(n:Nat)(hn:a.length=n)(e:Int)(src:List (Nat×Nat×(Nat→Sk.Obj)))(N:Nat)(hN:4≤N)(κ:Nat→Nat×Nat)(hs:SrcQ src N b κ)(hu:∀x∈src,∀k,(x.2.2 k).own=false)(G:Nat→List SV)(hG:∀i,i<n→G i=muQ b κ i):
  ze Tryz.prog 11 [.slc false 0 0 0 n,.int .i64 e,.slc false 2 0 0 n,.int .i64 e] ⟨N,(0,Sk.one (.row ⟨false,false,43,4,n,hmR false 1 a⟩))::(1,(n+1,fam false 45 2 (hmF false a)))::(2,Sk.one (.row ⟨false,false,43,4,n,G⟩))::src⟩ (fun s H1=>s= .bool true∧H1=⟨N,[]⟩):=by
 have hbl:b.length=n:=by rw[←z1v,←hab,z1v,hn]
 subst hn;obtain⟨d,rfl⟩:∃d,N=4+d:=⟨N-4,by omega⟩
 have g:=(same_spec a b hab ha hb a.length rfl e).memN (sqP κ a.length) d (os1:=(0,Sk.one (.row ⟨false,false,43,4,a.length,hmR false 1 a⟩))::(1,(a.length+1,fam false 45 2 (hmF false a)))::(2,Sk.one (.row ⟨false,false,43,4,a.length,G⟩))::src)
  (by
   refine⟨⟨by show 0<4;decide,fun k=>rfl,fun k hk=> ?_⟩,⟨by show 1<4;decide,fun k=>z18 false _ _ a k,fun k hk=> ?_⟩,⟨by show 2<4;decide,fun k=>rfl,fun k hk=> ?_⟩,⟨by show 3<4;decide,fun k=>z18 false _ _ b k,fun k hk=> ?_⟩,trivial⟩
   ·have hk0:k=0:=by have:k<1:=hk;omega
    subst hk0;refine⟨Obj.lt_row.2 fun q _=>(z2t _ _ _ _ q).2 (by show 1<4;decide),?_⟩;have e:sqP κ a.length 0 0=(0,0):=rfl;rw[e];simp only[Sk.find,if_true];refine⟨by decide,fun h=>(by cases h),rfl,Nat.le_refl _,fun q _=> ?_⟩;simp only[hmR,SV.renPL,SV.renP,sqP,show¬(1:Nat)=3 by decide,if_false]
   ·refine⟨?_,?_⟩
    ·cases k with
     |zero=>rw[z1x];exact Obj.lt_row.2 fun q hq=>absurd hq (Nat.not_lt_zero q)
     |succ i=>rw[z17];exact z1h _ _ _ _
    ·have e:sqP κ a.length 1 k=(1,k):=rfl;rw[e];simp only[Sk.find,Nat.zero_ne_one,if_false,if_true];refine⟨hk,?_⟩
     cases k with
     |zero=>rw[z1x];exact⟨fun h=>(by cases h),rfl,Nat.le_refl _,fun q hq=>absurd hq (Nat.not_lt_zero q)⟩
     |succ i=>rw[z17];exact hmF_givesP _ _ _ _ _ _ (fun h=>h) rfl
   ·have hk0:k=0:=by have:k<1:=hk;omega
    subst hk0;refine⟨Obj.lt_row.2 fun q _=>(z2t _ _ _ _ q).2 (by show 3<4;decide),?_⟩;have e:sqP κ a.length 2 0=(2,0):=rfl;rw[e];simp only[Sk.find,show¬(0:Nat)=2 by decide,show¬(1:Nat)=2 by decide,if_false,if_true];refine⟨by decide,fun h=>(by cases h),rfl,Nat.le_refl _,fun q hq=> ?_⟩;have hq:q<a.length:=hq
    show G q=_
    rw[hG q hq];simp only[hmR,muQ,SV.renPL,SV.renP,sqP_succ κ hq]
   ·cases k with
    |zero=>
     have e:sqP κ a.length 3 0=(1,0):=rfl;refine⟨by rw[z1x];exact Obj.lt_row.2 fun q hq=>absurd hq (Nat.not_lt_zero q),?_⟩;rw[e];simp only[Sk.find,Nat.zero_ne_one,if_false,if_true];rw[z1x,z1x];exact⟨by omega,fun h=>(by cases h),rfl,Nat.le_refl _,fun q hq=>absurd hq (Nat.not_lt_zero q)⟩
    |succ i=>
     refine⟨by rw[z17];exact z1h _ _ _ _,?_⟩;have hi:i<a.length:=by omega
     obtain⟨s1,s2,c,F,s3,s4,s,t,s5,s6⟩:=hs i (by omega);rw[sqP_succ κ hi,find_src s1,s3];refine⟨s4,?_⟩;rw[s5,z17]
     exact rowTk _ _ t _ s6)
  ⟨by show 0<4;decide,trivial,by show 2<4;decide,trivial,trivial⟩ (by
   intro id k hid;have hid:id<4:=hid;simp only[sqP]
   split
   ·split
    ·rename_i h;exact(hs (k-1) (by omega)).2.1
    ·show 1<4+d;omega
   ·show id<4+d;omega) (by
   intro x hx k;simp only[List.mem_cons] at hx;rcases hx with rfl|rfl|rfl|hx
   ·rfl
   ·exact z18 false _ _ a k
   ·rfl
   ·exact hu x hx k)
 refine ze.imp (by exact g) ?_;rintro s H' ⟨s0,H0',⟨rfl,rfl⟩,rfl,rfl⟩;exact⟨rfl,rfl⟩
section
variable {X:Cx} {Q:Exit→Fr→AH→Prop} {fr:Fr} {H:AH} {k:List Go.Code} {c:Go.Code}
theorem canonQ (rid:Nat)(l:List Hm)(κ:Nat→Nat×Nat){own var:Bool}{e:Go.TypeId}{n:Nat}{f:Nat→List SV}(hn:l.length=n)(hf:Sk.find H.os rid=some (1,fun _=> .row ⟨own,var,e,4,n,f⟩))
  (hrow:∀i,i<n→∃g,f i=[.int .i64 (hm l i).nd.id,.str (hm l i).nd.key,.int .u32 (hm l i).nd.word,.slc g (κ i).1 (κ i).2 (hm l i).off (hm l i).n])
  (hsrc:∀i,i<n→∃c0 F0,Sk.find H.os (κ i).1=some (c0,F0)∧(κ i).2<c0∧∃(s:List Rw) (t:Nat),F0 (κ i).2= .row ⟨false,false,45,2,s.length,rws s⟩∧(hm l i).full=s.take t)
  (h:Cs X (c::k) Q fr ⟨H.nxt+1,z44 ((H.nxt,n+1,fam false 45 2 (hmF false l))::H.os) rid 0 (.row ⟨own,var,e,4,n,hmR false H.nxt l⟩)⟩):Cs X (c::k) Q fr H:=by
 subst hn;refine Cs.canon rid (r:=⟨own,var,e,4,l.length,f⟩) (hmR false H.nxt l) l.length 45 2 (hmF false l) κ hf (fun i hi=> ?_) (fun i hi=> ?_) h
 ·obtain⟨c0,F0,h1,h2,s,t,h3,h4⟩:=hsrc i hi;refine⟨c0,F0,h1,h2,by rw[h3];rfl,by rw[h3];exact fun g=>(by cases g),rfl,fun β w q g=> ?_,fun m=>z1h _ _ _ _⟩;rw[h3] at g;exact(z8n (β:=β) (π:=fun a b=>(a,b)) (rowTk _ _ t _ h4) g)
 ·obtain⟨g,h1⟩:=hrow i hi;exact⟨_,_,_,g,_,_,i,hi,h1,z87 _ _ _ _,by trivial,by trivial,by trivial⟩
end
end Go.Proofs

namespace Go.Proofs
open Go.Sk
def awkR:List Rw:=[⟨⟨#[97]⟩,⟨#[]⟩⟩,⟨⟨#[98]⟩,⟨#[]⟩⟩,⟨⟨#[99]⟩,⟨#[]⟩⟩,⟨⟨#[100]⟩,⟨#[]⟩⟩]
def awkL:List Hm:=[⟨⟨1,⟨#[]⟩,0⟩,awkR,0⟩,⟨⟨2,⟨#[109]⟩,0⟩,[⟨⟨#[122]⟩,⟨#[]⟩⟩],0⟩]
theorem awk_E:shE (vls awkL) 0 1 2=0:=by decide+kernel
theorem awkB:HmB awkL:=⟨by decide,fun x hx=>by
 simp only[awkL,List.mem_cons,List.not_mem_nil,or_false] at hx
 rcases hx with rfl|rfl<;>decide⟩
theorem rowsOf_awk:z7r 2 4 [SV.str ⟨#[97]⟩,.str ⟨#[]⟩,.str ⟨#[98]⟩,.str ⟨#[]⟩,.str ⟨#[99]⟩,.str ⟨#[]⟩,.str ⟨#[100]⟩,.str ⟨#[]⟩]=rws awkR:=by
 funext i
 match i with
 |0=>rfl
 |1=>rfl
 |2=>rfl
 |3=>rfl
 |i+4=>rfl
def awkK (i:Nat):Nat×Nat:=(i,0)
theorem awk_row (i:Nat)(hi:i<2):∃g,z7r 4 2 [SV.int .i64 1,.str ⟨#[]⟩,.int .u32 0,.slc true 0 0 0 4,.int .i64 2,.str ⟨#[109]⟩,.int .u32 0,.slc true 1 0 0 1] i=[.int .i64 (hm awkL i).nd.id,.str (hm awkL i).nd.key,.int .u32 (hm awkL i).nd.word,.slc g (awkK i).1 (awkK i).2 (hm awkL i).off (hm awkL i).n]:=by
 match i with
 |0=>exact⟨true,rfl⟩
 |1=>exact⟨true,rfl⟩
theorem awk_lt (i:Nat):SV.ltL 3 (z7r 4 2 [SV.int .i64 1,.str ⟨#[]⟩,.int .u32 0,.slc true 0 0 0 4,.int .i64 2,.str ⟨#[109]⟩,.int .u32 0,.slc true 1 0 0 1] i)=True:=eq_true (by
 match i with
 |0=>exact⟨trivial,trivial,trivial,(by decide:0<3),trivial⟩
 |1=>exact⟨trivial,trivial,trivial,(by decide:1<3),trivial⟩
 |i+2=>exact⟨trivial,trivial,trivial,by first|trivial|decide|exact(by decide:0<3),trivial⟩)
theorem awk_R:shR (vls awkL) 0 1 2=[⟨⟨1,⟨#[]⟩,0⟩,awkR.take 2⟩,⟨⟨2,⟨#[99]⟩,0⟩,awkR.drop 2++[⟨⟨#[122]⟩,⟨#[]⟩⟩]⟩]:=by decide+kernel
theorem awk_facts {L:List Hm}(h:vls L=shR (vls awkL) 0 1 2):L.length=2∧(hm L 1).nd.key=⟨#[99]⟩∧(hm L 1).n=3∧(ro (hm L 1).full (hm L 1).off).key=⟨#[99]⟩∧(hm L 0).n=2:=by
 rw[awk_R] at h;have e0:=z4z L 0;have e1:=z4z L 1;have el:=z1v L;rw[h] at e0 e1 el;have r0:(hm L 0).rows=awkR.take 2:=congrArg Hd.rows e0.symm;have r1:(hm L 1).rows=awkR.drop 2++[⟨⟨#[122]⟩,⟨#[]⟩⟩]:=congrArg Hd.rows e1.symm;have n1:(hm L 1).nd=⟨2,⟨#[99]⟩,0⟩:=congrArg Hd.nd e1.symm;refine⟨el.symm,by rw[n1],by rw[Hm.n_eq,r1];rfl,?_,by rw[Hm.n_eq,r0];rfl⟩;have:=ro_drop (hm L 1).full (hm L 1).off 0;rw[Nat.add_zero] at this;rw[←this]
 show(ro (hm L 1).rows 0).key=_
 rw[r1];rfl
theorem sEq_c:sEq ⟨#[99]⟩ ⟨#[99]⟩=true:=by decide+kernel
theorem MwMm.s {a:Prop}(h:a:=by simp[SV.wkL,SV.wk,z1i,z1b,Sk.get,Sk.find,Sk.one,zb.eq_1,zb.eq_2,zb.eq_3,zo,z1k,z1g,SV.renL,SV.ren,Obj.lt_row,SV.ltL,SV.lt,z7c,z3q,zw,z25,Obj.own.eq_1,Obj.own.eq_2,Obj.own.eq_3,Obj.own.eq_4,z1e,zn,zr,z1w,nds,Nd.sv,z14,zx,z3a,z3b,z28,z1r,z2t,z15,z1h,z18,z21,z2u,z1o,z1j,z20,z19,z2h,awk_lt]):a:=h
theorem MwMm.ca {P:Program}{f:FuncId}{args args0:List SV}{H0 H:AH}{R:SV→AH→Prop}{dr:Bool}{W:List Nat}{k:SV→AH→Prop}(hF:ze P f args0 H0 R)(ρ:Nat→Nat)(hk:∀s0 H1,R s0 H1→∀s1 H2,s1=s0.ren (z57 H0.nxt H.nxt ρ)→H2=after H0.nxt ρ H0 H H1→k s1 H2)(q:CaQ args args0 ρ H0 H dr W:=by constructor<;>exact MwMm.s)(r:CaR ρ H0 H:=by exact⟨rfl,rfl⟩):z4u P f args H dr W k:=caS hF ρ hk q r
theorem MwMm.af {s e e1:SV}{H g g1:AH}(h1:s=e)(h2:H=g)(q:AfQ e e1 g g1:=by exact MwLm.t):s=e1∧H=g1:=⟨h1.trans q.s,h2.trans q.h⟩
theorem MwMm.g {X:Cx}{fr:Fr}{H:AH}{fr1:Fr}{H1:AH}(ρ:Nat→Nat)(q:GvQ X ρ fr H fr1 H1:=by constructor<;>exact MwMm.s)(r:GvR X ρ H1:=by exact⟨rfl,rfl,Nat.le_of_ble_eq_true rfl,rfl⟩):z2v X ρ fr H fr1 H1:=gvS ρ q r
theorem awake_spec:ze Tryz.prog 5 [] ⟨0,[]⟩ (fun s H1=>s= .bool true∧H1=⟨0,[]⟩):=by
 refine ze.ofC false 62 [.tmp 0] Tryz.func5 rfl rfl Tryz.ntmps5 Tryz.results5 rfl ?_;intro w0 own0 β0 Q hQ hQn;simp only[z1n];refine MwLm.rs [] ?_;refine MwLm.rs [1] ?_;refine Cs.seq ?_;rw[rowsOf_awk,z79];refine Cs.give (H':=⟨3,[(2,Sk.one (.row ⟨true,false,43,4,2,z7r 4 2 [SV.int .i64 1,.str ⟨#[]⟩,.int .u32 0,.slc true 0 0 0 4,.int .i64 2,.str ⟨#[109]⟩,.int .u32 0,.slc true 1 0 0 1]⟩)),(1,Sk.one (.row ⟨false,false,45,2,1,rws [⟨⟨#[122]⟩,⟨#[]⟩⟩]⟩)),(0,Sk.one (.row ⟨false,false,45,2,4,rws awkR⟩))]⟩) (fr':=[(1,.slc true 2 0 0 2)]) id (MwMm.g id) ?_;refine canonQ 2 awkL awkK (n:=2) rfl rfl awk_row (fun i hi=> ?_) ?_
 ·match i with
  |0=>exact⟨_,_,rfl,Nat.zero_lt_one,awkR,4,rfl,rfl⟩
  |1=>exact⟨_,_,rfl,Nat.zero_lt_one,[⟨⟨#[122]⟩,⟨#[]⟩⟩],1,rfl,rfl⟩
 simp only[z44,↓reduceIte,Sk.one,Nat.reduceEqDiff];refine Cs.reg [2,3] rfl ?_;intro K hK;refine z8e z5 ?_;refine z8e z5 ?_;refine MwMm.ca (shiftP_spec awkL awkB 2 rfl 0 1 2) (fun q=>q+2) ?_;rintro s0 H0 ⟨L,hL,hLB,rfl,rfl⟩ s1 H1 hs1 hH1;obtain⟨hs2,hH2⟩:=MwMm.af hs1 hH1;clear hs1 hH1;subst hs2 hH2;repeat(with_reducible apply ai;exact z7)
 obtain⟨f1,f2,f3,f4,f5⟩:=awk_facts hL;iterate 5 (refine z8e z5 ?_)
 refine za (z8 (hK _ _ ?_));clear hK K;refine sg [0] rfl ?_;intro K hK;iterate 3 (refine z8e z5 ?_)
 rw[awk_E,beq_self_eq_true];repeat(with_reducible apply ai;exact z7)
 iterate 3 (refine z8e z5 ?_)
 rw[f1,show(((2:Nat):Int)==2)=true from rfl];repeat(with_reducible apply ai;exact z7)
 iterate 7 (refine z8e z5 ?_)
 rw[f2];repeat(with_reducible apply ai;exact z7)
 refine z8e z5 ?_;rw[sEq_c];repeat(with_reducible apply ai;exact z7)
 iterate 7 (refine z8e z5 ?_)
 rw[f3];repeat(with_reducible apply ai;exact z7)
 refine z8e z5 ?_;rw[show(((3:Nat):Int)==3)=true from rfl];repeat(with_reducible apply ai;exact z7)
 iterate 6 (refine z8e z5 ?_)
 have f6:(hm L 1).off<(hm L 1).full.length:=by simp only[Hm.n] at f3;omega
 rw[f3];repeat(with_reducible apply ai;exact z7)
 iterate 3 (refine z8e z5 ?_)
 rw[f4];repeat(with_reducible apply ai;exact z7)
 refine z8e z5 ?_;rw[sEq_c];repeat(with_reducible apply ai;exact z7)
 iterate 7 (refine z8e z5 ?_)
 rw[f5];repeat(with_reducible apply ai;exact z7)
 refine z8e z5 ?_;rw[show(((2:Nat):Int)==2)=true from rfl];repeat(with_reducible apply ai;exact z7)
 iterate 2 (refine z8e z5 ?_)
 refine za (z8 (hK _ _ ?_));clear hK K;refine Cs.ret ?_;refine hQ _ _ ?_;refine zm.mk (H':=⟨0,[]⟩) (.inl rfl) ?_;refine zh ?_;refine⟨MwMm.s,(MwMm.g id),MwMm.s,?_⟩
 first|trivial|exact⟨rfl,trivial⟩
end Go.Proofs

namespace Go.Proofs
open Go.Sk
theorem ints_renPM (π:Pn)(l:List Int)(i:Nat):SV.renPL π (ints l i)=ints l i:=by simp[ints,SV.renPL,SV.renP]
theorem muW_lt3 (m:Nat)(μ:Nat→Bool×Nat)(l:List Hm)(i:Nat):SV.ltL (m+3) (muW 1 2 μ l i)=True:=eq_true (muW_lt (by omega) (by omega) μ l i)
theorem bals_renP (π:Pn)(l:List Bal)(i:Nat):SV.renPL π (bals l i)=bals l i:=by simp[bals,Bal.sv,SV.renPL,SV.renP]
theorem loadsW_spec {l cur:List Hm}{W:List Hd}{μ:Nat→Bool×Nat}(hB:HmB cur)(hs:SrcW l cur W μ):
  ze Tryz.prog 30 [.slc false 0 0 0 cur.length] ⟨3,[(0,Sk.one (.row ⟨false,false,43,4,cur.length,muW 1 2 μ cur⟩)),(1,(l.length+1,fam false 45 2 (hmF false l))),(2,(W.length+1,fam false 45 2 (hoF false W)))]⟩
   (fun s H1=>s= .slc true 3 0 0 cur.length∧H1=⟨4,[(3,Sk.one (.row ⟨true,false,3,1,cur.length,ints (z2e (vls cur))⟩))]⟩):=by
 refine(atMu rfl hs (loadsR_spec cur cur.length rfl (by have:=hB.len;omega)) trivial fun _=>rfl).imp ?_;rintro s H' ⟨s0,H0',⟨rfl,rfl⟩,rfl,rfl⟩;refine⟨rfl,?_⟩;simp only[shOs,List.map_cons,List.map_nil,Sk.one,Obj.renP];rw[show(fun i=>SV.renPL (memN (muP μ) 2 1) (ints (z2e (vls cur)) i))=ints (z2e (vls cur)) from funext fun i=>ints_renPM _ _ i]
def muS (μ:Nat→Bool×Nat)(μ1:Nat→Fin 5×Nat)(w:Nat):Nat→Bool×Nat:=fun i=>if(μ1 i).1=3 then(true,w) else if(μ1 i).1=4 then(true,w+1) else μ ((μ1 i).2-1)
theorem SrcW.next {l cur L':List Hm}{W:List Hd}{μ:Nat→Bool×Nat}{μ1:Nat→Fin 5×Nat}{r3 r4:List Rw}(h:SrcW l cur W μ)(hr:ResR cur L' r3 r4 μ1):SrcW l L' (W++[⟨noNd,r3⟩,⟨noNd,r4⟩]) (muS μ μ1 W.length):=fun i hi=>by
 have g0:∀j,j<W.length→hd (W++[⟨noNd,r3⟩,⟨noNd,r4⟩]) j=hd W j:=fun j hj=>by simp[hd,List.getD,List.getElem?_append_left hj]
 have g1:hd (W++[⟨noNd,r3⟩,⟨noNd,r4⟩]) W.length=⟨noNd,r3⟩:=by simp[hd,List.getD]
 have g2:hd (W++[⟨noNd,r3⟩,⟨noNd,r4⟩]) (W.length+1)=⟨noNd,r4⟩:=by simp[hd,List.getD]
 rcases hr i hi with⟨j,t,hj,e1,e2⟩|⟨e1,t,e2⟩|⟨e1,e2⟩
 ·have e:muS μ μ1 W.length i=μ j:=by rw[muS,e1];rfl
  rw[e,e2];obtain⟨t',e3,e4⟩:=h j hj;refine⟨min t t',?_,?_⟩
  ·rw[e3,List.take_take]
   cases hb:(μ j).1 with
   |true=>rw[hb] at e4;simp only[cond_true] at e4 ⊢;rw[g0 _ e4]
   |false=>rfl
  ·cases hb:(μ j).1 with
   |true=>rw[hb] at e4;simp only[cond_true] at e4 ⊢;rw[List.length_append];omega
   |false=>rw[hb] at e4;exact e4
 ·have e:muS μ μ1 W.length i=(true,W.length):=by rw[muS,e1];rfl
  rw[e];exact⟨t,by simp only[cond_true];rw[g1];exact e2,by simp⟩
 ·have e:muS μ μ1 W.length i=(true,W.length+1):=by rw[muS,e1];rfl
  rw[e];exact⟨r4.length,by simp only[cond_true];rw[g2,List.take_length];exact e2,by simp⟩
theorem muQ_ren (ρ:Nat→Nat)(L:List Hm)(κ:Nat→Nat×Nat)(i:Nat):SV.renL ρ (muQ L κ i)=muQ L (fun i=>(ρ (κ i).1,(κ i).2)) i:=rfl
theorem muQ_renP (π:Pn)(L:List Hm)(κ:Nat→Nat×Nat)(i:Nat):SV.renPL π (muQ L κ i)=muQ L (fun i=>π (κ i).1 (κ i).2) i:=rfl
theorem muQ_congr (L:List Hm){κ κ':Nat→Nat×Nat}{i:Nat}(h:κ i=κ' i):muQ L κ i=muQ L κ' i:=by simp only[muQ,h]
theorem muQ_lt (m:Nat)(L:List Hm)(κ:Nat→Nat×Nat)(i:Nat)(h:(κ i).1<m):SV.ltL m (muQ L κ i):=by simp[muQ,SV.ltL,SV.lt,h]
def ka1 (μ:Nat→Bool×Nat)(μ1:Nat→Fin 5×Nat)(w:Nat):Nat→Nat×Nat:=fun i=>if(μ1 i).1=3 then(3,w+1) else if(μ1 i).1=4 then(9,0) else(bif (μ ((μ1 i).2-1)).1 then 3 else 1,(μ ((μ1 i).2-1)).2+1)
theorem ka1_lt (μ:Nat→Bool×Nat)(μ1:Nat→Fin 5×Nat)(w i:Nat):(ka1 μ μ1 w i).1<10:=by
 rw[ka1]
 split
 ·show 3<10
  decide
 ·split
  ·show 9<10
   decide
  ·show(bif _ then 3 else 1)<10
   cases(μ ((μ1 i).2-1)).1<;>decide
theorem ka_one {l cur L':List Hm}{W:List Hd}{μ:Nat→Bool×Nat}{μ1:Nat→Fin 5×Nat}{r3 r4:List Rw}(h:SrcW l cur W μ)(hr:ResR cur L' r3 r4 μ1){i:Nat}(hi:i<L'.length):
  (z57 3 7 (fun q=>if q=0 then 2 else if q=2 then 3 else q) (muN μ μ1 i).1,(muN μ μ1 i).2)=mvP id 3 W.length 8 (ka1 μ μ1 W.length i).1 (ka1 μ μ1 W.length i).2:=by
 rcases hr i hi with⟨j,t,hj,e1,e2⟩|⟨e1,t,e2⟩|⟨e1,e2⟩
 ·obtain⟨_,_,e4⟩:=h j hj
  have g1:muN μ μ1 i=(bif (μ j).1 then 2 else 1,(μ j).2+1):=by
   rw[muN,e1]
   show memN (muP μ) 2 1 1 (j+1)=_
   rw[memN,if_pos (by decide),muP_succ]
  have g2:ka1 μ μ1 W.length i=(bif (μ j).1 then 3 else 1,(μ j).2+1):=by rw[ka1,e1];rfl
  rw[g1,g2]
  cases hb:(μ j).1 with
  |true=>
   rw[hb] at e4;simp only[cond_true] at e4 ⊢;rw[mvP,if_neg (by omega)];rfl
  |false=>
   simp only[cond_false];rw[mvP,if_neg (fun h=>absurd h.1 (by decide))];rfl
 ·have g1:muN μ μ1 i=(4,0):=by rw[muN,e1];rfl
  have g2:ka1 μ μ1 W.length i=(3,W.length+1):=by rw[ka1,e1];rfl
  rw[g1,g2,mvP,if_pos ⟨rfl,rfl⟩];rfl
 ·have g1:muN μ μ1 i=(5,0):=by rw[muN,e1];rfl
  have g2:ka1 μ μ1 W.length i=(9,0):=by rw[ka1,e1];rfl
  rw[g1,g2,mvP,if_neg (fun h=>absurd h.1 (by decide))];rfl
theorem ka_two {l cur L':List Hm}{W:List Hd}{μ:Nat→Bool×Nat}{μ1:Nat→Fin 5×Nat}{r3 r4:List Rw}(h:SrcW l cur W μ)(hr:ResR cur L' r3 r4 μ1){i:Nat}(hi:i<L'.length):
  ka1 μ μ1 W.length i=mvP (fun q=>if q=2 then 7 else q) 3 (W.length+1) 9 (bif (muS μ μ1 W.length i).1 then 3 else 1) ((muS μ μ1 W.length i).2+1):=by
 rcases hr i hi with⟨j,t,hj,e1,e2⟩|⟨e1,t,e2⟩|⟨e1,e2⟩
 ·obtain⟨_,_,e4⟩:=h j hj;have g1:muS μ μ1 W.length i=μ j:=by rw[muS,e1];rfl
  have g2:ka1 μ μ1 W.length i=(bif (μ j).1 then 3 else 1,(μ j).2+1):=by rw[ka1,e1];rfl
  rw[g1,g2]
  cases hb:(μ j).1 with
  |true=>
   rw[hb] at e4;simp only[cond_true] at e4 ⊢;rw[mvP,if_neg (by omega)];rfl
  |false=>
   simp only[cond_false];rw[mvP,if_neg (fun h=>absurd h.1 (by decide))];rfl
 ·have g1:muS μ μ1 W.length i=(true,W.length):=by rw[muS,e1];rfl
  have g2:ka1 μ μ1 W.length i=(3,W.length+1):=by rw[ka1,e1];rfl
  rw[g1,g2];simp only[cond_true];rw[mvP,if_neg (by omega)];rfl
 ·have g1:muS μ μ1 W.length i=(true,W.length+1):=by rw[muS,e1];rfl
  have g2:ka1 μ μ1 W.length i=(9,0):=by rw[ka1,e1];rfl
  rw[g1,g2];simp only[cond_true];rw[mvP,if_pos ⟨rfl,rfl⟩]
theorem MwFm.s {a:Prop}(h:a:=by simp[SV.wkL,SV.wk,z1i,z1b,Sk.get,Sk.find,Sk.one,zb.eq_1,zb.eq_2,zb.eq_3,zo,z1k,z1g,SV.renL,SV.ren,Obj.lt_row,SV.ltL,SV.lt,z7c,z3q,zw,z25,Obj.own.eq_1,Obj.own.eq_2,Obj.own.eq_3,Obj.own.eq_4,z1e,zn,zr,z1w,nds,Nd.sv,z14,zx,z3a,z3b,z28,z1r,z2t,z15,z1h,z18,z21,z2u,z1o,z1j,z20,z19,z2h,z33,Bal.sv,z1t,z4l,z6s,z43,ints_ltL,bals_ren',bals_lt,muW_ren',muW_ltT,muW_lt3]):a:=h
theorem MwFm.t {s e:SV}{H g:AH}(q:AfQ s e H g:=by constructor<;>(simp only[z1x,after,z57,id,z2q,reduceCtorEq,Nat.reduceEqDiff,zc5,zc6,z5u,z2p,zw,Sk.one,Obj.own.eq_1,Obj.own.eq_2,Obj.own.eq_3,Obj.own.eq_4,Obj.ren.eq_1,Obj.ren.eq_2,Obj.ren_blk,Row.ren,SV.ren,SV.renL,↓reduceIte,Nat.reduceLT,Nat.reduceAdd,Nat.reduceSub,Tryz.tyInt,Tryz.szInt,Tryz.tyStr,Tryz.tyU32,Tryz.tyNode,Tryz.szNode,Tryz.zNode,Tryz.tyNodes,Tryz.szNodes,z1e,zn,nds,Nd.sv,Tryz.tyRow,Tryz.szRow,Tryz.zRow,Tryz.tyRows,Tryz.szRows,Tryz.zRows,Tryz.tyHd,Tryz.szHd,Tryz.zHd,Tryz.tyHds,Tryz.szHds,Tryz.tyHoldings,Tryz.tyErr,Tryz.tyBool,Tryz.szStr,z6s,stepSv,Bal.sv,z1t,z4l,Tryz.tyInts,Tryz.szInts,Tryz.zInt,Tryz.tyBal,Tryz.tyBals,Tryz.szBal,Tryz.zBal,rowsOf_bal,app_bals,zc8,z4b,fam_ren,hmF_ren,z8k,hmR_ren,z6m,hoF_ren,hoR_fold,hoR_ren,z6i,bals_ren,muW_ren];exact rfl)):AfQ s e H g:=q
theorem MwFm.c1 {P:Program}{f:FuncId}{args args0:List SV}{H0 H Y g:AH}{X e:SV}{dr:Bool}{W:List Nat}{k:SV→AH→Prop}(hF:ze P f args0 H0 fun s H1=>s=X∧H1=Y)(ρ:Nat→Nat)(h:k e g)(q:CaQ args args0 ρ H0 H dr W:=by constructor<;>exact MwFm.s)(r:CaR ρ H0 H:=by exact⟨rfl,rfl⟩)(b:AfQ (X.ren (z57 H0.nxt H.nxt ρ)) e (after H0.nxt ρ H0 H Y) g:=by exact MwFm.t):z4u P f args H dr W k:=c1S hF ρ h q r b
theorem MwFm.ca {P:Program}{f:FuncId}{args args0:List SV}{H0 H:AH}{R:SV→AH→Prop}{dr:Bool}{W:List Nat}{k:SV→AH→Prop}(hF:ze P f args0 H0 R)(ρ:Nat→Nat)(hk:∀s0 H1,R s0 H1→∀s1 H2,s1=s0.ren (z57 H0.nxt H.nxt ρ)→H2=after H0.nxt ρ H0 H H1→k s1 H2)(q:CaQ args args0 ρ H0 H dr W:=by constructor<;>exact MwFm.s)(r:CaR ρ H0 H:=by exact⟨rfl,rfl⟩):z4u P f args H dr W k:=caS hF ρ hk q r
theorem MwFm.af {s e e1:SV}{H g g1:AH}(h1:s=e)(h2:H=g)(q:AfQ e e1 g g1:=by exact MwFm.t):s=e1∧H=g1:=⟨h1.trans q.s,h2.trans q.h⟩
theorem MwFm.u {a:Prop}(h:a:=by simp[frGivesP,Sk.get,SV.renP,SV.renPL,mvP,shP,SV.lt,SV.ltL,z7c,Sk.one,z3q,Sk.find,Obj.own.eq_1,Obj.own.eq_2,Obj.own.eq_3,Obj.own.eq_4,z1e,zn,zr,z1w,nds,Nd.sv,z14,zx,z3a,z3b,z28,z1r,z2t,z15,z1h,z18,z21,z2u,z1o,z1j,z20,z1g,z19,z2h,z33,Bal.sv,z1t,z4l,z6s,z43,ints_ltL,bals_ren',bals_lt,muW_ren',muW_ltT,muW_lt3]):a:=h
theorem MwFm.gp {X:Cx}{fr:Fr}{H:AH}{fr1:Fr}{H1:AH}(ρ:Nat→Nat)(f j a:Nat)(a2:z16 ρ f j a H1.nxt H.os H1.os)(q:GpQ X (mvP ρ f j a) fr H fr1 H1:=by constructor<;>exact MwFm.u)(r:GpR X ρ f H1:=by exact⟨rfl,rfl,Nat.le_of_ble_eq_true rfl,Nat.le_of_ble_eq_true rfl,rfl⟩)(t:GpA X ρ a H1:=by exact⟨rfl,Nat.le_of_ble_eq_true rfl⟩):z8d X (mvP ρ f j a) fr H fr1 H1:=gpS ρ f j a a2 q r t
theorem z66 {a:Prop}(h:a:=by simp[SV.wkL,SV.wk,z1i,z1b,Sk.get,Sk.find,Sk.one,zb.eq_1,zb.eq_2,zb.eq_3,zo,z1k,z1g,SV.renL,SV.ren,Obj.lt_row,SV.ltL,SV.lt,z7c,z3q,zw,z25,Obj.own.eq_1,Obj.own.eq_2,Obj.own.eq_3,Obj.own.eq_4,z1e,zn,zr,z1w,nds,Nd.sv,z14,zx,z3a,z3b,z28,z1r,z2t,z15,z1h,z18,z21,z2u,z1o,z1j,z20,z19,z2h,z33,Bal.sv,z1t,z4l,z6s,z43,ints_ltL,bals_ren',bals_lt,muW_ren',muW_ltT,muW_lt3,zc7]):a:=h
theorem z3t {X:Cx}{fr:Fr}{H:AH}{fr1:Fr}{H1:AH}(ρ:Nat→Nat)(q:GvQ X ρ fr H fr1 H1:=by constructor<;>exact z66)(r:GvR X ρ H1:=by exact⟨rfl,rfl,Nat.le_of_ble_eq_true rfl,rfl⟩):z2v X ρ fr H fr1 H1:=gvS ρ q r
theorem MwFm.g {X:Cx}{fr:Fr}{H:AH}{fr1:Fr}{H1:AH}(ρ:Nat→Nat)(q:GvQ X ρ fr H fr1 H1:=by constructor<;>exact MwFm.s)(r:GvR X ρ H1:=by exact⟨rfl,rfl,Nat.le_of_ble_eq_true rfl,rfl⟩):z2v X ρ fr H fr1 H1:=gvS ρ q r
set_option maxHeartbeats 4000000 in
theorem rebR_spec (l:List Hm)(hb:HmB l)(n:Nat)(hn:l.length=n):
  ze Tryz.prog 10 [.slc false 0 0 0 n] ⟨2,[(0,Sk.one (.row ⟨false,false,43,4,n,hmR false 1 l⟩)),(1,(n+1,fam false 45 2 (hmF false l)))]⟩
   (fun s H1=> ∃(cur:List Hm) (ss:List Bal) (W:List Hd) (μ:Nat→Bool×Nat),RbR (vls l) ss (vls cur)∧HmB cur∧ss.length≤100000000∧SrcW l cur W μ∧s= .tup [.slc true 2 0 0 cur.length,.slc true 4 0 0 ss.length,.int .i64 (if vldB (vls l)=true then 0 else 1)]∧H1=⟨5,[(2,Sk.one (.row ⟨true,false,43,4,cur.length,muW 1 3 μ cur⟩)),(3,(W.length+1,fam true 45 2 (hoF true W))),(4,Sk.one (.row ⟨true,false,69,5,ss.length,bals ss⟩))]⟩):=by
 subst hn;have hlen:=hb.len;refine ze.ofC false 54 [.tmp 2,.tmp 3,.tmp 4] Tryz.func10 rfl rfl Tryz.ntmps10 Tryz.results10 rfl ?_;intro w0 own0 β0 Q hQ hQn;simp only[z1n];refine MwDm.rs [0] ?_;refine Cs.seq ?_;refine sg [0,10] rfl ?_;intro K hK;refine z4w z5 ?_;refine z4w z5 ?_;refine MwFm.c1 (validR_spec l hb l.length rfl) (id) ?_;refine z4w z5 ?_;refine za (z8 (hK _ _ ?_));clear hK K;refine Cs.cond _ rfl ?_ ?_
 ·intro h10;simp only[Bool.not_eq_true'] at h10;refine MwDm.rs [2,3,4] ?_;refine Cs.nilO 2 43 4 (muW 1 3 (fun i=>(false,i)) []) rfl ?_;dsimp only;refine Cs.fam0 45 2 (hoF true []) ?_;dsimp only;refine Cs.nilO 3 69 5 (bals []) rfl ?_;dsimp only;refine Cs.ret ?_;refine hQ _ _ ?_;refine zm.mk (H':=⟨5,[(2,Sk.one (.row ⟨true,false,43,4,0,muW 1 3 (fun i=>(false,i)) []⟩)),(3,(1,fam true 45 2 (hoF true []))),(4,Sk.one (.row ⟨true,false,69,5,0,bals []⟩))]⟩) (.inl rfl) ?_;refine zh ?_;refine⟨MwFm.s,(MwFm.g id),MwFm.s,?_⟩;have hv:¬vldB (vls l)=true:=by rw[h10];decide
  exact⟨[],[],[],_,by rw[RbR,if_neg hv];exact⟨rfl,rfl⟩,⟨Nat.zero_le _,fun x hx=>by cases hx⟩,Nat.zero_le _,fun i hi=>absurd hi (Nat.not_lt_zero i),by rw[if_neg hv];trivial,by trivial⟩
 ·intro h10;simp only[Bool.not_eq_false'] at h10;refine Cs.skip ?_;refine MwDm.rs [0] ?_;refine MwDm.rs [0,5] ?_;refine Cs.fam0 45 2 (hoF true []) ?_;dsimp only;refine Cs.nilO 5 69 5 (bals []) rfl ?_;dsimp only;have hinv0:RbInv (vls l) l []:=⟨hb,h10,by have:=sq_of_valid h10;simp;omega,fun ss r h=>h⟩;have hsrc0:SrcW l l [] fun i=>(false,i):=fun i hi=>⟨(hm l i).full.length,by simp,hi⟩;refine Cs.block ?_;intro Q0 hN0 hX0 hR0 hE0;refine Cs.loop (σ:=List Hm×List Bal×List Hd×(Nat→Bool×Nat)) (fun σ=>RbInv (vls l) σ.1 σ.2.1∧SrcW l σ.1 σ.2.2.1 σ.2.2.2) (fun σ=>(sq (z2e (vls σ.1))).toNat) (fun σ=>[(0,.slc true 2 0 0 σ.1.length),(5,.slc true 4 0 0 σ.2.1.length)]) (fun σ=>⟨5,[(2,Sk.one (.row ⟨true,false,43,4,σ.1.length,muW 1 3 σ.2.2.2 σ.1⟩)),(3,(σ.2.2.1.length+1,fam true 45 2 (hoF true σ.2.2.1))),(4,Sk.one (.row ⟨true,false,69,5,σ.2.1.length,bals σ.2.1⟩)),(1,(l.length+1,fam false 45 2 (hmF false l)))]⟩) (l,[],[],fun i=>(false,i)) ⟨hinv0,hsrc0⟩ (ρ:=id) (by dsimp only;rw[muW_zero 1 3 l];exact(MwFm.g id)) ?_;rintro⟨cur,pre,W,μ⟩ ⟨hi,hsrc⟩ QL1 hL1 hRL1 hEL1;have hi0:RbInv (vls l) cur pre:=hi;obtain⟨hB,hv,hpl,hcont⟩:=hi0;have hcl:=hB.len;have hsq0:=sq_nonneg (z2e (vls cur));dsimp only at hsrc;refine Cs.block ?_;intro Q1 hN1 hX1 hR1 hE1;refine sg [0,5,6,7] rfl ?_;intro K hK;refine z4w z5 ?_;refine z4w z5 ?_;refine MwFm.c1 (loadsW_spec hB hsrc) (fun q=>if q=0 then 2 else if q=2 then 3 else q) ?_
  refine z4w z5 ?_;refine MwFm.c1 (refStep_spec (z2e (vls cur)) (by rw[z6s];omega)) (fun q=>if q=0 then 5 else q) ?_;iterate 6 (refine z4w z5 ?_)
  refine za (z8 (hK _ _ ?_));clear hK K;refine Cs.seq ?_;refine MwDm.rs [0,5,6,20] ?_;refine Cs.cond _ rfl ?_ ?_
  ·intro h20;have hn:z7j (z2e (vls cur))=none:=by simpa using h20
   refine MwDm.rs [2,3,4] ?_;refine Cs.ret ?_;refine hR1 _ _ ?_;refine hRL1 _ _ ?_;refine hR0 _ _ ?_;refine hQ _ _ ?_;refine zm.mk (H':=⟨5,[(2,Sk.one (.row ⟨true,false,43,4,cur.length,muW 1 3 μ cur⟩)),(3,(W.length+1,fam true 45 2 (hoF true W))),(4,Sk.one (.row ⟨true,false,69,5,pre.length,bals pre⟩))]⟩) (.inl rfl) ?_;refine zh ?_;refine⟨MwFm.s,(MwFm.g id),MwFm.s,?_⟩;have:=hcont [] (vls cur) ⟨hn,rfl⟩;rw[List.append_nil] at this;exact⟨cur,pre,W,μ,by rw[RbR,if_pos h10];exact this,hB,by omega,hsrc,by rw[if_pos h10],rfl⟩
  ·intro h20;obtain⟨b,hst⟩:∃b,z7j (z2e (vls cur))=some b:=Option.isSome_iff_exists.1 (by simpa using h20);have hdone:=due_done hv hst;refine Cs.skip ?_;refine Cs.seq ?_;refine Cs.seq ?_;rw[hst];simp only[Option.getD_some];refine MwDm.rg [0,5,6,25] ?_;refine Cs.cond _ rfl ?_ ?_
   ·intro h25;replace h25:=z6 h25;have hSp:=resW (v:=[b.from_,b.to,b.count]) rfl hsrc (shiftR_spec cur hB cur.length rfl b.from_ b.to b.count);simp only[List.map_cons,List.map_nil] at hSp;refine Cs.reg [0,5,6] rfl ?_;intro K hK;iterate 7 (refine z4w z5 ?_)
    refine z4w z5 ?_;refine MwFm.ca (hSp) (fun q=>if q=0 then 2 else if q=2 then 3 else q) ?_;rintro s0 H0 ⟨L',r3,r4,μ1,F,hL,hLB,hRes,hF,rfl,rfl⟩ s1 H1 hs1 hH1;obtain⟨hs2,hH2⟩:=MwFm.af hs1 hH1;clear hs1 hH1;subst hs2 hH2;repeat(with_reducible apply ai;exact z7)
    iterate 4 (refine z4w z5 ?_)
    refine za (z8 (hK _ _ ?_));clear hK K;have hlt:∀q,q<L'.length→SV.ltL 10 (muQ L' (ka1 μ μ1 W.length) q):=fun q _=>muQ_lt _ _ _ _ (ka1_lt _ _ _ _)
    have hout:∀q,q<L'.length→SV.renL (z57 3 7 fun q=>if q=0 then 2 else if q=2 then 3 else q) (F q)=SV.renPL (mvP id 3 W.length 8) (muQ L' (ka1 μ μ1 W.length) q):=fun q hq=>by
     rw[hF q hq,muQ_ren,muQ_renP];exact muQ_congr _ (ka_one hsrc hRes hq)
    refine Cs.giveP (fr':=[(0,.slc true 7 0 0 L'.length),(5,.slc true 4 0 0 pre.length),(6,.ptr 6 0 0 0)]) (H':=⟨10,[(9,Sk.one (.row ⟨true,false,45,2,r4.length,rws r4⟩)),(7,Sk.one (.row ⟨true,false,43,4,L'.length,muQ L' (ka1 μ μ1 W.length)⟩)),(3,((W.length+1)+1,fam true 45 2 (hoF true (W++[⟨noNd,r3⟩])))),(6,Sk.one (.row ⟨true,true,69,5,1,fun _=>[.int .i64 b.kind,.int .i64 b.from_,.int .i64 b.to,.int .i64 b.beside,.int .i64 b.count]⟩)),(4,Sk.one (.row ⟨true,false,69,5,pre.length,bals pre⟩)),(1,(l.length+1,fam false 45 2 (hmF false l)))]⟩) _ (MwFm.gp (id) (3) (W.length) (8) (z16.cons1 rfl Nat.zero_lt_one (by decide) (z1c.of (fun _=>⟨rfl,rfl⟩) rfl (Nat.le_refl _) (fun q _=>(z7g _ _ q).symm)) (Obj.lt_row.2 fun q _=>z2h _ _ q) (Nat.le_of_ble_eq_true rfl) (z16.cons1 rfl Nat.zero_lt_one (by decide) (z1c.of (fun _=>⟨rfl,rfl⟩) rfl (Nat.le_refl _) (hout)) (Obj.lt_row.2 hlt) (Nat.le_of_ble_eq_true rfl) (z16.consF rfl rfl Nat.zero_lt_one ⟨fun _=>⟨rfl,rfl⟩,rfl⟩ (Nat.succ_pos _) (fun q hq hne=>⟨by omega,z6r _ _ _ _ _ _ id (hd_append (by omega)),z1j _ _ _ _⟩) (hoF_newP _ _ _ _ _ (by rw[hd_last]) (fun q hq=>by rw[hd_last])) (z1j _ _ _ _) (Nat.le_of_ble_eq_true rfl) (z16.cons1 rfl Nat.zero_lt_one (by decide) (z1c.of (fun _=>⟨rfl,rfl⟩) rfl (Nat.le_refl _) (fun _ _=>rfl)) (Obj.lt_row.2 fun q _=>by simp[SV.ltL,SV.lt]) (Nat.le_of_ble_eq_true rfl) (z16.cons1 rfl Nat.zero_lt_one (by decide) (z1c.of (fun _=>⟨rfl,rfl⟩) rfl (Nat.le_refl _) (fun q _=>(bals_renP _ _ q).symm)) (Obj.lt_row.2 fun q _=>bals_lt _ _ q) (Nat.le_of_ble_eq_true rfl) (z16.consO rfl (by decide) ⟨fun h=>(by cases h),rfl⟩ (Nat.le_refl _) (fun q _=>⟨hmF_givesP _ _ _ _ _ _ (fun h=>(by cases h)) rfl,z1h _ _ _ _⟩) (Nat.le_of_ble_eq_true rfl) trivial))))))) ?_
    have hwl:(W++[(⟨noNd,r3⟩:Hd)]).length=W.length+1:=by simp
    have hout:∀q,q<L'.length→muQ L' (ka1 μ μ1 W.length) q=SV.renPL (mvP (fun q=>if q=2 then 7 else q) 3 (W.length+1) 9) (muW 1 3 (muS μ μ1 W.length) L' q):=fun q hq=>by
     rw[show muW 1 3 (muS μ μ1 W.length) L' q=muQ L' (fun i=>(bif (muS μ μ1 W.length i).1 then 3 else 1,(muS μ μ1 W.length i).2+1)) q from rfl,muQ_renP];exact muQ_congr _ (ka_two hsrc hRes hq)
    refine Cs.giveP (fr':=[(0,.slc true 2 0 0 L'.length),(5,.slc true 4 0 0 pre.length),(6,.ptr 6 0 0 0)]) (H':=⟨7,[(2,Sk.one (.row ⟨true,false,43,4,L'.length,muW 1 3 (muS μ μ1 W.length) L'⟩)),(3,((W.length+1+1)+1,fam true 45 2 (hoF true (W++[⟨noNd,r3⟩]++[⟨noNd,r4⟩])))),(6,Sk.one (.row ⟨true,true,69,5,1,fun _=>[.int .i64 b.kind,.int .i64 b.from_,.int .i64 b.to,.int .i64 b.beside,.int .i64 b.count]⟩)),(4,Sk.one (.row ⟨true,false,69,5,pre.length,bals pre⟩)),(1,(l.length+1,fam false 45 2 (hmF false l)))]⟩) _ (MwFm.gp (fun q=>if q=2 then 7 else q) (3) ((W.length+1)) (9) (z16.cons1 rfl Nat.zero_lt_one (by decide) (z1c.of (fun _=>⟨rfl,rfl⟩) rfl (Nat.le_refl _) (hout)) (Obj.lt_row.2 fun q _=>muW_lt (Nat.le_of_ble_eq_true rfl) (Nat.le_of_ble_eq_true rfl) _ _ q) (Nat.le_of_ble_eq_true rfl) (z16.consF rfl rfl Nat.zero_lt_one ⟨fun _=>⟨rfl,rfl⟩,rfl⟩ (Nat.succ_pos _) (fun q hq hne=>⟨by omega,z6r _ _ _ _ _ _ id (hd_append (by omega)),z1j _ _ _ _⟩) (hoF_newP _ _ _ _ _ (by rw[←hwl,hd_last]) (fun q hq=>by rw[←hwl,hd_last])) (z1j _ _ _ _) (Nat.le_of_ble_eq_true rfl) (z16.cons1 rfl Nat.zero_lt_one (by decide) (z1c.of (fun _=>⟨rfl,rfl⟩) rfl (Nat.le_refl _) (fun _ _=>rfl)) (Obj.lt_row.2 fun q _=>by simp[SV.ltL,SV.lt]) (Nat.le_of_ble_eq_true rfl) (z16.cons1 rfl Nat.zero_lt_one (by decide) (z1c.of (fun _=>⟨rfl,rfl⟩) rfl (Nat.le_refl _) (fun q _=>(bals_renP _ _ q).symm)) (Obj.lt_row.2 fun q _=>bals_lt _ _ q) (Nat.le_of_ble_eq_true rfl) (z16.consO rfl (by decide) ⟨fun h=>(by cases h),rfl⟩ (Nat.le_refl _) (fun q _=>⟨hmF_givesP _ _ _ _ _ _ (fun h=>(by cases h)) rfl,z1h _ _ _ _⟩) (Nat.le_of_ble_eq_true rfl) trivial)))))) ?_
    have hW2:W++[(⟨noNd,r3⟩:Hd)]++[⟨noNd,r4⟩]=W++[⟨noNd,r3⟩,⟨noNd,r4⟩]:=by simp
    have hW3:(W++[(⟨noNd,r3⟩:Hd),⟨noNd,r4⟩]).length=W.length+1+1:=by simp
    have hnx:=hsrc.next hRes;rw[hW2,←hW3];obtain⟨W',hW'⟩:∃W',W'=W++[(⟨noNd,r3⟩:Hd),⟨noNd,r4⟩]:=⟨_,rfl⟩;obtain⟨μ',hμ'⟩:∃μ',μ'=muS μ μ1 W.length:=⟨_,rfl⟩;rw[←hW',←hμ'] at hnx ⊢;refine MwDm.rg [0,5] ?_;refine Cs.nil ?_;refine hN1 _ _ ?_;refine Cs.nil ?_;refine hL1 _ _ ?_;obtain⟨g1,g2⟩:=hi.step hst (L':=L') (by rw[hL,stR,if_pos h25]) hLB;exact⟨(L',pre++[b],W',μ'),⟨⟨g1,hnx⟩,g2⟩,fun q=>if q=4 then 8 else q,(z3t (fun q=>if q=4 then 8 else q))⟩
   ·intro h25;replace h25:=z6 h25;have hSp:=resW (v:=[b.from_,b.to,b.beside,b.count]) rfl hsrc (moveR_spec cur hB cur.length rfl b.from_ b.to b.beside b.count);simp only[List.map_cons,List.map_nil] at hSp;refine Cs.reg [0,5,6] rfl ?_;intro K hK;iterate 9 (refine z4w z5 ?_)
    refine z4w z5 ?_;refine MwFm.ca (hSp) (fun q=>if q=0 then 2 else if q=2 then 3 else q) ?_;rintro s0 H0 ⟨L',r3,r4,μ1,F,hL,hLB,hRes,hF,rfl,rfl⟩ s1 H1 hs1 hH1;obtain⟨hs2,hH2⟩:=MwFm.af hs1 hH1;clear hs1 hH1;subst hs2 hH2;repeat(with_reducible apply ai;exact z7)
    iterate 4 (refine z4w z5 ?_)
    refine za (z8 (hK _ _ ?_));clear hK K;have hlt:∀q,q<L'.length→SV.ltL 10 (muQ L' (ka1 μ μ1 W.length) q):=fun q _=>muQ_lt _ _ _ _ (ka1_lt _ _ _ _)
    have hout:∀q,q<L'.length→SV.renL (z57 3 7 fun q=>if q=0 then 2 else if q=2 then 3 else q) (F q)=SV.renPL (mvP id 3 W.length 8) (muQ L' (ka1 μ μ1 W.length) q):=fun q hq=>by
     rw[hF q hq,muQ_ren,muQ_renP];exact muQ_congr _ (ka_one hsrc hRes hq)
    refine Cs.giveP (fr':=[(0,.slc true 7 0 0 L'.length),(5,.slc true 4 0 0 pre.length),(6,.ptr 6 0 0 0)]) (H':=⟨10,[(9,Sk.one (.row ⟨true,false,45,2,r4.length,rws r4⟩)),(7,Sk.one (.row ⟨true,false,43,4,L'.length,muQ L' (ka1 μ μ1 W.length)⟩)),(3,((W.length+1)+1,fam true 45 2 (hoF true (W++[⟨noNd,r3⟩])))),(6,Sk.one (.row ⟨true,true,69,5,1,fun _=>[.int .i64 b.kind,.int .i64 b.from_,.int .i64 b.to,.int .i64 b.beside,.int .i64 b.count]⟩)),(4,Sk.one (.row ⟨true,false,69,5,pre.length,bals pre⟩)),(1,(l.length+1,fam false 45 2 (hmF false l)))]⟩) _ (MwFm.gp (id) (3) (W.length) (8) (z16.cons1 rfl Nat.zero_lt_one (by decide) (z1c.of (fun _=>⟨rfl,rfl⟩) rfl (Nat.le_refl _) (fun q _=>(z7g _ _ q).symm)) (Obj.lt_row.2 fun q _=>z2h _ _ q) (Nat.le_of_ble_eq_true rfl) (z16.cons1 rfl Nat.zero_lt_one (by decide) (z1c.of (fun _=>⟨rfl,rfl⟩) rfl (Nat.le_refl _) (hout)) (Obj.lt_row.2 hlt) (Nat.le_of_ble_eq_true rfl) (z16.consF rfl rfl Nat.zero_lt_one ⟨fun _=>⟨rfl,rfl⟩,rfl⟩ (Nat.succ_pos _) (fun q hq hne=>⟨by omega,z6r _ _ _ _ _ _ id (hd_append (by omega)),z1j _ _ _ _⟩) (hoF_newP _ _ _ _ _ (by rw[hd_last]) (fun q hq=>by rw[hd_last])) (z1j _ _ _ _) (Nat.le_of_ble_eq_true rfl) (z16.cons1 rfl Nat.zero_lt_one (by decide) (z1c.of (fun _=>⟨rfl,rfl⟩) rfl (Nat.le_refl _) (fun _ _=>rfl)) (Obj.lt_row.2 fun q _=>by simp[SV.ltL,SV.lt]) (Nat.le_of_ble_eq_true rfl) (z16.cons1 rfl Nat.zero_lt_one (by decide) (z1c.of (fun _=>⟨rfl,rfl⟩) rfl (Nat.le_refl _) (fun q _=>(bals_renP _ _ q).symm)) (Obj.lt_row.2 fun q _=>bals_lt _ _ q) (Nat.le_of_ble_eq_true rfl) (z16.consO rfl (by decide) ⟨fun h=>(by cases h),rfl⟩ (Nat.le_refl _) (fun q _=>⟨hmF_givesP _ _ _ _ _ _ (fun h=>(by cases h)) rfl,z1h _ _ _ _⟩) (Nat.le_of_ble_eq_true rfl) trivial))))))) ?_
    have hwl:(W++[(⟨noNd,r3⟩:Hd)]).length=W.length+1:=by simp
    have hout:∀q,q<L'.length→muQ L' (ka1 μ μ1 W.length) q=SV.renPL (mvP (fun q=>if q=2 then 7 else q) 3 (W.length+1) 9) (muW 1 3 (muS μ μ1 W.length) L' q):=fun q hq=>by
     rw[show muW 1 3 (muS μ μ1 W.length) L' q=muQ L' (fun i=>(bif (muS μ μ1 W.length i).1 then 3 else 1,(muS μ μ1 W.length i).2+1)) q from rfl,muQ_renP];exact muQ_congr _ (ka_two hsrc hRes hq)
    refine Cs.giveP (fr':=[(0,.slc true 2 0 0 L'.length),(5,.slc true 4 0 0 pre.length),(6,.ptr 6 0 0 0)]) (H':=⟨7,[(2,Sk.one (.row ⟨true,false,43,4,L'.length,muW 1 3 (muS μ μ1 W.length) L'⟩)),(3,((W.length+1+1)+1,fam true 45 2 (hoF true (W++[⟨noNd,r3⟩]++[⟨noNd,r4⟩])))),(6,Sk.one (.row ⟨true,true,69,5,1,fun _=>[.int .i64 b.kind,.int .i64 b.from_,.int .i64 b.to,.int .i64 b.beside,.int .i64 b.count]⟩)),(4,Sk.one (.row ⟨true,false,69,5,pre.length,bals pre⟩)),(1,(l.length+1,fam false 45 2 (hmF false l)))]⟩) _ (MwFm.gp (fun q=>if q=2 then 7 else q) (3) ((W.length+1)) (9) (z16.cons1 rfl Nat.zero_lt_one (by decide) (z1c.of (fun _=>⟨rfl,rfl⟩) rfl (Nat.le_refl _) (hout)) (Obj.lt_row.2 fun q _=>muW_lt (Nat.le_of_ble_eq_true rfl) (Nat.le_of_ble_eq_true rfl) _ _ q) (Nat.le_of_ble_eq_true rfl) (z16.consF rfl rfl Nat.zero_lt_one ⟨fun _=>⟨rfl,rfl⟩,rfl⟩ (Nat.succ_pos _) (fun q hq hne=>⟨by omega,z6r _ _ _ _ _ _ id (hd_append (by omega)),z1j _ _ _ _⟩) (hoF_newP _ _ _ _ _ (by rw[←hwl,hd_last]) (fun q hq=>by rw[←hwl,hd_last])) (z1j _ _ _ _) (Nat.le_of_ble_eq_true rfl) (z16.cons1 rfl Nat.zero_lt_one (by decide) (z1c.of (fun _=>⟨rfl,rfl⟩) rfl (Nat.le_refl _) (fun _ _=>rfl)) (Obj.lt_row.2 fun q _=>by simp[SV.ltL,SV.lt]) (Nat.le_of_ble_eq_true rfl) (z16.cons1 rfl Nat.zero_lt_one (by decide) (z1c.of (fun _=>⟨rfl,rfl⟩) rfl (Nat.le_refl _) (fun q _=>(bals_renP _ _ q).symm)) (Obj.lt_row.2 fun q _=>bals_lt _ _ q) (Nat.le_of_ble_eq_true rfl) (z16.consO rfl (by decide) ⟨fun h=>(by cases h),rfl⟩ (Nat.le_refl _) (fun q _=>⟨hmF_givesP _ _ _ _ _ _ (fun h=>(by cases h)) rfl,z1h _ _ _ _⟩) (Nat.le_of_ble_eq_true rfl) trivial)))))) ?_
    have hW2:W++[(⟨noNd,r3⟩:Hd)]++[⟨noNd,r4⟩]=W++[⟨noNd,r3⟩,⟨noNd,r4⟩]:=by simp
    have hW3:(W++[(⟨noNd,r3⟩:Hd),⟨noNd,r4⟩]).length=W.length+1+1:=by simp
    have hnx:=hsrc.next hRes;rw[hW2,←hW3];obtain⟨W',hW'⟩:∃W',W'=W++[(⟨noNd,r3⟩:Hd),⟨noNd,r4⟩]:=⟨_,rfl⟩;obtain⟨μ',hμ'⟩:∃μ',μ'=muS μ μ1 W.length:=⟨_,rfl⟩;rw[←hW',←hμ'] at hnx ⊢;refine MwDm.rg [0,5] ?_;refine Cs.nil ?_;refine hN1 _ _ ?_;refine Cs.nil ?_;refine hL1 _ _ ?_;obtain⟨g1,g2⟩:=hi.step hst (L':=L') (by rw[hL,stR,if_neg h25]) hLB;exact⟨(L',pre++[b],W',μ'),⟨⟨g1,hnx⟩,g2⟩,fun q=>if q=4 then 8 else q,(z3t (fun q=>if q=4 then 8 else q))⟩
end Go.Proofs

namespace Go.Proofs
open Go.Sk
def shK (a b c:Nat)(μ:Nat→Fin 5×Nat)(i:Nat):Nat×Nat:=(if(μ i).1.val=1 then a else if(μ i).1.val=3 then b else c,(μ i).2)
theorem shK_ren (ρ:Nat→Nat)(L:List Hm)(a b c:Nat)(μ:Nat→Fin 5×Nat)(i:Nat):SV.renL ρ (muQ L (shK a b c μ) i)=muQ L (shK (ρ a) (ρ b) (ρ c) μ) i:=by
 simp only[muQ,SV.renL,SV.ren,shK]
 split
 ·rfl
 ·split<;>rfl
theorem shK_lt {m:Nat}(L:List Hm){a b c:Nat}(ha:a<m)(hb:b<m)(hc:c<m)(μ:Nat→Fin 5×Nat)(i:Nat):SV.ltL m (muQ L (shK a b c μ) i):=by
 simp only[muQ,SV.ltL,SV.lt,true_and,and_true,shK]
 split
 ·exact ha
 ·split
  ·exact hb
  ·exact hc
theorem shK_ltI (m:Nat)(L:List Hm)(a b c:Nat)(μ:Nat→Fin 5×Nat)(i:Nat)(h:a<m∧b<m∧c<m):SV.ltL m (muQ L (shK a b c μ) i):=shK_lt L h.1 h.2.1 h.2.2 μ i
theorem row4_sc (x:Nd)(f k o n:Nat):∀s∈[SV.int .i64 x.id,.str x.key,.int .u32 x.word,.slc false f k o n],s.scalar=true:=fun s hs=>by
 simp only[List.mem_cons,List.not_mem_nil,or_false] at hs;rcases hs with rfl|rfl|rfl|rfl<;>rfl
theorem sameW_spec (a b l:List Hm)(W:List Hd)(μ:Nat→Bool×Nat)(hab:vls a=vls b)(ha:HmB a)(hb:HmB b)(hR:SrcW l b W μ)(n:Nat)(hn:a.length=n)(k:Nat)(hk:l.length=k)(w:Nat)(hw:W.length=w)(e:Int):
  ze Tryz.prog 11 [.slc false 0 0 0 n,.int .i64 e,.slc false 2 0 0 n,.int .i64 e] ⟨5,[(0,Sk.one (.row ⟨false,false,43,4,n,hmR false 1 a⟩)),(1,(n+1,fam false 45 2 (hmF false a))),(2,Sk.one (.row ⟨false,false,43,4,n,muW 3 4 μ b⟩)),(3,(k+1,fam false 45 2 (hmF false l))),(4,(w+1,fam false 45 2 (hoF false W)))]⟩ (fun s H1=>s= .bool true∧H1=⟨5,[]⟩):=by
 subst hk hw;refine sameQ_spec a b hab ha hb n hn e [(3,(l.length+1,fam false 45 2 (hmF false l))),(4,(W.length+1,fam false 45 2 (hoF false W)))] 5 (by decide) (fun i=>(bif (μ i).1 then 4 else 3,(μ i).2+1)) (fun i hi=> ?_) (fun x hx k=> ?_) _ (fun _ _=>rfl)
 ·obtain⟨t,e1,e2⟩:=hR i hi
  cases hb:(μ i).1 with
  |true=>
   rw[hb] at e1 e2;simp only[cond_true] at e1 e2;dsimp only;rw[hb];simp only[cond_true];refine⟨(by decide:3≤4),(by decide:4<5),_,_,rfl,Nat.succ_lt_succ e2,(hd W (μ i).2).rows,t,?_,e1⟩;rw[z17];rfl
  |false=>
   rw[hb] at e1 e2;simp only[cond_false] at e1 e2;dsimp only;rw[hb];simp only[cond_false];refine⟨Nat.le_refl _,(by decide:3<5),_,_,rfl,Nat.succ_lt_succ e2,(hm l (μ i).2).full,t,?_,e1⟩;rw[z17];rfl
 ·simp only[List.mem_cons,List.not_mem_nil,or_false] at hx;rcases hx with rfl|rfl
  ·exact z18 false _ _ l k
  ·exact z20 false _ _ W k
theorem QK.src {p:Prop}{os:List (Nat×Nat×(Nat→Sk.Obj))}{l:List Hm}{r r6:List Rw}{b:Nat}{x:Hm}{κ:Fin 7×Nat}(h:QK p l r r6 b x κ)(nm:Nat→Nat)(h3:Sk.find os (nm 3)=some (l.length+1,fam false 45 2 (hmF false l)))
  (h4:Sk.find os (nm 4)=some (1,fun _=> .row ⟨false,false,45,2,r.length,rws r⟩)) (h6:Sk.find os (nm 6)=some (1,fun _=> .row ⟨false,false,45,2,r6.length,rws r6⟩)):
  ∃c0 F0,Sk.find os (nm κ.1.val)=some (c0,F0)∧κ.2<c0∧∃(s:List Rw) (t:Nat),F0 κ.2= .row ⟨false,false,45,2,s.length,rws s⟩∧x.full=s.take t:=by
 rcases h.1 with⟨m,t,hm1,rfl,e⟩|⟨rfl,_,t,e⟩|⟨rfl,e⟩
 ·refine⟨_,_,h3,Nat.succ_lt_succ hm1,(hm l m).full,t,?_,e⟩;rw[z17];rfl
 ·exact⟨_,_,h4,Nat.zero_lt_one,r,t,rfl,e⟩
 ·exact⟨_,_,h6,Nat.zero_lt_one,r6,r6.length,rfl,by rw[e,List.take_length]⟩
theorem PK.of (p:Prop)(l:List Hm)(r:List Rw){b:Nat}(h:∀i,(hm l i).off=0∧((hm l i).full.length:Int)≤b)(i:Nat)(hi:i<l.length):PK p l r b (hm l i) (⟨3,by decide⟩,i+1):=by
 have:=h i;exact⟨.inl ⟨i,(hm l i).full.length,hi,rfl,by rw[List.take_length]⟩,by omega,by omega⟩
theorem QK.hmB {p:Prop}{l:List Hm}{r r6:List Rw}{b n:Nat}{f:Nat→Hm}{κ:Nat→Fin 7×Nat}(h:∀i,i<n→QK p l r r6 b (f i) (κ i))(hn:n≤100)(hb:b<3000):HmB (hmk n f):=
 HmB.hmk hn fun q hq=>by have:=(h q hq).2;omega
theorem hmB_of {l:List Hm}{n b:Int}(hn:(l.length:Int)≤n)(h:∀i,(hm l i).off=0∧((hm l i).full.length:Int)≤b)(h1:n≤100)(h2:b≤3000):HmB l:=by
 refine⟨by omega,fun x hx=> ?_⟩;obtain⟨i,hi,rfl⟩:=List.getElem_of_mem hx;have:=h i;rw[←hm_lt hi];omega
end Go.Proofs
