/-
  Walks and plain facts, joined: part 3 of 6.
  Conditions: those that each statement names.
-/
import Derived.Test.YtcgbbbockmcmoaaGreatDoorQxb
set_option linter.unusedSimpArgs false
set_option linter.unusedVariables false
set_option maxRecDepth 4000
namespace Go.Proofs
open Go.Sk
theorem Tryz.tyErr:z2o Tryz.prog 32=⟨true,.int .i64,1,8,[]⟩:=by kernel_rfl
theorem Tryz.szInts:z4n Tryz.prog 22=1:=by kernel_rfl
theorem app_ndsL (xs ys:List Nd):app (nds xs) xs.length (nds ys)=nds (xs++ys):=app_nds xs ys
theorem rowsOf_nd' (a:Int)(k:ByteArray)(w:Int):z7r 3 1 [SV.int .i64 a,SV.str k,SV.int .u32 w]=nds [⟨a,k,w⟩]:=rowsOf_nd a k w
theorem take_nd {xs:List Nd}{j:Nat}(h:j<xs.length):xs.take (j+1)=xs.take j++[nd xs j]:=by
 rw[z6b h,List.take_succ_eq_append_getElem h]
theorem sLt_irr (k:ByteArray):sLt k k=false:=bl_irr _
theorem sLt_ne {a b:ByteArray}(h:sLt a b=true):a≠b:=fun e=>by
 rw[e,sLt_irr] at h;cases h
def findI (xs:List Nd)(v:Int):Int:=idxB xs.length fun i=>decide ((nd xs i).id=v)
def findN (xs:List Nd)(v:Int):Nd:=if findI xs v<0 then noNd else nd xs (findI xs v).toNat
noncomputable def idsBox (m:Nat):Nat×(Nat→Sk.Obj):=Sk.one (.row ⟨false,true,22,1,1,fun _=>[.slc false 2 0 0 m]⟩)
theorem z8g {a:Prop}(h:a:=by simp[SV.wkL,SV.wk,z1i,z1b,Sk.get,Sk.find,Sk.one,zb.eq_1,zb.eq_2,zb.eq_3,zo,z1k,z1g,SV.renL,SV.ren,Obj.lt_row,SV.ltL,SV.lt,z7c,z3q,zw,z25,Obj.own.eq_1,Obj.own.eq_2,Obj.own.eq_3,Obj.own.eq_4,z1e,zn,zr,z1w,nds,Nd.sv,capsv_ren,capsv_lt,Cap.row,Cap.sv.eq_1,Cap.sv.eq_2,Cap.ty.eq_1,Cap.ty.eq_2,Cap.sz.eq_1,Cap.sz.eq_2,z1t,z4l,ints,idsBox]):a:=h
theorem RosYm.t {s e:SV}{H g:AH}(q:AfQ s e H g:=by constructor<;>(simp only[z1x,after,z57,id,z2q,reduceCtorEq,Nat.reduceEqDiff,zc5,zc6,z5u,z2p,zw,Sk.one,Obj.own.eq_1,Obj.own.eq_2,Obj.own.eq_3,Obj.own.eq_4,Obj.ren.eq_1,Obj.ren.eq_2,Obj.ren_blk,Row.ren,SV.ren,SV.renL,↓reduceIte,Nat.reduceLT,Nat.reduceAdd,Nat.reduceSub,Tryz.tyInt,Tryz.szInt,Tryz.zInt,Tryz.tyInts,Tryz.tyErr,Tryz.tyStr,Tryz.tyU32,Tryz.tyNode,Tryz.szNode,Tryz.zNode,Tryz.tyNodes,Tryz.szNodes,z1e,zn,nds,Nd.sv,Cap.row,Cap.sv.eq_1,Cap.sv.eq_2,Cap.ty.eq_1,Cap.ty.eq_2,Cap.sz.eq_1,Cap.sz.eq_2,z1t,z4l,idsBox,z6i,z4b];exact rfl)):AfQ s e H g:=q
theorem RosYm.c1 {P:Program}{f:FuncId}{args args0:List SV}{H0 H Y g:AH}{X e:SV}{dr:Bool}{W:List Nat}{k:SV→AH→Prop}(hF:ze P f args0 H0 fun s H1=>s=X∧H1=Y)(ρ:Nat→Nat)(h:k e g)(q:CaQ args args0 ρ H0 H dr W:=by constructor<;>exact z8g)(r:CaR ρ H0 H:=by exact⟨rfl,rfl⟩)(b:AfQ (X.ren (z57 H0.nxt H.nxt ρ)) e (after H0.nxt ρ H0 H Y) g:=by exact RosYm.t):z4u P f args H dr W k:=c1S hF ρ h q r b
theorem RosYm.ou {a d:Prop}(h:d)(e:Sd a d:=by simp only[resK,z4q,z3x,Nat.zero_add,zc2,ne_eq,Sk.get,Sk.find,Sk.one,List.getElem?_cons_zero,↓reduceIte,Nat.reduceEqDiff,resV,Tryz.tyNode,Kd.agg,Nat.reduceAdd,Nat.zero_le,Nat.reduceLeDiff];(repeat(with_reducible apply Sd.and;exact z7));exact Sd.rfl):a:=e.f h
theorem RosYm.g {X:Cx}{fr:Fr}{H:AH}{fr1:Fr}{H1:AH}(ρ:Nat→Nat)(q:GvQ X ρ fr H fr1 H1:=by constructor<;>exact z8g)(r:GvR X ρ H1:=by exact⟨rfl,rfl,Nat.le_of_ble_eq_true rfl,rfl⟩):z2v X ρ fr H fr1 H1:=gvS ρ q r
theorem z8f {a c d:Prop}(r:a→c)(h:d)(e:Sd a d:=by simp only[stp,isQ,z4q,Sk.get,Sk.put,z24,zt,↓reduceIte,reduceCtorEq,Nat.reduceEqDiff,zc2,zc3,implies_true,forall_const,zc5,qop,grdK,zc4,List.getElem?_cons_zero,beq_self_eq_true,zc1,z13,cond_true,cond_false,z3x,Sk.find,Sk.one,z17,z1u,Kd.agg,Nat.reduceBEq,ite_self,Nat.zero_add,Nat.reduceAdd,Nat.reduceMul,Nat.reduceSub,Nat.reduceLT,Nat.reduceLeDiff,Nat.zero_le,ne_eq,Int.reduceToNat,exists_eq',spl,z29,SV.cells,SV.scalar,binK,z5o,z5n,intK,z2x,strK,z37,z5m,z3u,unK,z5p,z5i,z39,z3c,z5c,z3d,z3e,optK,z3g,bndK,z36,z38,z55,z3k,lenK,z1a.len,zq.n,z50,mmK,z1y,eop,z5s,srcK,z1f,z44,z3o,capK,z5t,z2c,z2q,z30,boxK,z2d,z3m,z31,updF,mkK,z5a,z1a.ofKd,zq.ofKd,z5b,z1a.add,z1a.okKd,zq.put,zq.okKd,zq.okP,z3f,z1a.has,zq.get,zq.z,Tryz.tyInt,Tryz.szInt,Tryz.zInt,Tryz.tyInts,Tryz.tyErr,Tryz.tyStr,Tryz.tyU32,Tryz.tyNode,Tryz.szNode,Tryz.zNode,Tryz.tyNodes,Tryz.szNodes,z1e,zn,nds,Nd.sv,Cap.row,Cap.sv.eq_1,Cap.sv.eq_2,Cap.ty.eq_1,Cap.ty.eq_2,Cap.sz.eq_1,Cap.sz.eq_2,z1t,z4l,ints,idsBox];(repeat(with_reducible apply Sd.and;exact z7));exact Sd.rfl):c:=r (e.f h)
theorem RosYm.rg {X:Cx}{Q:Exit→Fr→AH→Prop}{fr fr1:Fr}{H H1:AH}{l:List Code}{id:Nat}{ops:List Oper}(keep:List Nat)(h:Cs X l Q fr1 H1)(hd:z2b X.n ops=true:=by exact rfl)(e:∀K:Fr→AH→Prop,K fr1 H1→z5v X.P X.wrap X.m0 ops.toArray ops fr H (fun fr H=>K (prune keep fr) H):=by(intro K hK;(repeat(refine z8f z5 ?_));exact za (z8 hK))):Cs X (.region id ops.toArray false::l) Q fr H:=rgS keep h hd e
theorem RosYm.rs {X:Cx}{Q:Exit→Fr→AH→Prop}{fr fr1:Fr}{H H1:AH}{l:List Code}{id:Nat}{ops:List Oper}{y:Code}(keep:List Nat)(h:Cs X (y::l) Q fr1 H1)(hd:z2b X.n ops=true:=by exact rfl)(e:∀K:Fr→AH→Prop,K fr1 H1→z5v X.P X.wrap X.m0 ops.toArray ops fr H (fun fr H=>K (prune keep fr) H):=by(intro K hK;(repeat(refine z8f z5 ?_));exact za (z8 hK))):Cs X (.seq (.region id ops.toArray false) y::l) Q fr H:=Cs.seq (rgS keep h hd e)
theorem RosYm.s_noNd {a:Prop}(h:a:=by simp[SV.wkL,SV.wk,z1i,z1b,Sk.get,Sk.find,Sk.one,zb.eq_1,zb.eq_2,zb.eq_3,zo,z1k,z1g,SV.renL,SV.ren,Obj.lt_row,SV.ltL,SV.lt,z7c,z3q,zw,z25,Obj.own.eq_1,Obj.own.eq_2,Obj.own.eq_3,Obj.own.eq_4,z1e,zn,zr,z1w,nds,Nd.sv,capsv_ren,capsv_lt,Cap.row,Cap.sv.eq_1,Cap.sv.eq_2,Cap.ty.eq_1,Cap.ty.eq_2,Cap.sz.eq_1,Cap.sz.eq_2,z1t,z4l,ints,idsBox,noNd]):a:=h
theorem RosYm.g_noNd {X:Cx}{fr:Fr}{H:AH}{fr1:Fr}{H1:AH}(ρ:Nat→Nat)(q:GvQ X ρ fr H fr1 H1:=by constructor<;>exact RosYm.s_noNd)(r:GvR X ρ H1:=by exact⟨rfl,rfl,Nat.le_of_ble_eq_true rfl,rfl⟩):z2v X ρ fr H fr1 H1:=gvS ρ q r
theorem refFind_spec (xs:List Nd)(v:Int)(n:Nat)(hn:xs.length=n)(hx:n≤1000000):
  ze Tryz.prog 68 [.slc false 0 0 0 n,.int .i64 v] ⟨1,[(0,Sk.one (.row ⟨false,false,40,3,n,nds xs⟩))]⟩
   (fun s H1=>s= .tup [.agg (findN xs v).sv,.bool (decide (0≤findI xs v))]∧H1=⟨1,[]⟩):=by
 subst hn;refine ze.ofC false 25 [.cell 4 40,.tmp 5] Tryz.func68 rfl rfl Tryz.ntmps68 Tryz.results68 rfl ?_;intro w0 own0 β0 Q hQ hQn;simp only[z1n];refine RosYm.rs [0,1,4] ?_;refine Cs.seq ?_;refine RosYm.rs [0,1,4,6] ?_;refine Cs.block ?_;intro Q0 hN0 hX0 hR0 hE0;refine Cs.loop (σ:=Nat) (fun i=>i≤xs.length∧∀q,q<i→decide ((nd xs q).id=v)=false) (fun i=>xs.length-i) (fun i=>[(0,.slc false 0 0 0 xs.length),(1,.int .i64 v),(4,.ptr 1 0 0 0),(6,.int .i64 i)]) (fun _=>⟨2,[(1,Sk.one (.row ⟨true,true,40,3,1,fun _=>noNd.sv⟩)),(0,Sk.one (.row ⟨false,false,40,3,xs.length,nds xs⟩))]⟩) 0 ⟨Nat.zero_le _,fun q h=>by omega⟩ (ρ:=id) (RosYm.g_noNd id) ?_;rintro i hi QL1 hL1 hRL1 hEL1;refine Cs.seq ?_;refine RosYm.rs [0,1,4,6,10] ?_;refine Cs.cond _ rfl ?_ ?_
 ·intro h10;replace h10:=z6 h10;obtain⟨hi1,hi2⟩:=hi;refine Cs.skip ?_;refine Cs.seq ?_;refine Cs.block ?_;intro Q1 hN1 hX1 hR1 hE1;refine RosYm.rs [0,1,4,6,19] ?_;refine Cs.cond _ rfl ?_ ?_
  ·intro h19
   try replace h19:=z6 h19
   refine RosYm.rs [4,5] ?_;refine Cs.ret ?_;refine hR1 _ _ ?_;refine hRL1 _ _ ?_;refine hR0 _ _ ?_;refine hQ _ _ ?_;refine zm.mk (H':=⟨1,[]⟩) (.inl rfl) ?_;refine RosYm.ou ?_;refine⟨z8g,(RosYm.g id),z8g,?_⟩;have hI:findI xs v=i:=idxB_at (p:=fun i=>decide ((nd xs i).id=v)) (by simpa using h19) (by omega) hi2;rw[findN,if_neg (by omega),decide_eq_true (by omega),hI]
   first|trivial|exact⟨rfl,trivial⟩
  ·intro h19
   try replace h19:=z6 h19
   refine Cs.skip ?_;refine Cs.nil ?_;refine hN1 _ _ ?_;refine RosYm.rg [0,1,4,6] ?_;refine Cs.nil ?_;refine hL1 _ _ ?_;rw[show(i:Int)+1=((i+1:Nat):Int) from by omega];refine⟨i+1,⟨⟨by omega,fun q hq=> ?_⟩,by omega⟩,id,(RosYm.g_noNd id)⟩
   by_cases e:q=i
   ·subst e;simpa using h19
   ·exact hi2 q (by omega)
 ·intro h10;replace h10:=z6 h10;obtain⟨hi1,hi2⟩:=hi;refine Cs.exit ?_;refine hEL1 _ _ _ ?_;refine hX0 _ _ ?_;refine RosYm.rs [4,5] ?_;refine Cs.ret ?_;refine hQ _ _ ?_;refine zm.mk (H':=⟨1,[]⟩) (.inl rfl) ?_;refine RosYm.ou ?_;refine⟨z8g,(RosYm.g id),z8g,?_⟩;have hI:findI xs v= -1:=idxB_none fun q hq=>hi2 q (by omega);rw[findN,if_pos (by omega),decide_eq_false (by omega)];trivial
theorem refIs_spec (xs:List Nd)(n:Nat)(hn:xs.length=n)(hx:n≤1000000):
  ze Tryz.prog 56 [.slc false 0 0 0 n] ⟨1,[(0,Sk.one (.row ⟨false,false,40,3,n,nds xs⟩))]⟩
   (fun s H1=>s= .bool (z3n xs==0)∧H1=⟨1,[]⟩):=by
 refine ze.ofC false 6 [.tmp 2] Tryz.func56 rfl rfl Tryz.ntmps56 Tryz.results56 rfl ?_;intro w0 own0 β0 Q hQ hQn;simp only[z1n];refine RosYm.rs [0] ?_;refine sg [2] rfl ?_;intro K hK;refine z8f z5 ?_;refine z8f z5 ?_;refine RosYm.c1 (refCheck_spec xs n hn hx) (id) ?_;iterate 2 (refine z8f z5 ?_)
 refine za (z8 (hK _ _ ?_));clear hK K;refine Cs.ret ?_;refine hQ _ _ ?_;refine zm.mk (H':=⟨1,[]⟩) (.inl rfl) ?_;refine RosYm.ou ?_;refine⟨z8g,(RosYm.g id),z8g,?_⟩
 first|trivial|exact⟨rfl,trivial⟩
def plc (xs:List Nd):List Nd:=if z3n xs=0 then srtN xs else []
def rkI (xs:List Nd)(v:Int):Int:=if z3n xs=0 then findI (srtN xs) v else -1
theorem place_spec (xs:List Nd)(v:Int)(n:Nat)(hn:xs.length=n)(hx:n≤1000000):
  ze Tryz.prog 76 [.slc false 0 0 0 n,.int .i64 v] ⟨1,[(0,Sk.one (.row ⟨false,false,40,3,n,nds xs⟩))]⟩
   (fun s H1=>s= .tup [.slc false 1 0 0 (plc xs).length,.int .i64 (rkI xs v)]∧H1=⟨2,[(1,Sk.one (.row ⟨true,false,40,3,(plc xs).length,nds (plc xs)⟩))]⟩):=by
 subst hn;have hl:=z82 xs;refine ze.ofC false 16 [.tmp 4,.tmp 5] Tryz.func76 rfl rfl Tryz.ntmps76 Tryz.results76 rfl ?_;intro w0 own0 β0 Q hQ hQn;simp only[z1n];refine RosYm.rs [0,3] ?_;refine Cs.seq ?_;refine sg [0,3,9] rfl ?_;intro K hK;refine z8f z5 ?_;refine z8f z5 ?_;refine RosYm.c1 (check_spec xs xs.length rfl hx) (id) ?_;refine z8f z5 ?_;refine za (z8 (hK _ _ ?_));clear hK K;refine Cs.cond _ rfl ?_ ?_
 ·intro h9;replace h9:=z6 h9;refine RosYm.rs [4,5] ?_;refine Cs.nilO 4 40 3 (nds []) rfl ?_;refine Cs.soft 4 rfl ?_;refine Cs.ret ?_;refine hQ _ _ ?_;refine zm.mkR (fun k=>if k=1 then 2 else k) (.tup [.slc false 1 0 0 0,.int .i64 (-1)]) (⟨2,[(1,Sk.one (.row ⟨true,false,40,3,0,nds []⟩))]⟩) (.inl rfl) ?_;refine RosYm.ou ?_;refine⟨z8g,z8g,(RosYm.g (fun k=>if k=1 then 2 else k)),z8g,?_⟩;rw[plc,rkI,if_neg h9,if_neg h9]
  first|trivial|exact⟨rfl,trivial⟩
 ·intro h9;replace h9:=z6 h9;refine Cs.skip ?_;refine sg [3,6] rfl ?_;intro K hK;refine z8f z5 ?_;refine z8f z5 ?_;refine RosYm.c1 (sort_spec xs xs.length rfl hx) (id) ?_;refine z8f z5 ?_;refine za (z8 (hK _ _ ?_));clear hK K;refine sg [4,5] rfl ?_;intro K hK;iterate 3 (refine z8f z5 ?_)
  refine z8f z5 ?_;refine RosYm.c1 (indexFunc_spec 84 (.num v) _ (placeTest v) (srtN xs) xs.length xs.length (Nat.le_refl _) hx) (fun k=>if k=0 then 2 else 1) ?_;have hI:idxB xs.length (fun i=>decide ((nd (srtN xs) i).id=v))=findI (srtN xs) v:=by rw[findI,hl]
  rw[hI];iterate 2 (refine z8f z5 ?_)
  refine za (z8 (hK _ _ ?_));clear hK K;refine Cs.soft 4 rfl ?_;refine Cs.ret ?_;refine hQ _ _ ?_;refine zm.mkR (fun k=>if k=1 then 2 else k) (.tup [.slc false 1 0 0 xs.length,.int .i64 (findI (srtN xs) v)]) (⟨2,[(1,Sk.one (.row ⟨true,false,40,3,xs.length,nds (srtN xs)⟩))]⟩) (.inl rfl) ?_;refine RosYm.ou ?_;refine⟨z8g,z8g,(RosYm.g (fun k=>if k=1 then 2 else k)),z8g,?_⟩;rw[plc,rkI,if_pos h9,if_pos h9,hl]
  first|trivial|exact⟨rfl,trivial⟩
end Go.Proofs

namespace Go.Proofs
open Go.Sk
def insAt (l:List Nd)(k:Nat)(x:Nd):List Nd:=l.take k++[x]++l.drop k
theorem insAt_length {l:List Nd}{k:Nat}{x:Nd}(h:k≤l.length):(insAt l k x).length=l.length+1:=by
 simp[insAt];omega
theorem nd_insAt {l:List Nd}{k:Nat}{x:Nd}(h:k≤l.length)(q:Nat):nd (insAt l k x) q=if q<k then nd l q else if q=k then x else nd l (q-1):=by
 by_cases h1:q<k
 ·rw[if_pos h1,insAt,z88 (by simp;omega),z88 (by simp;omega)];simp only[nd,List.getD,List.getElem?_take,if_pos h1]
 ·rw[if_neg h1]
  by_cases h2:q=k
  ·subst h2;rw[if_pos rfl,insAt,z88 (by simp;omega),nd_append_ge (by simp;omega)];simp only[List.length_take,Nat.min_eq_left h,Nat.sub_self];rfl
  ·rw[if_neg h2,insAt,nd_append_ge (by simp;omega)];simp only[nd,List.getD,List.getElem?_drop,List.length_append,List.length_take,List.length_singleton,Nat.min_eq_left h]
   congr 2;omega
theorem ins_srt {l:List Nd}{k:Nat}{x:Nd}(h:k≤l.length)(hs:Srt 0 l.length (nd l))(hlo:0<k→¬Lt x (nd l (k-1)))(hhi:∀q,k≤q→q<l.length→Lt x (nd l q)):Srt 0 (insAt l k x).length (nd (insAt l k x))∧Stb (l++[x]) (insAt l k x):=by
 refine⟨srt_of_next fun q _ hq=> ?_,?_⟩
 ·rw[insAt_length h] at hq;rw[nd_insAt h,nd_insAt h]
  by_cases c1:q+1<k
  ·rw[if_pos c1,if_pos (by omega)];exact hs q (q+1) (by omega) (by omega) (by omega)
  ·rw[if_neg c1]
   by_cases c2:q+1=k
   ·rw[if_pos c2,if_pos (by omega)];have:=hlo (by omega);rwa [show k-1=q by omega] at this
   ·rw[if_neg c2,if_neg (show¬q<k by omega)]
    by_cases c3:q=k
    ·rw[if_pos c3];exact fun hh=>Lt.irrefl _ (hh.trans (hhi _ (by omega) (by omega)))
    ·rw[if_neg c3];exact hs _ _ (by omega) (by omega) (by omega)
 ·have:=stb_blocks (A:=l.take k) (B:=l.drop k) (C:=[x]) (D:=[]) (fun b hb c hc=>by
   obtain⟨q,hq,rfl⟩:=List.getElem_of_mem hb;simp only[List.mem_singleton] at hc;subst hc;simp only[List.length_drop] at hq;simp only[List.getElem_drop];have:=hhi (k+q) (by omega) (by omega)
   rwa [z6b (by omega)] at this)
  simpa [insAt,List.take_append_drop] using this
theorem gtN_eq (a b:Nd):(!(sLt a.key b.key||sEq a.key b.key)||(sEq a.key b.key && decide (b.id<a.id)))=ltN b a:=by
 rw[Bool.eq_iff_iff,ltN_iff];simp only[Lt,Bool.or_eq_true,Bool.and_eq_true,Bool.not_eq_true',Bool.or_eq_false_iff,decide_eq_true_eq,sEq_iff,decide_eq_false_iff_not]
 constructor
 ·rintro(⟨h1,h2⟩|⟨h1,h2⟩)
  ·left
   cases h:sLt b.key a.key with
   |true=>rfl
   |false=>exact absurd (ba_ext (bl_eq h1 h)) h2
  ·exact .inr ⟨h1.symm,h2⟩
 ·rintro(h1|⟨h1,h2⟩)
  ·left
   refine⟨?_,fun e=> ?_⟩
   ·cases h:sLt a.key b.key with
    |false=>rfl
    |true=>
     have:=bl_trans h h1;rw[bl_irr] at this
     cases this
   ·rw[e] at h1;simp[sLt,bl_irr] at h1
  ·exact .inr ⟨h1.symm,h2⟩
theorem ins_rows {ys:List Nd}{k:Nat}(hk:k≤ys.length)(x:Nd){q:Nat}(hq:q<ys.length+1):
  (if q=k then SV.int .i64 x.id:: .str x.key:: .int .u32 x.word::List.drop 3 (overF (nds (ys++[⟨0,⟨#[]⟩,0⟩])) (k+1) (min (ys.length+1-k) (ys.length-k)) (srcF (nds (ys++[⟨0,⟨#[]⟩,0⟩])) k) k)
   else overF (nds (ys++[⟨0,⟨#[]⟩,0⟩])) (k+1) (min (ys.length+1-k) (ys.length-k)) (srcF (nds (ys++[⟨0,⟨#[]⟩,0⟩])) k) q)=[SV.int .i64 (nd (insAt ys k x) q).id,.str (nd (insAt ys k x) q).key,.int .u32 (nd (insAt ys k x) q).word]:=by
 have hm:min (ys.length+1-k) (ys.length-k)=ys.length-k:=by omega
 rw[hm,nd_insAt hk]
 by_cases c1:q=k
 ·subst c1;rw[if_pos rfl,if_neg (by omega),if_pos rfl];simp only[overF];rw[if_neg (by omega)]
  rfl
 ·rw[if_neg c1];simp only[overF,srcF]
  by_cases c2:q<k
  ·rw[if_neg (by omega),if_pos c2];simp only[nds,Nd.sv];rw[z88 (by omega)]
  ·rw[if_pos (by omega),if_neg c2,if_neg c1];simp only[nds,Nd.sv];rw[show k+(q-(k+1))=q-1 by omega,z88 (by omega)]
theorem RotBm.s {a:Prop}(h:a:=by simp[SV.wkL,SV.wk,z1i,z1b,Sk.get,Sk.find,Sk.one,zb.eq_1,zb.eq_2,zb.eq_3,zo,z1k,z1g,SV.renL,SV.ren,Obj.lt_row,SV.ltL,SV.lt,z7c,z3q,zw,z25,Obj.own.eq_1,Obj.own.eq_2,Obj.own.eq_3,Obj.own.eq_4,z1e,zn,zr,z1w,nds,Nd.sv,z1t,z4l,ints,idsBox]):a:=h
theorem RotBm.g {X:Cx}{fr:Fr}{H:AH}{fr1:Fr}{H1:AH}(ρ:Nat→Nat)(q:GvQ X ρ fr H fr1 H1:=by constructor<;>exact RotBm.s)(r:GvR X ρ H1:=by exact⟨rfl,rfl,Nat.le_of_ble_eq_true rfl,rfl⟩):z2v X ρ fr H fr1 H1:=gvS ρ q r
theorem RotBm.o {a c d:Prop}(r:a→c)(h:d)(e:Sd a d:=by simp only[stp,isQ,z4q,Sk.get,Sk.put,z24,zt,↓reduceIte,reduceCtorEq,Nat.reduceEqDiff,zc2,zc3,implies_true,forall_const,zc5,qop,grdK,zc4,List.getElem?_cons_zero,beq_self_eq_true,zc1,z13,cond_true,cond_false,z3x,Sk.find,Sk.one,z17,z1u,Kd.agg,Nat.reduceBEq,ite_self,Nat.zero_add,Nat.reduceAdd,Nat.reduceMul,Nat.reduceSub,Nat.reduceLT,Nat.reduceLeDiff,Nat.zero_le,ne_eq,Int.reduceToNat,exists_eq',spl,z29,SV.cells,SV.scalar,binK,z5o,z5n,intK,z2x,strK,z37,z5m,z3u,unK,z5p,z5i,z39,z3c,z5c,z3d,z3e,optK,z3g,bndK,z36,z38,z55,z3k,lenK,z1a.len,zq.n,z50,mmK,z1y,eop,z5s,srcK,z1f,z44,z3o,capK,z5t,z2c,z2q,z30,boxK,z2d,z3m,z31,updF,mkK,z5a,z1a.ofKd,zq.ofKd,z5b,z1a.add,z1a.okKd,zq.put,zq.okKd,zq.okP,z3f,z1a.has,zq.get,zq.z,Tryz.tyInt,Tryz.szInt,Tryz.zInt,Tryz.tyInts,Tryz.szInts,Tryz.tyErr,Tryz.tyStr,Tryz.tyU32,Tryz.tyNode,Tryz.szNode,Tryz.zNode,Tryz.tyNodes,Tryz.szNodes,z1e,zn,nds,Nd.sv,z1t,z4l,ints,idsBox,app_nds,app_ndsL,rowsOf_nd',app_zero];(repeat(with_reducible apply Sd.and;exact z7));exact Sd.rfl):c:=r (e.f h)
theorem RotBm.rg {X:Cx}{Q:Exit→Fr→AH→Prop}{fr fr1:Fr}{H H1:AH}{l:List Code}{id:Nat}{ops:List Oper}(keep:List Nat)(h:Cs X l Q fr1 H1)(hd:z2b X.n ops=true:=by exact rfl)(e:∀K:Fr→AH→Prop,K fr1 H1→z5v X.P X.wrap X.m0 ops.toArray ops fr H (fun fr H=>K (prune keep fr) H):=by(intro K hK;(repeat(refine RotBm.o z5 ?_));exact za (z8 hK))):Cs X (.region id ops.toArray false::l) Q fr H:=rgS keep h hd e
theorem RotBm.rs {X:Cx}{Q:Exit→Fr→AH→Prop}{fr fr1:Fr}{H H1:AH}{l:List Code}{id:Nat}{ops:List Oper}{y:Code}(keep:List Nat)(h:Cs X (y::l) Q fr1 H1)(hd:z2b X.n ops=true:=by exact rfl)(e:∀K:Fr→AH→Prop,K fr1 H1→z5v X.P X.wrap X.m0 ops.toArray ops fr H (fun fr H=>K (prune keep fr) H):=by(intro K hK;(repeat(refine RotBm.o z5 ?_));exact za (z8 hK))):Cs X (.seq (.region id ops.toArray false) y::l) Q fr H:=Cs.seq (rgS keep h hd e)
set_option maxHeartbeats 2000000 in
theorem refSort_spec (xs:List Nd)(n:Nat)(hn:xs.length=n)(hx:n≤1000000):
  ze Tryz.prog 14 [.slc false 0 0 0 n] ⟨1,[(0,Sk.one (.row ⟨false,false,40,3,n,nds xs⟩))]⟩
   (fun s H1=>s= .slc true 1 0 0 n∧H1=⟨2,[(1,Sk.one (.row ⟨true,false,40,3,n,nds (srtN xs)⟩))]⟩):=by
 subst hn;refine ze.ofC false 80 [.tmp 2] Tryz.func14 rfl rfl Tryz.ntmps14 Tryz.results14 rfl ?_;intro w0 own0 β0 Q hQ hQn;simp only[z1n];refine RotBm.rs [0] ?_;refine RotBm.rs [0,3] ?_;refine Cs.seq ?_;refine RotBm.rs [0,3,4] ?_;refine Cs.nilO 3 40 3 (nds []) rfl ?_;dsimp only;refine Cs.block ?_;intro Q0 hN0 hX0 hR0 hE0;refine Cs.loop (σ:=Nat×List Nd) (fun σ=>(σ.1≤xs.length∧σ.2.length=σ.1)∧Srt 0 σ.2.length (nd σ.2)∧Stb (xs.take σ.1) σ.2) (fun σ=>xs.length-σ.1) (fun σ=>[(0,.slc false 0 0 0 xs.length),(3,.slc true 1 0 0 σ.2.length),(4,.int .i64 σ.1)]) (fun σ=>⟨2,[(1,Sk.one (.row ⟨true,false,40,3,σ.2.length,nds σ.2⟩)),(0,Sk.one (.row ⟨false,false,40,3,xs.length,nds xs⟩))]⟩) (0,[]) ⟨⟨Nat.zero_le _,rfl⟩,fun p q _ _ h=>by simp at h,Stb.refl _⟩ (ρ:=id) (RotBm.g id) ?_;rintro⟨i,ys⟩ hi QL1 hL1 hRL1 hEL1;refine Cs.seq ?_;refine RotBm.rs [0,3,4,9] ?_;refine Cs.cond _ rfl ?_ ?_
 ·intro h9;replace h9:=z6 h9;obtain⟨⟨hi1,hi2⟩,hi3,hi4⟩:=hi;dsimp only at hi1 hi2 hi3 hi4;refine Cs.skip ?_;refine Cs.seq ?_;refine Cs.block ?_;intro Q1 hN1 hX1 hR1 hE1;refine RotBm.rs [0,3,4,5] ?_;refine Cs.seq ?_;refine Cs.block ?_;intro Q2 hN2 hX2 hR2 hE2;refine Cs.loop (σ:=Nat) (fun k=>k≤ys.length∧∀q,k≤q→q<ys.length→Lt (nd xs i) (nd ys q)) (fun k=>k) (fun k=>[(0,.slc false 0 0 0 xs.length),(3,.slc true 1 0 0 ys.length),(4,.int .i64 i),(5,.int .i64 k)]) (fun _=>⟨2,[(1,Sk.one (.row ⟨true,false,40,3,ys.length,nds ys⟩)),(0,Sk.one (.row ⟨false,false,40,3,xs.length,nds xs⟩))]⟩) ys.length ⟨Nat.le_refl _,fun q _ _=>by omega⟩ (ρ:=id) (RotBm.g id) ?_;rintro k hk QL2 hL2 hRL2 hEL2;refine Cs.seq ?_;refine Cs.seq ?_;refine Cs.regDraw [0,3,4,5,57] [0,1,2,3,4,5,6,7,8,9,10,11,12,13,14,15,16,17,18,19,20,21,22,23,24,25,26,27,28,29,30,31,32,33,34,35,36,37,38,39,40,41,42,43] [[],[0],[0,1],[0,1,2],[0,1,2],[0,1,2,4],[0,1,2,3,4,5],[0,1,2,3,4,5,6],[0,1,2,3,4,5,6,7],[0,1,2],[0,1,2],[0,1,2,9,10],[0,1,2,9,10,11],[0,1,2,9,10,11,12],[0,1,2,3,4,5,6,7,8,9,10,11,12,13],[0,1,2,3,4,5,6,7,8,9,10,11,12,13,14],[0,1,2,3,4,5,6,7,8,9,10,11,12,13,14,15],[0,1,2,3,4,5,6,7,8,9,10,11,12,13,14,15],[0,1,2,3,4,5,6,7,8,9,10,11,12,13,14,15,17],[0,1,2,3,4,5,6,7,8,9,10,11,12,13,14,15,16,17,18],[0,1,2,3,4,5,6,7,8,9,10,11,12,13,14,15,16,17,18,19],[0,1,2,3,4,5,6,7,8,9,10,11,12,13,14,15,16,17,18,19,20],[0,1,2,3,4,5,6,7,8,9,10,11,12,13,14,15],[0,1,2,3,4,5,6,7,8,9,10,11,12,13,14,15],[0,1,2,3,4,5,6,7,8,9,10,11,12,13,14,15,22,23],[0,1,2,3,4,5,6,7,8,9,10,11,12,13,14,15,22,23,24],[0,1,2,3,4,5,6,7,8,9,10,11,12,13,14,15,22,23,24,25],[0,1,2,3,4,5,6,7,8,9,10,11,12,13,14,15,16,17,18,19,20,21,22,23,24,25,26],[0,1,2,3,4,5,6,7,8,9,10,11,12,13,14,15,16,17,18,19,20,21,22,23,24,25,26,27],[0,1,2,3,4,5,6,7,8,9,10,11,12,13,14,15,16,17,18,19,20,21,22,23,24,25,26,27,28],[0,1,2,3,4,5,6,7,8,9,10,11,12,13,14,15,16,17,18,19,20,21,22,23,24,25,26,27,28],[0,1,2,3,4,5,6,7,8,9,10,11,12,13,14,15,16,17,18,19,20,21,22,23,24,25,26,27,28,30],[0,1,2,3,4,5,6,7,8,9,10,11,12,13,14,15,16,17,18,19,20,21,22,23,24,25,26,27,28,29,30,31],[0,1,2,3,4,5,6,7,8,9,10,11,12,13,14,15,16,17,18,19,20,21,22,23,24,25,26,27,28,29,30,31,32],[0,1,2,3,4,5,6,7,8,9,10,11,12,13,14,15,16,17,18,19,20,21,22,23,24,25,26,27,28,29,30,31,32,33],[0,1,2,3,4,5,6,7,8,9,10,11,12,13,14,15,16,17,18,19,20,21,22,23,24,25,26,27,28],[0,1,2,3,4,5,6,7,8,9,10,11,12,13,14,15,16,17,18,19,20,21,22,23,24,25,26,27,28],[0,1,2,3,4,5,6,7,8,9,10,11,12,13,14,15,16,17,18,19,20,21,22,23,24,25,26,27,28,35,36],[0,1,2,3,4,5,6,7,8,9,10,11,12,13,14,15,16,17,18,19,20,21,22,23,24,25,26,27,28,35,36,37],[0,1,2,3,4,5,6,7,8,9,10,11,12,13,14,15,16,17,18,19,20,21,22,23,24,25,26,27,28,35,36,37,38],[0,1,2,3,4,5,6,7,8,9,10,11,12,13,14,15,16,17,18,19,20,21,22,23,24,25,26,27,28,29,30,31,32,33,34,35,36,37,38,39],[0,1,2,3,4,5,6,7,8,9,10,11,12,13,14,15,16,17,18,19,20,21,22,23,24,25,26,27,28,29,30,31,32,33,34,35,36,37,38,39,40],[0,1,2,3,4,5,6,7,8,9,10,11,12,13,14,15,16,17,18,19,20,21,22,23,24,25,26,27,28,29,30,31,32,33,34,35,36,37,38,39,40,41],[0,1,2,3,4,5,6,7,8,9,10,11,12,13,14,15,16,17,18,19,20,21,22,23,24,25,26,27,28,29,30,31,32,33,34,35,36,37,38,39,40,41,42]] [[],[],[],[],[],[],[],[],[],[],[],[],[],[],[],[],[],[],[],[],[],[],[],[],[],[],[],[],[],[],[],[],[],[],[],[],[],[],[],[],[],[],[],[]] [[],[],[],[],[],[],[],[],[],[],[],[],[],[],[],[],[],[],[],[],[],[],[],[],[],[],[],[],[],[],[],[],[],[],[],[],[],[],[],[],[],[],[],[]] Tryz.mo rfl rfl rfl (by kernel_rfl) (by kernel_rfl) (by kernel_rfl) rfl (by kernel_rfl) ?_
  intro K hK;iterate 44 (refine RotBm.o (zf _ [] [] rfl rfl rfl) ?_)
  refine z2n (z8 (hK _ _ ?_));clear hK K;refine Cs.cond _ rfl ?_ ?_
  ·intro h57;replace h57:=z6 h57;obtain⟨hk1,hk2⟩:=hk
   have hgt:Lt (nd xs i) (nd ys (k-1)):=by
    rw[←ltN_iff,←gtN_eq];have:=h57.2;rw[show((k:Int)-1).toNat=k-1 from by omega] at this;simpa using this
   refine Cs.skip ?_;refine Cs.block ?_;intro Q3 hN3 hX3 hR3 hE3;refine RotBm.rg [0,3,4,5] ?_;refine Cs.nil ?_;refine hN3 _ _ ?_;refine Cs.nil ?_;refine hL2 _ _ ?_;rw[show(k:Int)-1=((k-1:Nat):Int) from by omega];refine⟨k-1,⟨⟨by omega,fun q hq hq2=> ?_⟩,by omega⟩,id,(RotBm.g id)⟩
   by_cases e:q=k-1
   ·subst e;exact hgt
   ·exact hk2 q (by omega) hq2
  ·intro h57;replace h57:=z6 h57;obtain⟨hk1,hk2⟩:=hk
   have hle:0<k→¬Lt (nd xs i) (nd ys (k-1)):=fun hk0=>by
    rw[←ltN_iff,←gtN_eq];have:=h57 (by omega);rw[show((k:Int)-1).toNat=k-1 from by omega] at this;intro hc;replace hc:=z6 hc;rcases hc with⟨h1,h2⟩|⟨h1,h2⟩
    ·simp[h1,h2] at this
    ·simp[h1] at this;omega
   refine Cs.exit ?_;refine hEL2 _ _ _ ?_;refine hX2 _ _ ?_;refine RotBm.rs [0,3,4,5] ?_;refine Cs.seq ?_;refine Cs.regDraw [0,3,4,5] [0,1,2,3,4,5,6,7] [[],[],[1],[0,1,2],[],[],[4,5],[0,1,2,3,4,5,6]] [[],[],[],[],[],[],[],[3]] [[],[],[],[],[],[],[],[3]] Tryz.mo rfl rfl rfl (by kernel_rfl) (by kernel_rfl) (by kernel_rfl) rfl (by kernel_rfl) ?_;intro K hK;iterate 7 (refine RotBm.o (zf _ [] [] rfl rfl rfl) ?_)
   refine RotBm.o (zf _ [3] [3] rfl rfl rfl) ?_;rw[show((k:Int)+1).toNat=k+1 from by omega];repeat(with_reducible apply ai;exact z7)
   refine z2n (z8 (hK _ _ ?_));clear hK K;refine RotBm.rg [0,3,4] ?_;refine Cs.nil ?_;refine hN1 _ _ ?_;refine RotBm.rg [0,3,4] ?_;refine Cs.nil ?_;refine hL1 _ _ ?_;rw[show(i:Int)+1=((i+1:Nat):Int) from by omega];have hins:=ins_srt hk1 hi3 hle hk2;have hlen:=insAt_length (x:=nd xs i) hk1
   have hst:Stb (xs.take (i+1)) (insAt ys k (nd xs i)):=by
    rw[take_nd (by omega)];refine Stb.trans (fun kk ii=> ?_) hins.2;rw[List.filter_append,List.filter_append,hi4]
   refine⟨(i+1,insAt ys k (nd xs i)),⟨⟨⟨by dsimp only;omega,by dsimp only;omega⟩,hins.1,hst⟩,by dsimp only;omega⟩,fun j=>if j=1 then 3 else j,?_⟩;simp only[hlen];exact(gvS (fun j=>if j=1 then 3 else j) ⟨RotBm.s,(by simp[z1b,Sk.find,Sk.one,zb.eq_1,zb.eq_2,zb.eq_3,zo,SV.renL,SV.ren,Obj.lt_row,SV.ltL,SV.lt,z1e,zn,zr,z1w,nds,Nd.sv,z1t,z4l,ints,idsBox];exact fun q hq=>ins_rows hk1 (nd xs i) hq),RotBm.s,RotBm.s,RotBm.s⟩ ⟨rfl,rfl,Nat.le_of_ble_eq_true rfl,rfl⟩)
 ·intro h9;replace h9:=z6 h9;obtain⟨⟨hi1,hi2⟩,hi3,hi4⟩:=hi;dsimp only at hi1 hi2 hi3 hi4;refine Cs.exit ?_;refine hEL1 _ _ _ ?_;refine hX0 _ _ ?_;refine RotBm.rs [2] ?_;refine Cs.ret ?_;refine hQ _ _ ?_;have hyl:ys.length=xs.length:=by omega
  have hys:ys=srtN xs:=srtN_unique (by have:=hi4;rwa [show i=xs.length by omega,List.take_length] at this) hi3;rw[hyl,hys];refine zm.mk (H':=⟨2,[(1,Sk.one (.row ⟨true,false,40,3,xs.length,nds (srtN xs)⟩))]⟩) (.inl rfl) ?_;refine zh ?_;refine⟨RotBm.s,(RotBm.g id),RotBm.s,?_⟩;trivial
end Go.Proofs

namespace Go.Proofs
open Go.Sk
theorem Stb.perm {xs ys:List Nd}(h:Stb xs ys):xs.Perm ys:=by
 rw[List.perm_iff_count];intro x
 have h1:∀l:List Nd,l.count x=(l.filter (cls x.key x.id)).count x:=fun l=>by
  rw[List.count_filter];simp[cls]
 exact(h1 xs).trans ((congrArg (List.count x) (h x.key x.id)).trans (h1 ys).symm)
theorem srtN_perm (xs:List Nd):xs.Perm (srtN xs):=(srtN_stb xs).perm
theorem anyB_iff {n:Nat}{p:Nat→Bool}:anyB n p=false↔∀i,i<n→p i=false:=⟨fun h i hi=>anyB_elim h hi,z4v⟩
theorem good_iff (xs:List Nd):z3n xs=0↔xs.length≤64∧(∀x∈xs,badN x=false)∧xs.Pairwise fun a b=>twinN a b=false:=by
 rw[z3n]
 by_cases c1:64<xs.length
 ·rw[if_pos c1];exact⟨fun h=>by omega,fun h=>by omega⟩
 ·rw[if_neg c1]
  cases c2:anyB xs.length (fun i=>badN (nd xs i)) with
  |true=>
   rw[if_pos rfl];refine⟨fun h=>by omega,fun h=> ?_⟩;rw[z4v fun i hi=>by rw[z6b hi];exact h.2.1 _ (List.getElem_mem hi)] at c2
   cases c2
  |false=>
   rw[if_neg Bool.false_ne_true];rw[anyB_iff] at c2
   cases c3:anyB xs.length (fun i=>anyB i fun k=>twinN (nd xs k) (nd xs i)) with
   |true=>
    rw[if_pos rfl];refine⟨fun h=>by omega,fun h=> ?_⟩
    rw[z4v fun i hi=>z4v fun k hk=>by
     rw[z6b hi,z6b (show k<xs.length by omega)]
     exact List.pairwise_iff_getElem.1 h.2.2 k i (by omega) hi hk] at c3
    cases c3
   |false=>
    rw[if_neg Bool.false_ne_true];rw[anyB_iff] at c3;refine⟨fun _=>⟨by omega,fun x hx=> ?_,List.pairwise_iff_getElem.2 fun k i hk hi hki=> ?_⟩,fun _=>rfl⟩
    ·obtain⟨i,hi,rfl⟩:=List.getElem_of_mem hx;have:=c2 i hi;rwa [z6b hi] at this
    ·have:=anyB_iff.1 (c3 i hi) k hki;rwa [z6b hi,z6b hk] at this
theorem good_perm {xs ys:List Nd}(h:xs.Perm ys)(hg:z3n xs=0):z3n ys=0:=by
 rw[good_iff] at*;obtain⟨h1,h2,h3⟩:=hg;refine⟨by rw[←h.length_eq];exact h1,fun x hx=>h2 x (h.mem_iff.2 hx),?_⟩;exact(h.pairwise_iff (R:=fun a b=>twinN a b=false) (fun {x y} hh=>by rw[twinN_comm];exact hh)).1 h3
theorem twinN_false {a b:Nd}(h:twinN a b=false):a.id≠b.id∧a.key≠b.key:=by
 simp only[twinN,sEq_iff,Bool.or_eq_false_iff,decide_eq_false_iff_not] at h;exact h
theorem srtN_strict {xs:List Nd}(hg:z3n xs=0):(srtN xs).Pairwise fun a b=>sLt a.key b.key=true:=by
 have h1:=srtN_ord xs;have h2:=((good_iff _).1 (good_perm (srtN_perm xs) hg)).2.2;refine(h1.and h2).imp fun {a b} h=> ?_;obtain⟨h1,h2⟩:=h;have hk:=(twinN_false h2).2
 cases hlt:sLt a.key b.key with
 |true=>rfl
 |false=>
  exfalso
  apply h1
  left
  cases hlt2:sLt b.key a.key with
  |true=>rfl
  |false=>exact absurd (ba_ext (bl_eq hlt hlt2)) hk
theorem sLt_asymm {a b:ByteArray}(h:sLt a b=true):sLt b a=false:=by
 cases h2:sLt b a with
 |false=>rfl
 |true=>
  have:=bl_trans h h2;rw[bl_irr] at this;cases this
theorem nd_mem {xs:List Nd}{i:Nat}(h:i<xs.length):nd xs i∈xs:=by rw[z6b h];exact List.getElem_mem h
theorem srt_sub {s ys:List Nd}(h:ys.Sublist s)(ha:s.Pairwise fun a b=>sLt a.key b.key=true):srtN ys=ys:=by
 refine srtN_same fun i j _ hij hj=> ?_;have h3:=ha.sublist h;rw[List.pairwise_iff_getElem] at h3;rintro(hl|⟨hl,hl2⟩)
 ·by_cases c:i=j
  ·subst c;rw[sLt_irr] at hl;cases hl
  ·have:=h3 i j (by omega) hj (by omega);rw[z6b (show i<ys.length by omega),z6b hj] at hl;rw[sLt_asymm this] at hl;cases hl
 ·by_cases c:i=j
  ·subst c;omega
  ·have:=h3 i j (by omega) hj (by omega);rw[z6b (show i<ys.length by omega),z6b hj] at hl;exact sLt_ne this (by simpa using hl.symm)
end Go.Proofs

namespace Go.Proofs
open Go.Sk
structure Rw where
 key:ByteArray
 val:ByteArray
deriving DecidableEq
structure Hd where
 nd:Nd
 rows:List Rw
deriving DecidableEq
def noRw:Rw:=⟨⟨#[]⟩,⟨#[]⟩⟩
def noHd:Hd:=⟨noNd,[]⟩
def ro (l:List Rw)(i:Nat):Rw:=l.getD i noRw
def hd (l:List Hd)(i:Nat):Hd:=l.getD i noHd
theorem ro_lt {l:List Rw}{i:Nat}(h:i<l.length):ro l i=l[i]:=by simp[ro,List.getD,h]
theorem hd_lt {l:List Hd}{i:Nat}(h:i<l.length):hd l i=l[i]:=by simp[hd,List.getD,h]
theorem ro_mem {l:List Rw}{i:Nat}(h:i<l.length):ro l i∈l:=by rw[ro_lt h];exact List.getElem_mem h
theorem hd_mem {l:List Hd}{i:Nat}(h:i<l.length):hd l i∈l:=by rw[hd_lt h];exact List.getElem_mem h
def z89 (l:List Hd):List Nd:=l.map (·.nd)
theorem z6j (l:List Hd):(z89 l).length=l.length:=by simp[z89]
theorem nd_ndsL {l:List Hd}{i:Nat}(h:i<l.length):nd (z89 l) i=(hd l i).nd:=by
 rw[z6b (by rw[z6j];exact h),hd_lt h];simp[z89]
def z6q (l:List Hd):List Rw:=l.flatMap (·.rows)
def z2e (l:List Hd):List Int:=l.map fun h=>(h.rows.length:Int)
theorem z49 (l:List Hd):(z2e l).length=l.length:=by simp[z2e]
theorem z4s {l:List Hd}{i:Nat}(h:i<l.length):nth (z2e l) i=((hd l i).rows.length:Int):=by
 rw[nth_lt (by rw[z49];exact h),hd_lt h];simp[z2e]
def allB (n:Nat)(p:Nat→Bool):Bool:=(List.range n).all p
theorem allB_iff {n:Nat}{p:Nat→Bool}:allB n p=true↔∀i,i<n→p i=true:=by
 rw[allB,List.all_eq_true];exact⟨fun h i hi=>h i (List.mem_range.2 hi),fun h i hi=>h i (List.mem_range.1 hi)⟩
def okRw (r:Rw):Bool:=okKey r.key && decide (r.val.size≤64)
def rowB (t:List Rw)(i:Nat):Bool:=okRw (ro t i) && (decide (i=0)||sLt (ro t (i-1)).key (ro t i).key)
def tblB (t:List Rw):Bool:=decide (t.length≤1024) && allB t.length (rowB t)
def fstL:List Hd→List Hd
 |[]=>[]
 |h::t=>⟨⟨h.nd.id,⟨#[]⟩,h.nd.word⟩,h.rows⟩::t
theorem z7e (l:List Hd):(fstL l).length=l.length:=by cases l<;>rfl
def z54 (x:Nd)(k:ByteArray):Nd:=⟨x.id,k,x.word⟩
def besB (n a b:Int):Bool:=(decide (0≤a) && decide (a<n)) && (decide (0≤b) && decide (b<n)) && (a-b==1||b-a==1)
def shiR (l:List Hd)(a c:Nat):List Hd:=
 (l.set a ⟨(hd l a).nd,(hd l a).rows.take ((hd l a).rows.length-c)⟩).set (a+1) ⟨z54 (hd l (a+1)).nd (ro (hd l a).rows ((hd l a).rows.length-c)).key,(hd l a).rows.drop ((hd l a).rows.length-c)++(hd l (a+1)).rows⟩
def shiL (l:List Hd)(a c:Nat):List Hd:=
 (l.set (a-1) ⟨(hd l (a-1)).nd,(hd l (a-1)).rows++(hd l a).rows.take c⟩).set a ⟨z54 (hd l a).nd (ro (hd l a).rows c).key,(hd l a).rows.drop c⟩
def z7n (l:List Hd)(a b:Nat):List Hd:=
 if a<b then l.set b ⟨z54 (hd l b).nd (hd l a).nd.key,(hd l a).rows++(hd l b).rows⟩ else l.set b ⟨(hd l b).nd,(hd l b).rows++(hd l a).rows⟩
def outH (x:List Hd)(a k:Nat)(node:Hd):Nat→List Hd
 |0=>[]
 |i+1=>outH x a k node i++(if i=a then [] else [hd x i])++if i=k then [node] else []
def movH (l:List Hd)(a b k c:Nat):List Hd:=
 let x:=z7n l a b
 let n:=(hd x k).rows.length-c
 outH (x.set k ⟨(hd x k).nd,(hd x k).rows.take n⟩) a k ⟨z54 (hd l a).nd (ro (hd x k).rows n).key,(hd x k).rows.drop n⟩ l.length
end Go.Proofs

namespace Go.Sk
open Go.RowKit
variable {X:Cx} {Q:Exit→Fr→AH→Prop} {fr:Fr} {H:AH} {l:List Code}
theorem Cs.regG {c:Code}{id:Nat}{ops:List Oper}(keep:List Nat)(hd:z2b X.n ops=true)
  (h:∀K:Fr→AH→Prop,(∀fr H,Cs X (c::l) Q fr H→K fr H)→(∀fr H F G ρ,z2v X ρ fr H F G→K F G→K fr H)→z5v X.P X.wrap X.m0 ops.toArray ops fr H (fun fr H=>K (prune keep fr) H)):Cs X (.region id ops.toArray false::c::l) Q fr H:=
 Cw.reg keep hd (h (fun fr H=>Cs X (c::l) Q fr H) (fun _ _ h=>h) (fun _ _ _ _ _ hg hk=>Cs.give _ hg hk))
end Go.Sk

namespace Go.Sk
open Go.RowKit
abbrev Pn:=Nat→Nat→Nat×Nat
mutual
def SV.renP (π:Pn):SV→SV
 |.ptr id k i j=> .ptr (π id k).1 (π id k).2 i j
 |.slc g id k o n=> .slc g (π id k).1 (π id k).2 o n
 |.mp id k=> .mp (π id k).1 (π id k).2
 |.fn f l=> .fn f (SV.renPL π l)
 |.agg l=> .agg (SV.renPL π l)
 |.tup l=> .tup (SV.renPL π l)
 |.gd g s=> .gd g (SV.renP π s)
 |.ifc t s=> .ifc t (SV.renP π s)
 |s=>s
def SV.renPL (π:Pn):List SV→List SV
 |[]=>[]
 |s::l=>SV.renP π s::SV.renPL π l
end
def Env.viaP (β:Env)(π:Pn):Env:=fun id k=>β (π id k).1 (π id k).2
mutual
theorem z5j {β:Env}{π:Pn}:∀(s:SV) (v:Value),den β (s.renP π) v↔den (β.viaP π) s v
 |.int ..,_=>Iff.rfl
 |.bool _,_=>Iff.rfl
 |.str _,_=>Iff.rfl
 |.nilp,_=>Iff.rfl
 |.nils,_=>Iff.rfl
 |.nilfn,_=>Iff.rfl
 |.raw _,_=>Iff.rfl
 |.ptr ..,_=>Iff.rfl
 |.slc ..,_=>Iff.rfl
 |.mp ..,_=>Iff.rfl
 |.fn f l,v=>by
  simp only[SV.renP,den];exact⟨fun⟨vs,h,e⟩=>⟨vs,(z7o l vs).1 h,e⟩,fun⟨vs,h,e⟩=>⟨vs,(z7o l vs).2 h,e⟩⟩
 |.agg l,v=>by
  simp only[SV.renP,den];exact⟨fun⟨vs,h,e⟩=>⟨vs,(z7o l vs).1 h,e⟩,fun⟨vs,h,e⟩=>⟨vs,(z7o l vs).2 h,e⟩⟩
 |.tup l,v=>by
  simp only[SV.renP,den];exact⟨fun⟨vs,h,e⟩=>⟨vs,(z7o l vs).1 h,e⟩,fun⟨vs,h,e⟩=>⟨vs,(z7o l vs).2 h,e⟩⟩
 |.ifc t s,v=>by
  simp only[SV.renP,den];exact⟨fun⟨u,h,e⟩=>⟨u,(z5j s u).1 h,e⟩,fun⟨u,h,e⟩=>⟨u,(z5j s u).2 h,e⟩⟩
 |.gd g s,v=>by
  simp only[SV.renP,den];exact⟨fun⟨h,e⟩=>⟨fun hg=>(z5j s v).1 (h hg),e⟩,fun⟨h,e⟩=>⟨fun hg=>(z5j s v).2 (h hg),e⟩⟩
theorem z7o {β:Env}{π:Pn}:∀(l:List SV) (vs:List Value),z4i β (SV.renPL π l) vs↔z4i (β.viaP π) l vs
 |[],_=>Iff.rfl
 |s::l,vs=>by
  simp only[SV.renPL,z4i];exact⟨fun⟨v,r,h1,h2,e⟩=>⟨v,r,(z5j s v).1 h1,(z7o l r).1 h2,e⟩,fun⟨v,r,h1,h2,e⟩=>⟨v,r,(z5j s v).2 h1,(z7o l r).2 h2,e⟩⟩
end
theorem renPL_eq (π:Pn):∀l:List SV,SV.renPL π l=l.map (SV.renP π)
 |[]=>rfl
 |s::l=>by simp[SV.renPL,renPL_eq π l]
theorem scalar_renP (π:Pn)(s:SV):(s.renP π).scalar=s.scalar:=by cases s<;>rfl
def z1c (π:Pn)(r r':Row):Prop:=
 (r'.own=true→r.own=true∧r'.e=r.e)∧r'.sz=r.sz∧r'.n≤r.n∧∀i,i<r'.n→r.f i=SV.renPL π (r'.f i)
def mapGivesP (π:Pn):zq→zq→Prop
 |.ints n h g z,.ints n' h' g' z'=>n'=n∧(∀a,h' a=h a)∧(∀a,g a=(g' a).renP π)∧z=z'.renP π
 |.prs n h g z,.prs n' h' g' z'=>n'=n∧(∀a b,h' a b=h a b)∧(∀a b,g a b=(g' a b).renP π)∧z=z'.renP π
 |_,_=>False
theorem mapGivesP_all {π:Pn}{M M':zq}(h:mapGivesP π M M'):M'.n=M.n∧(∀v,M'.has v=M.has v)∧(∀v,M.val v=(M'.val v).renP π)∧M.z=M'.z.renP π:=by
 cases M<;>cases M'<;>simp only[mapGivesP] at h
 all_goals
  obtain⟨h1,h2,h3,h4⟩:=h;refine⟨h1,fun v=> ?_,fun v=> ?_,h4⟩<;>simp only[zq.has,zq.val]<;>split<;>first|exact h2 _|exact h2 _ _|exact h3 _|exact h3 _ _|exact h4|rfl
def z11 (π:Pn):Obj→Obj→Prop
 |.row r,.row r'=>z1c π r r'
 |.blk w p,.blk w' p'=>(w'=true→w=true)∧p=p'
 |.mapo w p,.mapo w' p'=>(w'=true→w=true)∧mapGivesP π p p'
 |_,_=>False
theorem objGivesP_own {π:Pn}{o o':Obj}(h:z11 π o o')(ho:o'.own=true):o.own=true:=by
 cases o<;>cases o'<;>simp only[z11] at h
 ·exact(h.1 ho).1
 ·exact h.1 ho
 ·exact h.1 ho
theorem z7q {π:Pn}{o o':Obj}(h:z11 π o o'):o≠ .gone:=by
 cases o<;>cases o'<;>simp only[z11] at h<;>simp
theorem z8n {π:Pn}{o o':Obj}(h:z11 π o o'){β:Env}{w:World}{q:Option Loc}(hh:o.holds β w q):o'.holds (β.viaP π) w q:=by
 cases o<;>cases o'<;>simp only[z11] at h
 ·rename_i r r';obtain⟨h1,h2,h3,h4⟩:=h;rcases hh with⟨hn,hq⟩|⟨L,hq,e1,e2,e3,e4⟩
  ·exact .inl ⟨by omega,hq⟩
  ·refine .inr ⟨L,hq,by omega,e2,fun i hi=> ?_,fun ho=> ?_⟩
   ·have:=e3 i (by omega);rw[h4 i hi] at this;refine⟨by rw[renPL_eq,List.length_map] at this;omega,fun j s hs=> ?_⟩;have hj:(SV.renPL π (r'.f i))[j]? =some (s.renP π):=by rw[renPL_eq,List.getElem?_map,hs];rfl
    obtain⟨c1,v,c2,c3⟩:=this.2 j _ hj;exact⟨by rw[←scalar_renP π];exact c1,v,c2,(z5j s v).1 c3⟩
   ·obtain⟨a,b,c,cur,d,e⟩:=e4 (h1 ho).1;exact⟨a,by omega,c,cur,by rw[(h1 ho).2];exact d,by rw[h2];exact e⟩
 ·obtain⟨_,rfl⟩:=h;exact hh
 ·obtain⟨L,b,hq,hb,es,clk,e1,e2,e6,e3,e4,e5⟩:=hh;obtain⟨q1,q2,q3,q4⟩:=mapGivesP_all h.2;refine⟨L,b,hq,hb,es,clk,e1,e2.trans q1.symm,e6,fun k=>by rw[q2];exact e3 k,fun e he=> ?_,fun k hk v hv=> ?_⟩
  ·have:=e4 e he;rw[q3] at this;exact(z5j _ _).1 this
  ·have:=e5 k (by rw[←q2];exact hk) v (by rw[q4];exact(z5j _ _).2 hv);rw[q3] at this;exact(z5j _ _).1 this
structure z8d (X:Cx) (π:Pn) (fr:Fr) (H:AH) (fr':Fr) (H':AH):Prop where
 fr:∀t s,get fr' t=some s→get fr t=some (s.renP π)∧s.lt H'.nxt
 os:∀id k o',look H'.os id k=some o'→id<H'.nxt∧o'.lt H'.nxt∧∃o,look H.os (π id k).1 (π id k).2=some o∧z11 π o o'
 inj:∀id k o id' k' o',look H'.os id k=some o→look H'.os id' k'=some o'→o.own=true→π id k=π id' k'→id=id'∧k=k'
 fix:∀id k,id<X.m0→π id k=(id,k)
 m0:X.m0≤H'.nxt
 keep:∀id k,id<X.m0→(∃o,look H.os id k=some o∧o.own=true)→∃o,look H'.os id k=some o∧o.own=true
 big:∀id k o,X.m0≤id→look H'.os id k=some o→o.own=true→X.m0≤(π id k).1
theorem z8d.frOk {X:Cx}{π:Pn}{fr fr':Fr}{H H':AH}(h:z8d X π fr H fr' H'){β:Env}{a:Act}(hF:FrOk X β H.nxt fr a):FrOk X (β.viaP π) H'.nxt fr' a:=
 ⟨hF.defers,hF.size,fun t s hs=>by
  obtain⟨h1,h2⟩:=h.fr t s hs;obtain⟨_,v,h3,h4⟩:=hF.get t _ h1
  exact⟨h2,v,h3,(z5j s v).1 h4⟩⟩
theorem z8d.st {X:Cx}{π:Pn}{fr fr':Fr}{H H':AH}(h:z8d X π fr H fr' H'){β:Env}{w:World}(hS:St X β H w):St X (β.viaP π) H' w where
 os:=hS.os
 tape:=hS.tape
 output:=hS.output
 size:=hS.size
 fix id k hl:=by
  show β (π id k).1 (π id k).2=_
  rw[h.fix id k hl];exact hS.fix id k hl
 holds id k o hl:=by
  obtain⟨_,_,o0,h1,h2⟩:=h.os _ _ _ hl;exact z8n h2 (hS.holds _ _ _ h1)
 sep id k id' k' o o' L L' hl hl' ho hb hb' he:=by
  obtain⟨_,_,o0,h1,h2⟩:=h.os _ _ _ hl;obtain⟨_,_,o1,h3,h4⟩:=h.os _ _ _ hl';have:=hS.sep _ _ _ _ _ _ _ _ h1 h3 (objGivesP_own h2 ho) hb hb' he;exact h.inj _ _ _ _ _ _ hl hl' ho (Prod.ext this.1 this.2)
 old b hb hn:=hS.old b hb fun id k o L hl ho hbb he=>by
  rcases hS.mine _ _ _ _ hl ho hbb with⟨h1,_⟩|⟨_,h2⟩
  ·obtain⟨o',q1,q2⟩:=h.keep id k h1 ⟨o,hl,ho⟩;refine hn id k o' L q1 q2 ?_ he
   show β (π id k).1 (π id k).2=_
   rw[h.fix id k h1];exact hbb
  ·omega
 mine id k o L hl ho hb:=by
  obtain⟨hlt,_,o0,h1,h2⟩:=h.os _ _ _ hl;rcases hS.mine _ _ _ _ h1 (objGivesP_own h2 ho) hb with⟨q1,q2⟩|⟨q1,q2⟩
  ·by_cases hm:id<X.m0
   ·rw[h.fix id k hm] at q2;exact .inl ⟨hm,q2⟩
   ·have:=h.big id k o (by omega) hl ho;omega
  ·by_cases hm:id<X.m0
   ·have:=h.fix id k hm;rw[this] at q1;simp only at q1;omega
   ·exact .inr ⟨by omega,q2⟩
 keep id k ho:=by
  obtain⟨q1,o,q2,q3⟩:=hS.keep id k ho;exact⟨q1,h.keep id k q1 ⟨o,q2,q3⟩⟩
 m0:=h.m0
 lt id k o hl:=by
  obtain⟨h1,h2,_⟩:=h.os _ _ _ hl;exact⟨h1,h2⟩
 tabs:=hS.tabs
 drawn:=hS.drawn
def mvP (ρ:Nat→Nat)(f j a:Nat):Pn:=fun id k=>if id=f∧k=j+1 then(a,0) else(ρ id,k)
def frGivesP (π:Pn)(m:Nat)(fr:Fr):Fr→Prop
 |[]=>True
 |(t,s)::l=>(get fr t=some (s.renP π)∧s.lt m)∧frGivesP π m fr l
theorem frGivesP_ok {π:Pn}{m:Nat}{fr:Fr}:∀{fr':Fr},frGivesP π m fr fr'→∀t s,get fr' t=some s→get fr t=some (s.renP π)∧s.lt m
 |[],_,_,_,h=>by simp[get] at h
 |(u,s0)::l,h,t,s,hs=>by
  simp only[get] at hs
  split at hs
  ·rename_i he
   cases hs;subst he
   exact h.1
  ·exact frGivesP_ok h.2 t s hs
def z16 (ρ:Nat→Nat)(f j a m:Nat)(os:List (Nat×Nat×(Nat→Obj))):List (Nat×Nat×(Nat→Obj))→Prop
 |[]=>True
 |(id,c',F')::l=>
  ((match find os (ρ id) with
   |some (c,F)=> ∀k,k<c'→¬(id=f∧k=j+1)→k<c∧z11 (mvP ρ f j a) (F k) (F' k)∧(F' k).lt m
   |none=>False)∧
   (id=f→match find os a with
   |some (c,F)=>0<c∧z11 (mvP ρ f j a) (F 0) (F' (j+1))∧(F' (j+1)).lt m
   |none=>False))∧id<m∧z16 ρ f j a m os l
theorem z16.get {ρ:Nat→Nat}{f j a m:Nat}{os:List (Nat×Nat×(Nat→Obj))}:∀{os':List (Nat×Nat×(Nat→Obj))},z16 ρ f j a m os os'→∀id c' F',(id,c',F')∈os'→∀k,k<c'→F' k≠ .gone→
  id<m∧(F' k).lt m∧∃o,look os (mvP ρ f j a id k).1 (mvP ρ f j a id k).2=some o∧z11 (mvP ρ f j a) o (F' k)
 |[],_,_,_,_,hm=>by cases hm
 |(i,c1,F1)::l,h,id,c',F',hm=>by
  obtain⟨⟨h1,h1'⟩,h2,h3⟩:=h
  cases hm with
  |head=>
   intro k hk hg
   by_cases hj:i=f∧k=j+1
   ·obtain⟨rfl,rfl⟩:=hj;have:=h1' rfl
    split at this
    ·rename_i c F hf;obtain⟨q1,q2,q3⟩:=this;refine⟨h2,q3,F 0,?_,q2⟩;simp only[mvP,and_self,if_true];exact(zp hf q1).trans (Obj.opt_of (z7q q2))
    ·exact this.elim
   ·split at h1
    ·rename_i c F hf;obtain⟨q1,q2,q3⟩:=h1 k hk hj;refine⟨h2,q3,F k,?_,q2⟩;have e:mvP ρ f j a i k=(ρ i,k):=if_neg hj;rw[e];exact(zp hf q1).trans (Obj.opt_of (z7q q2))
    ·exact h1.elim
  |tail _ hm=>exact z16.get h3 id c' F' hm
theorem z8d.mk' {X:Cx}{fr:Fr}{H:AH}{fr':Fr}{H':AH}(ρ:Nat→Nat)(f j a:Nat)(h1:frGivesP (mvP ρ f j a) H'.nxt fr fr')(h2:z16 ρ f j a H'.nxt H.os H'.os)(h3:injB ρ H'.os=true)(h3u:z7c H'.os)
  (h3a:(H'.os.all fun x=> !(ρ x.1==a))=true) (h4:(List.range X.m0).all (fun id=>ρ id==id)=true)
  (h5:X.m0≤H'.nxt) (h5f:X.m0≤f) (h5a:X.m0≤a) (h6:∀x∈H.os,x.1<X.m0→∀k,(x.2.2 k).own=(x.2.2 0).own) (h7:z3q X.m0 H.os H'.os) (h8:bigB X.m0 ρ H'.os=true):z8d X (mvP ρ f j a) fr H fr' H' where
 fr:=frGivesP_ok h1
 os id k o' hl:=by
  have hg:=z45 hl;obtain⟨c,F,hf,hk,rfl⟩:=z1s hl;exact h2.get _ _ _ (z2l hf) k hk hg
 inj id k o id' k' o' hl hl' ho he:=by
  have hna:∀{id k:Nat} {o:Obj},look H'.os id k=some o→ρ id≠a:=fun {id k o} h e=>by
   obtain⟨c,F,hf,hk,rfl⟩:=z1s h;have:=List.all_eq_true.1 h3a _ (z2l hf);simp[e] at this
  have hij:InjOn ρ H'.os:= .of h3 h3u;unfold mvP at he
  split at he
  ·rename_i h
   split at he
   ·rename_i h';exact⟨h.1.trans h'.1.symm,h.2.trans h'.2.symm⟩
   ·simp only[Prod.mk.injEq] at he;exact absurd he.1.symm (hna hl')
  ·split at he
   ·simp only[Prod.mk.injEq] at he;exact absurd he.1 (hna hl)
   ·simp only[Prod.mk.injEq] at he;exact⟨hij _ _ _ _ _ _ hl hl' ho he.1,he.2⟩
 fix id k hid:=by
  have:=List.all_eq_true.1 h4 id (List.mem_range.2 hid);unfold mvP;rw[if_neg (by omega)];rw[beq_iff_eq] at this;rw[this]
 m0:=h5
 keep id k hid ho:=by
  obtain⟨o,ho1,ho2⟩:=ho;obtain⟨c,F,hf,hk,rfl⟩:=z1s ho1;have:=h7 _ (z2l hf) hid (by have:=h6 _ (z2l hf) hid k;simp only at this;rw[←this];exact ho2);simp only at this
  split at this
  ·rename_i c' F' hf';exact⟨F' k,(zp hf' (by omega)).trans (Obj.opt_of fun e=>by have:=this.2 k;rw[e] at this;cases this),this.2 k⟩
  ·exact this.elim
 big id k o h0 hl ho:=by
  obtain⟨c,F,hf,hk,rfl⟩:=z1s hl;have h9:=List.all_eq_true.1 h8 _ (z2l hf);have h10:=h3u _ (z2l hf) k;simp only[Bool.or_eq_true,decide_eq_true_eq,Bool.not_eq_true'] at h9;simp only at h10;rw[←h10,ho] at h9;unfold mvP
  split
  ·exact h5a
  ·rcases h9 with(h9|h9)|h9
   ·omega
   ·exact h9
   ·cases h9
section
variable {X:Cx} {Q:Exit→Fr→AH→Prop} {fr:Fr} {H:AH} {l:List Code}
theorem Cs.giveP {c:Code}{fr':Fr}{H':AH}(π:Pn)(hg:z8d X π fr H fr' H')(h:Cs X (c::l) Q fr' H'):Cs X (c::l) Q fr H:=fun _ a w hF hS=>h _ a w (hg.frOk hF) (hg.st hS)
theorem Cs.fam0 {c:Code}(e:TypeId)(sz:Nat)(G:Nat→Obj)(h:Cs X (c::l) Q fr ⟨H.nxt+1,(H.nxt,0+1,fam true e sz G)::H.os⟩):Cs X (c::l) Q fr H:=fun β a w hF hS=>by
 have hag:=Env.agree_set β H.nxt (fun _=>none);refine h (β.set H.nxt fun _=>none) a w (hF.agree (Nat.le_succ H.nxt) hag) ?_;refine St.new' hS (fun k L _ he=>by cases he) (fun k k' L L' h h' he he' _=>by cases he) (fun k hk=> ?_) (fun k hk=> ?_)
 ·have:k=0:=by omega
  subst this;exact .inl ⟨rfl,rfl⟩
 ·have:k=0:=by omega
  subst this;intro i j s hi _;exact absurd hi (Nat.not_lt_zero _)
end
end Go.Sk

namespace Go.Sk
open Go.RowKit
theorem z14 {ρ:Nat→Nat}{o o':Bool}{e e':TypeId}{sz sz':Nat}{G G':Nat→Obj}{n m:Nat}:
  (∀k,k<n+1→zb ρ (fam o e sz G k) (fam o' e' sz' G' k)∧(fam o' e' sz' G' k).lt m)↔((o'=true→o=true∧e'=e)∧sz'=sz)∧∀i,i<n→zb ρ (G i) (G' i)∧(G' i).lt m:=by
 constructor
 ·intro h;refine⟨?_,fun i hi=>h (i+1) (by omega)⟩;have:=(h 0 (by omega)).1;simp only[fam,zb,zo] at this;exact⟨this.1,this.2.1⟩
 ·rintro⟨⟨h1,h2⟩,h3⟩ k hk
  cases k with
  |zero=>
   refine⟨?_,fun i j s hi _=>absurd hi (Nat.not_lt_zero _)⟩;simp only[fam,zb,zo];exact⟨h1,h2,Nat.le_refl _,fun i hi=>absurd hi (Nat.not_lt_zero _)⟩
  |succ i=>exact h3 i (by omega)
theorem zx {ρ:Nat→Nat}{o o':Bool}{e e':TypeId}{sz sz':Nat}{G G':Nat→Obj}{n m:Nat}:
  (∀k,k≤n→zb ρ (fam o e sz G k) (fam o' e' sz' G' k)∧(fam o' e' sz' G' k).lt m)↔((o'=true→o=true∧e'=e)∧sz'=sz)∧∀i,i<n→zb ρ (G i) (G' i)∧(G' i).lt m:=by
 rw[←z14];exact⟨fun h k hk=>h k (by omega),fun h k hk=>h k (by omega)⟩
theorem z3a {ρ:Nat→Nat}{o o':Bool}{e e':TypeId}{sz sz':Nat}{G G':Nat→Obj}:zb ρ (fam o e sz G 0) (fam o' e' sz' G' 0)↔(o'=true→o=true∧e'=e)∧sz'=sz:=by
 simp only[fam,zb,zo];exact⟨fun h=>⟨h.1,h.2.1⟩,fun h=>⟨h.1,h.2,Nat.le_refl _,fun i hi=>absurd hi (Nat.not_lt_zero _)⟩⟩
theorem z3b (o:Bool)(e:TypeId)(sz:Nat)(G:Nat→Obj)(m:Nat):(fam o e sz G 0).lt m:=fun i j s hi _=>absurd hi (Nat.not_lt_zero _)
theorem z28 (o:Bool)(e:TypeId)(sz:Nat)(G:Nat→Obj):(∀k,(fam o e sz G k).own=o)↔∀i,(G i).own=o:=by
 constructor
 ·exact fun h i=>h (i+1)
 ·intro h k
  cases k with
  |zero=>rfl
  |succ i=>exact h i
theorem fam_own1 {o:Bool}{e:TypeId}{sz:Nat}{G:Nat→Obj}(h:∀i,(G i).own=o)(k:Nat):(fam o e sz G k).own=o:=(z28 o e sz G).2 h k
theorem fam_ren (ρ:Nat→Nat)(o:Bool)(e:TypeId)(sz:Nat)(G:Nat→Obj):(fun k=>(fam o e sz G k).ren ρ)=fam o e sz (fun i=>(G i).ren ρ):=by
 funext k
 cases k<;>rfl
theorem fam_givesP {π:Pn}{o o':Bool}{e e':TypeId}{sz sz':Nat}{G G':Nat→Obj}{c c' f id j m:Nat}(hid:id=f)(h1:(o'=true→o=true∧e'=e)∧sz'=sz)(h0:0<c)(h:∀i,i+1<c'→i≠j→i+1<c∧z11 π (G i) (G' i)∧(G' i).lt m):
  ∀k,k<c'→¬(id=f∧k=j+1)→k<c∧z11 π (fam o e sz G k) (fam o' e' sz' G' k)∧(fam o' e' sz' G' k).lt m:=by
 intro k hk hn
 cases k with
 |zero=>
  refine⟨h0,?_,fun i j s hi _=>absurd hi (Nat.not_lt_zero _)⟩;simp only[fam,z11,z1c];exact⟨h1.1,h1.2,Nat.le_refl _,fun i hi=>absurd hi (Nat.not_lt_zero _)⟩
 |succ i=>exact h i hk fun e=>hn ⟨hid,by omega⟩
theorem z16.cons1 {ρ:Nat→Nat}{f j a m:Nat}{os l:List (Nat×Nat×(Nat→Obj))}{id c:Nat}{F:Nat→Obj}{o':Obj}(hf:find os (ρ id)=some (c,F))(hc:0<c)(hid:id≠f)(h:z11 (mvP ρ f j a) (F 0) o')(hl:o'.lt m)(hm:id<m)(ht:z16 ρ f j a m os l):z16 ρ f j a m os ((id,one o')::l):=by
 refine⟨⟨?_,fun e=>absurd e hid⟩,hm,ht⟩;rw[hf];intro k hk _
 have hk0:k=0:=by
  have:k<1:=hk;omega
 subst hk0;exact⟨hc,h,hl⟩
theorem z16.consF {ρ:Nat→Nat}{f j a m:Nat}{os l:List (Nat×Nat×(Nat→Obj))}{c c' ca:Nat}{Fa:Nat→Obj}{o o':Bool}{e e':TypeId}{sz sz':Nat}{G G':Nat→Obj}(hf:find os (ρ f)=some (c,fam o e sz G))(hfa:find os a=some (ca,Fa))(hca:0<ca)
  (h1:(o'=true→o=true∧e'=e)∧sz'=sz) (h0:0<c) (h:∀i,i+1<c'→i≠j→i+1<c∧z11 (mvP ρ f j a) (G i) (G' i)∧(G' i).lt m) (ha:z11 (mvP ρ f j a) (Fa 0) (G' j)) (hal:(G' j).lt m) (hm:f<m) (ht:z16 ρ f j a m os l):
  z16 ρ f j a m os ((f,(c',fam o' e' sz' G'))::l):=by
 refine⟨⟨?_,fun _=> ?_⟩,hm,ht⟩
 ·rw[hf];exact fam_givesP rfl h1 h0 h
 ·rw[hfa];exact⟨hca,ha,hal⟩
theorem z16.consO {ρ:Nat→Nat}{f j a m:Nat}{os l:List (Nat×Nat×(Nat→Obj))}{id c c':Nat}{o o':Bool}{e e':TypeId}{sz sz':Nat}{G G':Nat→Obj}(hf:find os (ρ id)=some (c,fam o e sz G))(hid:id≠f)
  (h1:(o'=true→o=true∧e'=e)∧sz'=sz) (hc:c'≤c) (h:∀i,i+1<c'→z11 (mvP ρ f j a) (G i) (G' i)∧(G' i).lt m) (hm:id<m) (ht:z16 ρ f j a m os l):
  z16 ρ f j a m os ((id,(c',fam o' e' sz' G'))::l):=by
 refine⟨⟨?_,fun e=>absurd e hid⟩,hm,ht⟩;rw[hf];intro k hk _
 cases k with
 |zero=>
  refine⟨by omega,?_,fun i j s hi _=>absurd hi (Nat.not_lt_zero _)⟩;simp only[fam,z11,z1c];exact⟨h1.1,h1.2,Nat.le_refl _,fun i hi=>absurd hi (Nat.not_lt_zero _)⟩
 |succ i=>exact⟨by omega,h i hk⟩
theorem z1c.of {π:Pn}{r r':Row}(h1:r'.own=true→r.own=true∧r'.e=r.e)(h2:r'.sz=r.sz)(h3:r'.n≤r.n)(h4:∀i,i<r'.n→r.f i=SV.renPL π (r'.f i)):z11 π (.row r) (.row r'):=⟨h1,h2,h3,h4⟩
end Go.Sk

namespace Go.Proofs
open Go.Sk
theorem Tryz.tyRow:z2o Tryz.prog 45=⟨true,.struct,2,32,[(0,some false,1),(1,some false,1)]⟩:=by kernel_rfl
theorem Tryz.szRow:z4n Tryz.prog 45=2:=by kernel_rfl
theorem Tryz.zRow:z6d Tryz.prog 45=some [.str ⟨#[]⟩,.str ⟨#[]⟩]:=by kernel_rfl
theorem Tryz.tyRows:z2o Tryz.prog 41=⟨true,.slice 45,1,24,[]⟩:=by kernel_rfl
theorem Tryz.szRows:z4n Tryz.prog 41=1:=by kernel_rfl
theorem Tryz.zRows:z6d Tryz.prog 41=some [.nils]:=by kernel_rfl
theorem Tryz.tyHd:z2o Tryz.prog 43=⟨true,.struct,4,56,[(0,some true,3),(3,some false,1)]⟩:=by kernel_rfl
theorem Tryz.szHd:z4n Tryz.prog 43=4:=by kernel_rfl
theorem Tryz.zHd:z6d Tryz.prog 43=some [.int .i64 0,.str ⟨#[]⟩,.int .u32 0,.nils]:=by kernel_rfl
theorem Tryz.tyHds:z2o Tryz.prog 23=⟨true,.slice 43,1,24,[]⟩:=by kernel_rfl
theorem Tryz.szHds:z4n Tryz.prog 23=1:=by kernel_rfl
def Rw.sv (r:Rw):List SV:=[.str r.key,.str r.val]
def rws (l:List Rw):Nat→List SV:=fun i=>(ro l i).sv
theorem z8p (l:List Rw)(i:Nat):rws l i=[.str (ro l i).key,.str (ro l i).val]:=rfl
theorem z6m (ρ:Nat→Nat)(l:List Rw):(fun i=>SV.renL ρ (rws l i))=rws l:=by funext i;simp[rws,Rw.sv,SV.renL,SV.ren]
theorem z19 (ρ:Nat→Nat)(l:List Rw)(i:Nat):SV.renL ρ (rws l i)=rws l i:=congrFun (z6m ρ l) i
theorem z2h (m:Nat)(l:List Rw)(i:Nat):SV.ltL m (rws l i):=by simp[rws,Rw.sv,SV.ltL,SV.lt]
theorem z7g (π:Pn)(l:List Rw)(i:Nat):SV.renPL π (rws l i)=rws l i:=by simp[rws,Rw.sv,SV.renPL,SV.renP]
theorem app_rws (xs ys:List Rw):app (rws xs) xs.length (rws ys)=rws (xs++ys):=by
 funext i
 simp only[app,rws,ro,List.getD]
 by_cases h:i<xs.length
 ·rw[if_pos h,List.getElem?_append_left h]
 ·rw[if_neg h,List.getElem?_append_right (by omega)]
theorem z7w {xs ys:List Rw}{n:Nat}(h:xs.length=n):app (rws xs) n (rws ys)=rws (xs++ys):=by subst h;exact app_rws xs ys
theorem z79 (a b:ByteArray):z7r 2 1 [SV.str a,SV.str b]=rws [⟨a,b⟩]:=by
 funext i
 match i with
 |0=>rfl
 |i+1=>rfl
theorem ro_drop (l:List Rw)(o i:Nat):ro (l.drop o) i=ro l (o+i):=by simp[ro,List.getD,List.getElem?_drop]
structure Hm where
 nd:Nd
 full:List Rw
 off:Nat
def noHm:Hm:=⟨noNd,[],0⟩
def Hm.rows (h:Hm):List Rw:=h.full.drop h.off
def Hm.v (h:Hm):Hd:=⟨h.nd,h.rows⟩
def hm (l:List Hm)(i:Nat):Hm:=l.getD i noHm
def vls (l:List Hm):List Hd:=l.map Hm.v
theorem hm_lt {l:List Hm}{i:Nat}(h:i<l.length):hm l i=l[i]:=by simp[hm,List.getD,h]
theorem z1v (l:List Hm):(vls l).length=l.length:=by simp[vls]
theorem z4z (l:List Hm)(i:Nat):hd (vls l) i=(hm l i).v:=by
 simp only[hd,vls,hm,List.getD_eq_getElem?_getD,List.getElem?_map]
 cases l[i]? <;>rfl
def Hm.n (h:Hm):Nat:=h.full.length-h.off
theorem Hm.n_eq (h:Hm):h.n=h.rows.length:=by simp[Hm.n,Hm.rows]
def hmR (g:Bool)(f:Nat)(l:List Hm):Nat→List SV:=fun i=>[.int .i64 (hm l i).nd.id,.str (hm l i).nd.key,.int .u32 (hm l i).nd.word,.slc g f (i+1) (hm l i).off (hm l i).n]
def hmF (o:Bool)(l:List Hm):Nat→Sk.Obj:=fun i=> .row ⟨o,false,45,2,(hm l i).full.length,rws (hm l i).full⟩
theorem z87 (g:Bool)(f:Nat)(l:List Hm)(i:Nat):hmR g f l i=[.int .i64 (hm l i).nd.id,.str (hm l i).nd.key,.int .u32 (hm l i).nd.word,SV.slc g f (i+1) (hm l i).off (hm l i).n]:=rfl
theorem z8k (g:Bool)(f:Nat)(l:List Hm):(fun i=>[.int .i64 (hm l i).nd.id,.str (hm l i).nd.key,.int .u32 (hm l i).nd.word,SV.slc g f (i+1) (hm l i).off (hm l i).n])=hmR g f l:=rfl
theorem z86 (o:Bool)(l:List Hm)(i:Nat):hmF o l i= .row ⟨o,false,45,2,(hm l i).full.length,rws (hm l i).full⟩:=rfl
theorem hmR_ren (ρ:Nat→Nat)(g:Bool)(f:Nat)(l:List Hm):(fun i=>SV.renL ρ (hmR g f l i))=hmR g (ρ f) l:=by funext i;simp[hmR,SV.renL,SV.ren]
theorem z1r (ρ:Nat→Nat)(g:Bool)(f:Nat)(l:List Hm)(i:Nat):SV.renL ρ (hmR g f l i)=hmR g (ρ f) l i:=congrFun (hmR_ren ρ g f l) i
theorem z2t (m:Nat)(g:Bool)(f:Nat)(l:List Hm)(i:Nat):SV.ltL m (hmR g f l i)↔f<m:=by simp[hmR,SV.ltL,SV.lt]
theorem z15 (ρ:Nat→Nat)(o o':Bool)(l:List Hm)(i:Nat):zb ρ (hmF o l i) (hmF o' l i)↔(o'=true→o=true):=by
 simp[hmF,zb,zo,z19]
theorem z1h (m:Nat)(o:Bool)(l:List Hm)(i:Nat):(hmF o l i).lt m:=Obj.lt_row.2 fun q _=>z2h m _ q
theorem hmF_own (o:Bool)(l:List Hm)(i:Nat):(hmF o l i).own=o:=rfl
theorem z18 (o:Bool)(e:Go.TypeId)(sz:Nat)(l:List Hm)(k:Nat):(fam o e sz (hmF o l) k).own=o:=fam_own1 (hmF_own o l) k
theorem hmF_ren (ρ:Nat→Nat)(o:Bool)(l:List Hm):(fun i=>(hmF o l i).ren ρ)=hmF o l:=by
 funext i;simp[hmF,Obj.ren,Row.ren,z6m]
theorem hmR_renP (ρ:Nat→Nat)(g:Bool)(f j a:Nat)(l:List Hm)(i:Nat):SV.renPL (mvP ρ f j a) (hmR g f l i)=if i=j then [.int .i64 (hm l i).nd.id,.str (hm l i).nd.key,.int .u32 (hm l i).nd.word,SV.slc g a 0 (hm l i).off (hm l i).n] else [.int .i64 (hm l i).nd.id,.str (hm l i).nd.key,.int .u32 (hm l i).nd.word,SV.slc g (ρ f) (i+1) (hm l i).off (hm l i).n]:=by
 simp only[hmR,SV.renPL,SV.renP,mvP,true_and,Nat.add_right_cancel_iff]
 split<;>rfl
theorem hmR_renO (g:Bool)(ρ:Nat→Nat)(f j a f':Nat)(h:f'≠f)(l:List Hm)(i:Nat):SV.renPL (mvP ρ f j a) (hmR g f' l i)=hmR g (ρ f') l i:=by
 simp[hmR,SV.renPL,SV.renP,mvP,h]
theorem hmF_givesP (π:Pn)(o o':Bool)(l l':List Hm)(i:Nat)(h:o'=true→o=true)(e:hm l' i=hm l i):z11 π (hmF o l i) (hmF o' l' i):=⟨fun h2=>⟨h h2,rfl⟩,rfl,by rw[e];exact Nat.le_refl _,fun q _=>by rw[e];exact(z7g π _ q).symm⟩
def hoR (g:Bool)(f:Nat)(l:List Hd):Nat→List SV:=fun i=>[.int .i64 (hd l i).nd.id,.str (hd l i).nd.key,.int .u32 (hd l i).nd.word,.slc g f (i+1) 0 (hd l i).rows.length]
def hoF (o:Bool)(l:List Hd):Nat→Sk.Obj:=fun i=> .row ⟨o,false,45,2,(hd l i).rows.length,rws (hd l i).rows⟩
theorem hoR_ap (g:Bool)(f:Nat)(l:List Hd)(i:Nat):hoR g f l i=[.int .i64 (hd l i).nd.id,.str (hd l i).nd.key,.int .u32 (hd l i).nd.word,SV.slc g f (i+1) 0 (hd l i).rows.length]:=rfl
theorem hoR_fold (g:Bool)(f:Nat)(l:List Hd):(fun i=>[.int .i64 (hd l i).nd.id,.str (hd l i).nd.key,.int .u32 (hd l i).nd.word,SV.slc g f (i+1) 0 (hd l i).rows.length])=hoR g f l:=rfl
theorem hoF_ap (o:Bool)(l:List Hd)(i:Nat):hoF o l i= .row ⟨o,false,45,2,(hd l i).rows.length,rws (hd l i).rows⟩:=rfl
theorem hoR_ren (ρ:Nat→Nat)(g:Bool)(f:Nat)(l:List Hd):(fun i=>SV.renL ρ (hoR g f l i))=hoR g (ρ f) l:=by funext i;simp[hoR,SV.renL,SV.ren]
theorem z21 (ρ:Nat→Nat)(g:Bool)(f:Nat)(l:List Hd)(i:Nat):SV.renL ρ (hoR g f l i)=hoR g (ρ f) l i:=congrFun (hoR_ren ρ g f l) i
theorem z2u (m:Nat)(g:Bool)(f:Nat)(l:List Hd)(i:Nat):SV.ltL m (hoR g f l i)↔f<m:=by simp[hoR,SV.ltL,SV.lt]
theorem z1o (ρ:Nat→Nat)(o o':Bool)(l:List Hd)(i:Nat):zb ρ (hoF o l i) (hoF o' l i)↔(o'=true→o=true):=by
 simp[hoF,zb,zo,z19]
theorem z1j (m:Nat)(o:Bool)(l:List Hd)(i:Nat):(hoF o l i).lt m:=Obj.lt_row.2 fun q _=>z2h m _ q
theorem hoF_own (o:Bool)(l:List Hd)(i:Nat):(hoF o l i).own=o:=rfl
theorem z20 (o:Bool)(e:Go.TypeId)(sz:Nat)(l:List Hd)(k:Nat):(fam o e sz (hoF o l) k).own=o:=fam_own1 (hoF_own o l) k
theorem hoF_ren (ρ:Nat→Nat)(o:Bool)(l:List Hd):(fun i=>(hoF o l i).ren ρ)=hoF o l:=by
 funext i;simp[hoF,Obj.ren,Row.ren,z6m]
theorem z8l (ρ:Nat→Nat)(g:Bool)(f j a:Nat)(l:List Hd)(i:Nat):SV.renPL (mvP ρ f j a) (hoR g f l i)=if i=j then [.int .i64 (hd l i).nd.id,.str (hd l i).nd.key,.int .u32 (hd l i).nd.word,SV.slc g a 0 0 (hd l i).rows.length] else [.int .i64 (hd l i).nd.id,.str (hd l i).nd.key,.int .u32 (hd l i).nd.word,SV.slc g (ρ f) (i+1) 0 (hd l i).rows.length]:=by
 simp only[hoR,SV.renPL,SV.renP,mvP,true_and,Nat.add_right_cancel_iff]
 split<;>rfl
theorem z6r (π:Pn)(o o':Bool)(l l':List Hd)(i:Nat)(h:o'=true→o=true)(e:hd l' i=hd l i):z11 π (hoF o l i) (hoF o' l' i):=⟨fun h2=>⟨h h2,rfl⟩,rfl,by rw[e];exact Nat.le_refl _,fun q _=>by rw[e];exact(z7g π _ q).symm⟩
theorem hoF_newP (π:Pn)(n:Nat)(F:Nat→List SV)(l:List Hd)(i:Nat)(hn:(hd l i).rows.length=n)(e:∀q,q<n→F q=rws (hd l i).rows q):z11 π (.row ⟨true,false,45,2,n,F⟩) (hoF true l i):=⟨fun _=>⟨rfl,rfl⟩,rfl,by rw[hn];exact Nat.le_refl _,fun q hq=>by show F q=SV.renPL π (rws _ q);rw[e q (by rw[←hn];exact hq)];exact(z7g π _ q).symm⟩
theorem hd_append {l:List Hd}{x:Hd}{i:Nat}(h:i<l.length):hd (l++[x]) i=hd l i:=by simp[hd,List.getD,List.getElem?_append_left h]
theorem hd_last (l:List Hd)(x:Hd):hd (l++[x]) l.length=x:=by simp[hd,List.getD]
theorem hd_take {l:List Hd}{i q:Nat}(h:q<i):hd (l.take i) q=hd l q:=by simp[hd,List.getD,List.getElem?_take,h]
def ofV (l:List Hd):List Hm:=l.map fun h=>⟨h.nd,h.rows,0⟩
theorem z6l (l:List Hd):(ofV l).length=l.length:=by simp[ofV]
theorem z6o (l:List Hd)(i:Nat):hm (ofV l) i=⟨(hd l i).nd,(hd l i).rows,0⟩:=by
 simp only[hm,ofV,hd,List.getD_eq_getElem?_getD,List.getElem?_map]
 cases l[i]? <;>rfl
theorem vls_ofV (l:List Hd):vls (ofV l)=l:=by
 simp only[vls,ofV,List.map_map]
 conv=>rhs;rw[←List.map_id l]
 refine List.map_congr_left fun h _=> ?_;simp[Hm.v,Hm.rows]
theorem hoR_hm (f:Nat)(l:List Hd):hoR false f l=hmR false f (ofV l):=by
 funext i;rw[hoR_ap,z87,z6o];simp[Hm.n]
theorem hoF_hm (o:Bool)(l:List Hd):hoF o l=hmF o (ofV l):=by
 funext i;rw[hoF_ap,z86,z6o]
theorem hoR_wk {f m:Nat}(h:f<m)(l:List Hd)(i:Nat):SV.wkL (hoR true f l i) (hmR false f (ofV l) i)∧(∀s∈hmR false f (ofV l) i,s.scalar=true)∧SV.ltL m (hmR false f (ofV l) i):=by
 refine⟨?_,fun s hs=> ?_,(z2t _ _ _ _ _).2 h⟩
 ·rw[←hoR_hm];exact⟨rfl,rfl,rfl,⟨rfl,rfl,rfl,rfl⟩,trivial⟩
 ·rw[z87] at hs;simp only[List.mem_cons,List.not_mem_nil,or_false] at hs;rcases hs with rfl|rfl|rfl|rfl<;>rfl
end Go.Proofs

namespace Go.Proofs
open Go.Sk
theorem Tryz.tyHoldings:z2o Tryz.prog 66=⟨true,.slice 43,1,24,[]⟩:=by kernel_rfl
theorem app_ndsM {xs ys:List Nd}{n:Nat}(h:xs.length=n):app (nds xs) n (nds ys)=nds (xs++ys):=by
 subst h
 funext i
 simp only[app,nds,nd,List.getD]
 by_cases h:i<xs.length
 ·rw[if_pos h,List.getElem?_append_left h]
 ·rw[if_neg h,List.getElem?_append_right (by omega)]
theorem ndsL_take {l:List Hm}{i:Nat}(h:i<l.length):(z89 (vls l)).take (i+1)=(z89 (vls l)).take i++[(hm l i).nd]:=by
 rw[List.take_succ_eq_append_getElem (by rw[z6j,z1v];exact h)]
 congr 1
 simp[z89,vls,Hm.v,hm_lt h]
theorem MvIm.s {a:Prop}(h:a:=by simp[SV.wkL,SV.wk,z1i,z1b,Sk.get,Sk.find,Sk.one,zb.eq_1,zb.eq_2,zb.eq_3,zo,z1k,z1g,SV.renL,SV.ren,Obj.lt_row,SV.ltL,SV.lt,z7c,z3q,zw,z25,Obj.own.eq_1,Obj.own.eq_2,Obj.own.eq_3,Obj.own.eq_4,z1e,zn,zr,z1w,nds,Nd.sv,z14,zx,z3a,z3b,z28,z1r,z2t,z15,z1h,z18,z19,z2h]):a:=h
theorem MvIm.g {X:Cx}{fr:Fr}{H:AH}{fr1:Fr}{H1:AH}(ρ:Nat→Nat)(q:GvQ X ρ fr H fr1 H1:=by constructor<;>exact MvIm.s)(r:GvR X ρ H1:=by exact⟨rfl,rfl,Nat.le_of_ble_eq_true rfl,rfl⟩):z2v X ρ fr H fr1 H1:=gvS ρ q r
theorem MvIm.o {a c d:Prop}(r:a→c)(h:d)(e:Sd a d:=by simp only[stp,isQ,z4q,Sk.get,Sk.put,z24,zt,↓reduceIte,reduceCtorEq,Nat.reduceEqDiff,zc2,zc3,implies_true,forall_const,zc5,qop,grdK,zc4,List.getElem?_cons_zero,beq_self_eq_true,zc1,z13,cond_true,cond_false,z3x,Sk.find,Sk.one,z17,z1u,Kd.agg,Nat.reduceBEq,ite_self,Nat.zero_add,Nat.reduceAdd,Nat.reduceMul,Nat.reduceSub,Nat.reduceLT,Nat.reduceLeDiff,Nat.zero_le,ne_eq,Int.reduceToNat,exists_eq',spl,z29,SV.cells,SV.scalar,binK,z5o,z5n,intK,z2x,strK,z37,z5m,z3u,unK,z5p,z5i,z39,z3c,z5c,z3d,z3e,optK,z3g,bndK,z36,z38,z55,z3k,lenK,z1a.len,zq.n,z50,mmK,z1y,eop,z5s,srcK,z1f,z44,z3o,capK,z5t,z2c,z2q,z30,boxK,z2d,z3m,z31,updF,mkK,z5a,z1a.ofKd,zq.ofKd,z5b,z1a.add,z1a.okKd,zq.put,zq.okKd,zq.okP,z3f,z1a.has,zq.get,zq.z,Tryz.tyInt,Tryz.szInt,Tryz.tyStr,Tryz.tyU32,Tryz.tyNode,Tryz.szNode,Tryz.zNode,Tryz.tyNodes,Tryz.szNodes,z1e,zn,nds,Nd.sv,Tryz.tyRow,Tryz.szRow,Tryz.zRow,Tryz.tyRows,Tryz.szRows,Tryz.tyHd,Tryz.szHd,Tryz.zHd,Tryz.tyHds,Tryz.szHds,Tryz.tyHoldings,z87,z86,z8p,Tryz.tyErr,rowsOf_nd];(repeat(with_reducible apply Sd.and;exact z7));exact Sd.rfl):c:=r (e.f h)
theorem MvIm.rg {X:Cx}{Q:Exit→Fr→AH→Prop}{fr fr1:Fr}{H H1:AH}{l:List Code}{id:Nat}{ops:List Oper}(keep:List Nat)(h:Cs X l Q fr1 H1)(hd:z2b X.n ops=true:=by exact rfl)(e:∀K:Fr→AH→Prop,K fr1 H1→z5v X.P X.wrap X.m0 ops.toArray ops fr H (fun fr H=>K (prune keep fr) H):=by(intro K hK;(repeat(refine MvIm.o z5 ?_));exact za (z8 hK))):Cs X (.region id ops.toArray false::l) Q fr H:=rgS keep h hd e
theorem MvIm.rs {X:Cx}{Q:Exit→Fr→AH→Prop}{fr fr1:Fr}{H H1:AH}{l:List Code}{id:Nat}{ops:List Oper}{y:Code}(keep:List Nat)(h:Cs X (y::l) Q fr1 H1)(hd:z2b X.n ops=true:=by exact rfl)(e:∀K:Fr→AH→Prop,K fr1 H1→z5v X.P X.wrap X.m0 ops.toArray ops fr H (fun fr H=>K (prune keep fr) H):=by(intro K hK;(repeat(refine MvIm.o z5 ?_));exact za (z8 hK))):Cs X (.seq (.region id ops.toArray false) y::l) Q fr H:=Cs.seq (rgS keep h hd e)
theorem nodesP_spec (l:List Hm)(n:Nat)(hn:l.length=n)(hx:n≤1000000):
  ze Tryz.prog 48 [.slc false 0 0 0 n] ⟨2,[(0,Sk.one (.row ⟨false,false,43,4,n,hmR false 1 l⟩)),(1,(n+1,fam false 45 2 (hmF false l)))]⟩
   (fun s H1=>s= .slc true 2 0 0 n∧H1=⟨3,[(2,Sk.one (.row ⟨true,false,40,3,n,nds (z89 (vls l))⟩))]⟩):=by
 subst hn;refine ze.ofC false 19 [.tmp 2] Tryz.func48 rfl rfl Tryz.ntmps48 Tryz.results48 rfl ?_;intro w0 own0 β0 Q hQ hQn;simp only[z1n];refine MvIm.rs [0] ?_;refine MvIm.rs [0,3] ?_;refine Cs.seq ?_;refine MvIm.rs [3,6,7,8] ?_;refine Cs.nilO 3 40 3 (nds ((z89 (vls l)).take 0)) rfl ?_;dsimp only;refine Cs.block ?_;intro Q0 hN0 hX0 hR0 hE0;refine Cs.loop (σ:=Nat) (fun i=>i≤l.length) (fun i=>l.length-i) (fun i=>[(3,.slc true 2 0 0 i),(6,.slc false 0 0 0 l.length),(7,.int .i64 l.length),(8,.int .i64 i)]) (fun i=>⟨3,[(2,Sk.one (.row ⟨true,false,40,3,i,nds ((z89 (vls l)).take i)⟩)),(0,Sk.one (.row ⟨false,false,43,4,l.length,hmR false 1 l⟩)),(1,(l.length+1,fam false 45 2 (hmF false l)))]⟩) 0 (Nat.zero_le _) (ρ:=id) (MvIm.g id) ?_;rintro i hi QL1 hL1 hRL1 hEL1;refine MvIm.rs [3,6,7,8,9] ?_;refine Cs.seq ?_;refine Cs.cond _ rfl ?_ ?_
 ·intro h9;replace h9:=z6 h9;refine Cs.skip ?_;refine Cs.seq ?_;refine Cs.block ?_;intro Q1 hN1 hX1 hR1 hE1;refine MvIm.rs [3,5,6,7,8] ?_;refine MvIm.rg [3,6,7,8] ?_;refine Cs.nil ?_;refine hN1 _ _ ?_;refine MvIm.rg [3,6,7,8] ?_;refine Cs.nil ?_;refine hL1 _ _ ?_;rw[app_ndsM (by rw[List.length_take,z6j,z1v];omega),←ndsL_take (by omega),show(i:Int)+1=((i+1:Nat):Int) from by omega];exact⟨i+1,⟨by omega,by omega⟩,fun q=>if q=2 then 5 else q,(MvIm.g (fun q=>if q=2 then 5 else q))⟩
 ·intro h9
  refine Cs.exit ?_;refine hEL1 _ _ _ ?_;refine hX0 _ _ ?_;refine MvIm.rs [2] ?_;refine Cs.ret ?_;refine hQ _ _ ?_
  have hin:i=l.length:=by
   have:¬(i:Int)<l.length:=by simpa using h9
   omega
  rw[hin,List.take_of_length_le (by rw[z6j,z1v];omega)];refine zm.mk (H':=⟨3,[(2,Sk.one (.row ⟨true,false,40,3,l.length,nds (z89 (vls l))⟩))]⟩) (.inl rfl) ?_;refine zh ?_;refine⟨MvIm.s,(MvIm.g id),MvIm.s,?_⟩
  all_goals first|trivial|exact⟨rfl,trivial⟩
end Go.Proofs

namespace Go.Proofs
open Go.Sk
theorem z4d (l:List Rw)(o:Nat):srcF (rws l) o=rws (l.drop o):=by
 funext i
 rw[rws,ro_drop]
 cases o with
 |zero=>simp[srcF,rws]
 |succ o=>simp[srcF,rws]
theorem MvJm.s {a:Prop}(h:a:=by simp[SV.wkL,SV.wk,z1i,z1b,Sk.get,Sk.find,Sk.one,zb.eq_1,zb.eq_2,zb.eq_3,zo,z1k,z1g,SV.renL,SV.ren,Obj.lt_row,SV.ltL,SV.lt,z7c,z3q,zw,z25,Obj.own.eq_1,Obj.own.eq_2,Obj.own.eq_3,Obj.own.eq_4,z1e,zn,zr,z1w,nds,Nd.sv,z14,zx,z3a,z3b,z28,z15,z1h,z18,z19,z2h]):a:=h
theorem MvJm.g {X:Cx}{fr:Fr}{H:AH}{fr1:Fr}{H1:AH}(ρ:Nat→Nat)(q:GvQ X ρ fr H fr1 H1:=by constructor<;>exact MvJm.s)(r:GvR X ρ H1:=by exact⟨rfl,rfl,Nat.le_of_ble_eq_true rfl,rfl⟩):z2v X ρ fr H fr1 H1:=gvS ρ q r
theorem MvJm.o {a c d:Prop}(r:a→c)(h:d)(e:Sd a d:=by simp only[stp,isQ,z4q,Sk.get,Sk.put,z24,zt,↓reduceIte,reduceCtorEq,Nat.reduceEqDiff,zc2,zc3,implies_true,forall_const,zc5,qop,grdK,zc4,List.getElem?_cons_zero,beq_self_eq_true,zc1,z13,cond_true,cond_false,z3x,Sk.find,Sk.one,z17,z1u,Kd.agg,Nat.reduceBEq,ite_self,Nat.zero_add,Nat.reduceAdd,Nat.reduceMul,Nat.reduceSub,Nat.reduceLT,Nat.reduceLeDiff,Nat.zero_le,ne_eq,Int.reduceToNat,exists_eq',spl,z29,SV.cells,SV.scalar,binK,z5o,z5n,intK,z2x,strK,z37,z5m,z3u,unK,z5p,z5i,z39,z3c,z5c,z3d,z3e,optK,z3g,bndK,z36,z38,z55,z3k,lenK,z1a.len,zq.n,z50,mmK,z1y,eop,z5s,srcK,z1f,z44,z3o,capK,z5t,z2c,z2q,z30,boxK,z2d,z3m,z31,updF,mkK,z5a,z1a.ofKd,zq.ofKd,z5b,z1a.add,z1a.okKd,zq.put,zq.okKd,zq.okP,z3f,z1a.has,zq.get,zq.z,Tryz.tyInt,Tryz.szInt,Tryz.tyStr,Tryz.tyU32,Tryz.tyNode,Tryz.szNode,Tryz.zNode,Tryz.tyNodes,Tryz.szNodes,z1e,zn,nds,Nd.sv,Tryz.tyRow,Tryz.szRow,Tryz.zRow,Tryz.tyRows,Tryz.szRows,z86,z8p,Tryz.tyErr];(repeat(with_reducible apply Sd.and;exact z7));exact Sd.rfl):c:=r (e.f h)
theorem MvJm.rs {X:Cx}{Q:Exit→Fr→AH→Prop}{fr fr1:Fr}{H H1:AH}{l:List Code}{id:Nat}{ops:List Oper}{y:Code}(keep:List Nat)(h:Cs X (y::l) Q fr1 H1)(hd:z2b X.n ops=true:=by exact rfl)(e:∀K:Fr→AH→Prop,K fr1 H1→z5v X.P X.wrap X.m0 ops.toArray ops fr H (fun fr H=>K (prune keep fr) H):=by(intro K hK;(repeat(refine MvJm.o z5 ?_));exact za (z8 hK))):Cs X (.seq (.region id ops.toArray false) y::l) Q fr H:=Cs.seq (rgS keep h hd e)
theorem cloneRw_spec (l:List Hm)(j m o n:Nat)(hj:j<m)(hn:o+n≤(hm l j).full.length)(hx:(hm l j).full.length≤1000000):
  ze Tryz.prog 36 [.slc false 0 (j+1) o n] ⟨1,[(0,(m+1,fam false 45 2 (hmF false l)))]⟩
   (fun s H1=>s= .slc true 1 0 0 n∧H1=⟨2,[(1,Sk.one (.row ⟨true,false,45,2,n,rws ((hm l j).full.drop o)⟩))]⟩):=by
 refine ze.ofC false 5 [.tmp 2] Tryz.func36 rfl rfl Tryz.ntmps36 Tryz.results36 rfl ?_;intro w0 own0 β0 Q hQ hQn;simp only[z1n];refine MvJm.rs [0] ?_;refine MvJm.rs [2] ?_;refine Cs.ret ?_;refine hQ _ _ ?_;rw[z4d];refine zm.mk (H':=⟨2,[(1,Sk.one (.row ⟨true,false,45,2,n,rws ((hm l j).full.drop o)⟩))]⟩) (.inl rfl) ?_;refine zh ?_;refine⟨MvJm.s,(MvJm.g id),MvJm.s,?_⟩
 all_goals first|trivial|exact⟨rfl,trivial⟩
end Go.Proofs

namespace Go.Proofs
open Go.Sk
end Go.Proofs

namespace Go.Proofs
open Go.Sk
theorem Tryz.intU:Tryz.prog.underlying 3=some (.int .i64):=by kernel_rfl
theorem Tryz.strU:Tryz.prog.underlying 9=some .string:=by kernel_rfl
theorem Tryz.u32U:Tryz.prog.underlying 38=some (.int .u32):=by kernel_rfl
theorem eqNode (a b:Nd):EqT Tryz.prog 40 [.int .i64 a.id,.str a.key,.int .u32 a.word] [.int .i64 b.id,.str b.key,.int .u32 b.word]:=
 EqT.of [(false,3,0),(false,9,1),(false,38,2)] (by kernel_rfl) (by kernel_rfl) (by kernel_rfl) (by kernel_rfl)
  ⟨⟨rfl,rfl,by kernel_rfl,rfl,_,Tryz.intU⟩,⟨rfl,rfl,by kernel_rfl,Tryz.strU⟩,⟨rfl,rfl,by kernel_rfl,rfl,_,Tryz.u32U⟩,trivial⟩
theorem ba_beq (x y:ByteArray):(x==y)=decide (x=y):=by
 rw[←sEq_iff,sEq,←beq_toListBytes]
theorem eqL_node (a b:Nd):eqL [.int .i64 a.id,.str a.key,.int .u32 a.word] [.int .i64 b.id,.str b.key,.int .u32 b.word]=decide (a=b):=by
 cases a;cases b
 rw[Bool.eq_iff_iff];simp[eqL,eqS,ba_beq]
def cntK (key:ByteArray)(l:List Nd):Nat→Nat
 |0=>0
 |i+1=>cntK key l i+if sLt (nd l i).key key then 1 else 0
theorem cntK_le (key:ByteArray)(l:List Nd):∀i,cntK key l i≤i
 |0=>Nat.le_refl _
 |i+1=>by
  have:=cntK_le key l i;rw[cntK];split<;>omega
def okRk (xs:List Nd)(v:Int):Bool:=decide (0≤findI xs v) && z3n xs==0
def rkR (xs:List Nd)(v:Int):Nat:=if okRk xs v then cntK (findN xs v).key xs xs.length else 0
theorem okRk_not (xs:List Nd)(v:Int):(!decide (0≤findI xs v)|| !(z3n xs==0))= !okRk xs v:=by
 simp only[okRk,Bool.not_and]
theorem RotCm.t {s e:SV}{H g:AH}(q:AfQ s e H g:=by constructor<;>(simp only[z1x,after,z57,id,z2q,reduceCtorEq,Nat.reduceEqDiff,zc5,zc6,z5u,z2p,zw,Sk.one,Obj.own.eq_1,Obj.own.eq_2,Obj.own.eq_3,Obj.own.eq_4,Obj.ren.eq_1,Obj.ren.eq_2,Obj.ren_blk,Row.ren,SV.ren,SV.renL,↓reduceIte,Nat.reduceLT,Nat.reduceAdd,Nat.reduceSub,Tryz.tyInt,Tryz.szInt,Tryz.zInt,Tryz.tyInts,Tryz.szInts,Tryz.tyErr,Tryz.tyStr,Tryz.tyU32,Tryz.tyNode,Tryz.szNode,Tryz.zNode,Tryz.tyNodes,Tryz.szNodes,z1e,zn,nds,Nd.sv,z1t,z4l,idsBox,app_nds,app_ndsL,rowsOf_nd',app_zero,z6i,z4b];exact rfl)):AfQ s e H g:=q
theorem RotCm.c1 {P:Program}{f:FuncId}{args args0:List SV}{H0 H Y g:AH}{X e:SV}{dr:Bool}{W:List Nat}{k:SV→AH→Prop}(hF:ze P f args0 H0 fun s H1=>s=X∧H1=Y)(ρ:Nat→Nat)(h:k e g)(q:CaQ args args0 ρ H0 H dr W:=by constructor<;>exact RotBm.s)(r:CaR ρ H0 H:=by exact⟨rfl,rfl⟩)(b:AfQ (X.ren (z57 H0.nxt H.nxt ρ)) e (after H0.nxt ρ H0 H Y) g:=by exact RotCm.t):z4u P f args H dr W k:=c1S hF ρ h q r b
theorem RotCm.sd {a:Prop}(h:a:=by first|omega|(simp only[In64];omega)|(simp only[zc0,zc1,beq_iff_eq,beq_eq_false_iff_ne,bne_iff_ne,ne_eq,bne_eq_false_iff_eq,In64];omega)|(simp only[zc0,zc1,beq_iff_eq,beq_eq_false_iff_ne,bne_iff_ne,ne_eq,bne_eq_false_iff_eq,In64] at*;omega)|exact eqNode _ _):a:=h
theorem RotCm.ou {a d:Prop}(h:d)(e:Sd a d:=by simp only[resK,z4q,z3x,Nat.zero_add,zc2,ne_eq,Sk.get,Sk.find,Sk.one,List.getElem?_cons_zero,↓reduceIte,Nat.reduceEqDiff,resV,Tryz.tyNode,Kd.agg,Nat.reduceAdd,Nat.zero_le,Nat.reduceLeDiff];(repeat(with_reducible apply Sd.and;exact RotCm.sd));exact Sd.rfl):a:=e.f h
theorem RotCm.o {a c d:Prop}(r:a→c)(h:d)(e:Sd a d:=by simp only[stp,isQ,z4q,Sk.get,Sk.put,z24,zt,↓reduceIte,reduceCtorEq,Nat.reduceEqDiff,zc2,zc3,implies_true,forall_const,zc5,qop,grdK,zc4,List.getElem?_cons_zero,beq_self_eq_true,zc1,z13,cond_true,cond_false,z3x,Sk.find,Sk.one,z17,z1u,Kd.agg,Nat.reduceBEq,ite_self,Nat.zero_add,Nat.reduceAdd,Nat.reduceMul,Nat.reduceSub,Nat.reduceLT,Nat.reduceLeDiff,Nat.zero_le,ne_eq,Int.reduceToNat,exists_eq',spl,z29,SV.cells,SV.scalar,binK,z5o,z5n,intK,z2x,strK,z37,z5m,z3u,unK,z5p,z5i,z39,z3c,z5c,z3d,z3e,optK,z3g,bndK,z36,z38,z55,z3k,lenK,z1a.len,zq.n,z50,mmK,z1y,eop,z5s,srcK,z1f,z44,z3o,capK,z5t,z2c,z2q,z30,boxK,z2d,z3m,z31,updF,mkK,z5a,z1a.ofKd,zq.ofKd,z5b,z1a.add,z1a.okKd,zq.put,zq.okKd,zq.okP,z3f,z1a.has,zq.get,zq.z,Tryz.tyInt,Tryz.szInt,Tryz.zInt,Tryz.tyInts,Tryz.szInts,Tryz.tyErr,Tryz.tyStr,Tryz.tyU32,Tryz.tyNode,Tryz.szNode,Tryz.zNode,Tryz.tyNodes,Tryz.szNodes,z1e,zn,nds,Nd.sv,z1t,z4l,ints,idsBox,app_nds,app_ndsL,rowsOf_nd',app_zero];(repeat(with_reducible apply Sd.and;exact RotCm.sd));exact Sd.rfl):c:=r (e.f h)
theorem RotCm.rg {X:Cx}{Q:Exit→Fr→AH→Prop}{fr fr1:Fr}{H H1:AH}{l:List Code}{id:Nat}{ops:List Oper}(keep:List Nat)(h:Cs X l Q fr1 H1)(hd:z2b X.n ops=true:=by exact rfl)(e:∀K:Fr→AH→Prop,K fr1 H1→z5v X.P X.wrap X.m0 ops.toArray ops fr H (fun fr H=>K (prune keep fr) H):=by(intro K hK;(repeat(refine RotCm.o z5 ?_));exact za (z8 hK))):Cs X (.region id ops.toArray false::l) Q fr H:=rgS keep h hd e
theorem RotCm.rs {X:Cx}{Q:Exit→Fr→AH→Prop}{fr fr1:Fr}{H H1:AH}{l:List Code}{id:Nat}{ops:List Oper}{y:Code}(keep:List Nat)(h:Cs X (y::l) Q fr1 H1)(hd:z2b X.n ops=true:=by exact rfl)(e:∀K:Fr→AH→Prop,K fr1 H1→z5v X.P X.wrap X.m0 ops.toArray ops fr H (fun fr H=>K (prune keep fr) H):=by(intro K hK;(repeat(refine RotCm.o z5 ?_));exact za (z8 hK))):Cs X (.seq (.region id ops.toArray false) y::l) Q fr H:=Cs.seq (rgS keep h hd e)
theorem RotCm.s_cntK {a:Prop}(h:a:=by simp[SV.wkL,SV.wk,z1i,z1b,Sk.get,Sk.find,Sk.one,zb.eq_1,zb.eq_2,zb.eq_3,zo,z1k,z1g,SV.renL,SV.ren,Obj.lt_row,SV.ltL,SV.lt,z7c,z3q,zw,z25,Obj.own.eq_1,Obj.own.eq_2,Obj.own.eq_3,Obj.own.eq_4,z1e,zn,zr,z1w,nds,Nd.sv,z1t,z4l,ints,idsBox,cntK]):a:=h
theorem RotCm.g_cntK {X:Cx}{fr:Fr}{H:AH}{fr1:Fr}{H1:AH}(ρ:Nat→Nat)(q:GvQ X ρ fr H fr1 H1:=by constructor<;>exact RotCm.s_cntK)(r:GvR X ρ H1:=by exact⟨rfl,rfl,Nat.le_of_ble_eq_true rfl,rfl⟩):z2v X ρ fr H fr1 H1:=gvS ρ q r
set_option maxHeartbeats 1000000 in
theorem refRank_spec (xs:List Nd)(v:Int)(n:Nat)(hn:xs.length=n)(hx:n≤1000000):
  ze Tryz.prog 42 [.slc false 0 0 0 n,.int .i64 v] ⟨1,[(0,Sk.one (.row ⟨false,false,40,3,n,nds xs⟩))]⟩
   (fun s H1=>s= .tup [.int .i64 (rkR xs v),.bool (okRk xs v)]∧H1=⟨1,[]⟩):=by
 subst hn;refine ze.ofC false 40 [.tmp 4,.tmp 5] Tryz.func42 rfl rfl Tryz.ntmps42 Tryz.results42 rfl ?_;intro w0 own0 β0 Q hQ hQn;simp only[z1n];refine RotCm.rs [0,1] ?_;refine sg [0,6,7] rfl ?_;intro K hK;iterate 2 (refine RotCm.o z5 ?_)
 refine RotCm.o z5 ?_;refine RotCm.c1 (refFind_spec xs v xs.length rfl hx) (id) ?_;iterate 6 (refine RotCm.o z5 ?_)
 refine za (z8 (hK _ _ ?_));clear hK K;refine Cs.seq ?_;refine sg [0,6,22] rfl ?_;intro K hK
 have hk2:∀B:Bool,B=(!okRk xs v)→K [(0,.slc false 0 0 0 xs.length),(6,.ptr 1 0 0 0),(22,.bool B)] ⟨2,[(1,Sk.one (.row ⟨true,true,40,3,1,fun _=>[.int .i64 (findN xs v).id,.str (findN xs v).key,.int .u32 (findN xs v).word]⟩)),(0,Sk.one (.row ⟨false,false,40,3,xs.length,nds xs⟩))]⟩:=by
  intro B hB;subst hB;refine hK _ _ ?_;clear hK K;refine Cs.cond _ rfl ?_ ?_
  ·intro h22;rw[Bool.not_eq_true'] at h22;refine RotCm.rs [4,5] ?_;refine Cs.ret ?_;refine hQ _ _ ?_;refine zm.mk (H':=⟨1,[]⟩) (.inl rfl) ?_;refine RotCm.ou ?_;refine⟨RotBm.s,(RotBm.g id),RotBm.s,?_⟩;rw[rkR,h22,if_neg Bool.false_ne_true]
   first|trivial|exact⟨rfl,trivial⟩
  ·intro h22;rw[Bool.not_eq_false'] at h22;refine Cs.skip ?_;refine RotCm.rs [0,6,8] ?_;refine Cs.seq ?_;refine RotCm.rs [0,6,8,9] ?_;refine Cs.block ?_;intro Q0 hN0 hX0 hR0 hE0;refine Cs.loop (σ:=Nat) (fun i=>i≤xs.length) (fun i=>xs.length-i) (fun i=>[(0,.slc false 0 0 0 xs.length),(6,.ptr 1 0 0 0),(8,.int .i64 (cntK (findN xs v).key xs i)),(9,.int .i64 i)]) (fun i=>⟨2,[(1,Sk.one (.row ⟨true,true,40,3,1,fun _=>[.int .i64 (findN xs v).id,.str (findN xs v).key,.int .u32 (findN xs v).word]⟩)),(0,Sk.one (.row ⟨false,false,40,3,xs.length,nds xs⟩))]⟩) 0 (Nat.zero_le _) (ρ:=id) (RotCm.g_cntK id) ?_;rintro i hi QL1 hL1 hRL1 hEL1;refine Cs.seq ?_;refine RotCm.rs [0,6,8,9,26] ?_;refine Cs.cond _ rfl ?_ ?_
   ·intro h26;replace h26:=z6 h26;have hc:=cntK_le (findN xs v).key xs i;refine Cs.skip ?_;refine Cs.seq ?_;refine Cs.block ?_;intro Q1 hN1 hX1 hR1 hE1;refine Cs.seq ?_;refine Cs.regDraw [0,6,8,9,36] [0,1,2,3,4,5,6,7] [[],[],[0,1],[0,1,2],[0,1,2,3],[],[5],[0,1,2,3,4,5,6]] [[],[],[],[],[],[],[],[]] [[],[],[],[],[],[],[],[]] Tryz.mo rfl rfl rfl (by kernel_rfl) (by kernel_rfl) (by kernel_rfl) rfl (by kernel_rfl) ?_;intro K hK;iterate 8 (refine RotCm.o (zf _ [] [] rfl rfl rfl) ?_)
    refine z2n (z8 (hK _ _ ?_));clear hK K;refine Cs.cond _ rfl ?_ ?_
    ·intro h36;have ho:cntK (findN xs v).key xs (i+1)=cntK (findN xs v).key xs i+1:=by rw[cntK,if_pos h36]
     refine RotCm.rg [0,6,8,9] ?_;refine Cs.nil ?_;refine hN1 _ _ ?_;refine RotCm.rg [0,6,8,9] ?_;refine Cs.nil ?_;refine hL1 _ _ ?_;rw[show(i:Int)+1=((i+1:Nat):Int) from by omega,show(cntK (findN xs v).key xs i:Int)+1=((cntK (findN xs v).key xs i+1:Nat):Int) from by omega];refine⟨i+1,⟨by omega,by omega⟩,id,?_⟩;simp only[ho];exact(RotBm.g id)
    ·intro h36;have ho:cntK (findN xs v).key xs (i+1)=cntK (findN xs v).key xs i:=by rw[cntK,if_neg (by rw[h36];exact Bool.false_ne_true),Nat.add_zero]
     refine Cs.skip ?_;refine Cs.nil ?_;refine hN1 _ _ ?_;refine RotCm.rg [0,6,8,9] ?_;refine Cs.nil ?_;refine hL1 _ _ ?_;rw[show(i:Int)+1=((i+1:Nat):Int) from by omega];refine⟨i+1,⟨by omega,by omega⟩,id,?_⟩;simp only[ho];exact(RotBm.g id)
   ·intro h26;replace h26:=z6 h26;refine Cs.exit ?_;refine hEL1 _ _ _ ?_;refine hX0 _ _ ?_;refine RotCm.rs [4,5] ?_;refine Cs.ret ?_;refine hQ _ _ ?_;have hin:i=xs.length:=by omega
    subst hin;refine zm.mk (H':=⟨1,[]⟩) (.inl rfl) ?_;refine RotCm.ou ?_;refine⟨RotBm.s,(RotBm.g id),RotBm.s,?_⟩;rw[rkR,if_pos h22,h22]
    first|trivial|exact⟨rfl,trivial⟩
 iterate 4 (refine RotCm.o z5 ?_)
 refine z5 ?_;refine z1d rfl rfl ?_;refine zy ?_;refine zu ?_ ?_
 ·intro hg4
  first
   |(simp at hg4;done)
   |skip
    try replace hg4:=z6 hg4
    refine RotCm.o id ?_;refine RotCm.c1 (refIs_spec xs xs.length rfl hx) (id) ?_;iterate 2 (refine RotCm.o z5 ?_)
    refine za ?_;refine z8 ?_;refine hk2 _ ?_
    first|exact okRk_not xs v|(rw[←okRk_not];simp at hg4 ⊢;simp[hg4])|(rw[←okRk_not];simp_all)
 ·intro hg4;refine⟨.bool false,?_⟩
  first
   |(simp at hg4;done)
   |skip
    try replace hg4:=z6 hg4
    iterate 2 (refine RotCm.o z5 ?_)
    refine za ?_;refine z8 ?_;refine hk2 _ ?_
    first|exact okRk_not xs v|(rw[←okRk_not];simp at hg4 ⊢;simp[hg4])|(rw[←okRk_not];simp_all)
end Go.Proofs

namespace Go.Sk
open Go.RowKit
def EqIn (P:Program)(K:Nat)(t:TypeId)(la lb:List SV):Prop:=
 ∀(d:Nat),K≤d→∀(β:Env) (xs ys:List Value),z4i β la xs→z4i β lb ys→∀w:World,(Op.equalIn d t (.agg xs.toArray) (.agg ys.toArray)).run P w= .ok (eqL la lb) w
inductive FldsEq (P:Program) (K:Nat):List (Bool×TypeId×Nat)→Nat→List SV→List SV→Prop where
 |nil (i:Nat):FldsEq P K [] i [] []
 |sc {t:TypeId} {fs:List (Bool×TypeId×Nat)} {i:Nat} {a c:SV} {la lb:List SV} (h1:isAggT P t=some false) (h2:scEq P t a c) (h:FldsEq P K fs (i+1) la lb):FldsEq P K ((false,t,i)::fs) i (a::la) (c::lb)
 |ag {t:TypeId} {fs:List (Bool×TypeId×Nat)} {i n:Nat} {la1 lb1 la lb:List SV} (h1:isAggT P t=some true) (h2:z4n P t=n) (h3:n≠0) (h4:la1.length=n) (h5:lb1.length=n) (h6:EqIn P K t la1 lb1) (h:FldsEq P K fs (i+n) la lb):
   FldsEq P K ((false,t,i)::fs) i (la1++la) (lb1++lb)
theorem eqL_append:∀(a c b d:List SV),a.length=c.length→eqL (a++b) (c++d)=(eqL a c && eqL b d)
 |[],[],b,d,_=>by simp[eqL]
 |x::a,y::c,b,d,h=>by
  rw[List.cons_append,List.cons_append,eqL_cons,eqL_cons,eqL_append a c b d (by simpa using h),Bool.and_assoc]
 |[],_::_,_,_,h=>by simp at h
 |_::_,[],_,_,h=>by simp at h
theorem denL_split {β:Env}:∀{l l':List SV} {vs:List Value},z4i β (l++l') vs→∃u v,vs=u++v∧z4i β l u∧z4i β l' v
 |[],_,vs,h=>⟨[],vs,rfl,rfl,h⟩
 |s::l,l',vs,h=>by
  simp only[List.cons_append,z4i] at h;obtain⟨v,r,hv,hr,rfl⟩:=h;obtain⟨u,u',rfl,h1,h2⟩:=denL_split hr;exact⟨v::u,u',rfl,⟨v,u,hv,h1,rfl⟩,h2⟩
theorem run_partA {P:Program}{t:TypeId}{n:Nat}(ha:isAggT P t=some true)(hn:z4n P t=n)(h0:n≠0)(pre u r:List Value)(hu:u.length=n)(w:World):(part t (pre++(u++r)).toArray pre.length).run P w= .ok (.agg u.toArray) w:=by
 obtain⟨inf,hi,hi2⟩:=z6n (P:=P) (t:=t) (by omega);unfold isAggT at ha
 cases hd:P.underlying t with
 |none=>simp[hd] at ha
 |some d=>
  have hda:(kdOf d).agg=true:=by simpa [hd] using ha
  have hs:inf.size=u.length:=by omega
  simp[part,z8m hd,hda,z3h hi,hs,List.extract_eq_take_drop]
theorem run_eqFieldsN {P:Program}{β:Env}{K:Nat}(d:Nat)(hK:K≤d)(h1K:1≤d)(w:World):∀(fs:List Field) (la lb:List SV) (pre pre' ra rb:List Value),FldsEq P K (fs.map fun f=>(f.name== "_",f.type,f.offset)) pre.length la lb→pre.length=pre'.length→z4i β la ra→z4i β lb rb→
  (Op.eqFields d (pre++ra).toArray (pre'++rb).toArray fs).run P w= .ok (eqL la lb) w
 |[],la,lb,pre,pre',ra,rb,h,hl,ha,hc=>by
  cases h
  simp[Op.eqFields,eqL]
 |f::fs,la,lb,pre,pre',ra,rb,h,hl,ha,hc=>by
  simp only[List.map_cons] at h
  generalize hb:(f.name== "_")=bb at h
  generalize ho:f.offset=oo at h
  generalize ht:f.type=tt at h
  cases h with
  |sc h1 h2 h5=>
   simp only[z4i] at ha hc;obtain⟨va,ra,hva,hra,rfl⟩:=ha;obtain⟨vc,rc,hvc,hrc,rfl⟩:=hc;have hn:f.name≠ "_" :=by simpa using hb
   have p1:=run_part h1 pre va ra w;have p2:=run_part h1 pre' vc rc w;rw[←hl] at p2;have ih:=run_eqFieldsN d hK h1K w fs _ _ (pre++[va]) (pre'++[vc]) ra rc (by simpa using h5) (by simp[hl]) hra hrc;simp only[List.append_assoc,List.singleton_append] at ih;obtain⟨d',rfl⟩:∃d',d=d'+1:=⟨d-1,by omega⟩;simp only[Op.eqFields,if_pos hn,ht,ho,Sem.run_bind,p1,p2,Result.andThen_ok,run_scEq h2 hva hvc,eqL_cons]
   cases eqS _ _ with
   |false=>simp
   |true=>simpa using ih
  |ag h1 h2 h3 h4 h5 h6 h7=>
   obtain⟨u,ra,rfl,hu,hra⟩:=denL_split ha;obtain⟨u',rc,rfl,hu',hrc⟩:=denL_split hc;have hn:f.name≠ "_" :=by simpa using hb
   have hul:=z4a hu;have hul':=z4a hu';have p1:=run_partA h1 h2 h3 pre u ra (by omega) w;have p2:=run_partA h1 h2 h3 pre' u' rc (by omega) w;rw[←hl] at p2;have ih:=run_eqFieldsN d hK h1K w fs _ _ (pre++u) (pre'++u') ra rc (by rw[List.length_append,hul,h4];exact h7) (by simp[hl];omega) hra hrc;simp only[List.append_assoc] at ih;simp only[Op.eqFields,if_pos hn,ht,ho,Sem.run_bind,p1,p2,Result.andThen_ok,h6 d hK β u u' hu hu' w];rw[eqL_append _ _ _ _ (by omega)]
   cases eqL _ _ with
   |false=>simp
   |true=>simpa using ih
theorem EqIn.of {P:Program}{t:TypeId}{la lb:List SV}(K:Nat)(hK:1≤K)(fs:List (Bool×TypeId×Nat))(hh:P.stoodInHeld t=false)(hu:P.underlying t=some (.struct (P.fieldsOf t)))
  (hf:((P.fieldsOf t).toList.map fun f=>(f.name== "_",f.type,f.offset))=fs) (h:FldsEq P K fs 0 la lb):EqIn P (K+1) t la lb:=by
 intro d hd β xs ys hx hy w;obtain⟨d',rfl⟩:∃d',d=d'+1:=⟨d-1,by omega⟩;rw[run_equalIn_struct w d' t _ _ hu hh];subst hf;exact run_eqFieldsN d' (by omega) (by omega) w _ la lb [] [] xs ys h rfl hx hy
theorem EqIn.top {P:Program}{t:TypeId}{la lb:List SV}{K:Nat}(hK:K≤10000)(hg:P.eqGuardType P.depth t=false)(h:EqIn P K t la lb):EqT P t la lb:=by
 intro β xs ys hx hy x y op w _;simp only[Sem.run_bind,run_eqGuard_agg w op t x y _ _ hg,Result.andThen_ok];exact h 10000 hK β xs ys hx hy w
end Go.Sk

namespace Go.Proofs
open Go.Sk
theorem Tryz.tyBool:z2o Tryz.prog 4=⟨true,.bool,1,1,[]⟩:=by kernel_rfl
theorem Tryz.tyBd:z2o Tryz.prog 55=⟨true,.struct,2,24,[(0,some false,1),(1,some false,1)]⟩:=by kernel_rfl
theorem Tryz.szBd:z4n Tryz.prog 55=2:=by kernel_rfl
theorem Tryz.zBd:z6d Tryz.prog 55=some [.str ⟨#[]⟩,.bool false]:=by kernel_rfl
theorem Tryz.tyRg:z2o Tryz.prog 57=⟨true,.struct,4,48,[(0,some true,2),(2,some true,2)]⟩:=by kernel_rfl
theorem Tryz.szRg:z4n Tryz.prog 57=4:=by kernel_rfl
theorem Tryz.zRg:z6d Tryz.prog 57=some [.str ⟨#[]⟩,.bool false,.str ⟨#[]⟩,.bool false]:=by kernel_rfl
structure Rg where
 lk:ByteArray
 lt:Bool
 hk:ByteArray
 ht:Bool
deriving DecidableEq
def Rg.sv (r:Rg):List SV:=[.str r.lk,.bool r.lt,.str r.hk,.bool r.ht]
def noRg:Rg:=⟨⟨#[]⟩,false,⟨#[]⟩,false⟩
def ivL (l:List Nd)(i:Nat):Rg:=⟨if 0<i then(nd l i).key else⟨#[]⟩,false,if i+1<l.length then(nd l (i+1)).key else⟨#[]⟩,!decide (i+1<l.length)⟩
def ivN (xs:List Nd)(v:Int):Rg:=if rkI xs v<0 then noRg else ivL (srtN xs) (rkI xs v).toNat
theorem z59 {a:Prop}(h:a:=by simp[SV.wkL,SV.wk,z1i,z1b,Sk.get,Sk.find,Sk.one,zb.eq_1,zb.eq_2,zb.eq_3,zo,z1k,z1g,SV.renL,SV.ren,Obj.lt_row,SV.ltL,SV.lt,z7c,z3q,zw,z25,Obj.own.eq_1,Obj.own.eq_2,Obj.own.eq_3,Obj.own.eq_4,z1e,zn,zr,z1w,nds,Nd.sv,z1t,z4l,ints]):a:=h
theorem RotDm.t {s e:SV}{H g:AH}(q:AfQ s e H g:=by constructor<;>(simp only[z1x,after,z57,id,z2q,reduceCtorEq,Nat.reduceEqDiff,zc5,zc6,z5u,z2p,zw,Sk.one,Obj.own.eq_1,Obj.own.eq_2,Obj.own.eq_3,Obj.own.eq_4,Obj.ren.eq_1,Obj.ren.eq_2,Obj.ren_blk,Row.ren,SV.ren,SV.renL,↓reduceIte,Nat.reduceLT,Nat.reduceAdd,Nat.reduceSub,Tryz.tyInt,Tryz.szInt,Tryz.zInt,Tryz.tyInts,Tryz.szInts,Tryz.tyErr,Tryz.tyBool,Tryz.tyStr,Tryz.szStr,Tryz.tyU32,Tryz.tyNode,Tryz.szNode,Tryz.zNode,Tryz.tyNodes,Tryz.szNodes,Tryz.tyBd,Tryz.szBd,Tryz.zBd,Tryz.tyRg,Tryz.szRg,Tryz.zRg,z1e,zn,nds,Nd.sv,z1t,z4l,z6i,z4b];exact rfl)):AfQ s e H g:=q
theorem RotDm.c1 {P:Program}{f:FuncId}{args args0:List SV}{H0 H Y g:AH}{X e:SV}{dr:Bool}{W:List Nat}{k:SV→AH→Prop}(hF:ze P f args0 H0 fun s H1=>s=X∧H1=Y)(ρ:Nat→Nat)(h:k e g)(q:CaQ args args0 ρ H0 H dr W:=by constructor<;>exact z59)(r:CaR ρ H0 H:=by exact⟨rfl,rfl⟩)(b:AfQ (X.ren (z57 H0.nxt H.nxt ρ)) e (after H0.nxt ρ H0 H Y) g:=by exact RotDm.t):z4u P f args H dr W k:=c1S hF ρ h q r b
theorem RotDm.ou {a d:Prop}(h:d)(e:Sd a d:=by simp only[resK,z4q,z3x,Nat.zero_add,zc2,ne_eq,Sk.get,Sk.find,Sk.one,List.getElem?_cons_zero,↓reduceIte,Nat.reduceEqDiff,resV,Tryz.tyRg,Kd.agg,Nat.reduceAdd,Nat.zero_le,Nat.reduceLeDiff];(repeat(with_reducible apply Sd.and;exact z7));exact Sd.rfl):a:=e.f h
theorem RotDm.g {X:Cx}{fr:Fr}{H:AH}{fr1:Fr}{H1:AH}(ρ:Nat→Nat)(q:GvQ X ρ fr H fr1 H1:=by constructor<;>exact z59)(r:GvR X ρ H1:=by exact⟨rfl,rfl,Nat.le_of_ble_eq_true rfl,rfl⟩):z2v X ρ fr H fr1 H1:=gvS ρ q r
theorem z6g {a c d:Prop}(r:a→c)(h:d)(e:Sd a d:=by simp only[stp,isQ,z4q,Sk.get,Sk.put,z24,zt,↓reduceIte,reduceCtorEq,Nat.reduceEqDiff,zc2,zc3,implies_true,forall_const,zc5,qop,grdK,zc4,List.getElem?_cons_zero,beq_self_eq_true,zc1,z13,cond_true,cond_false,z3x,Sk.find,Sk.one,z17,z1u,Kd.agg,Nat.reduceBEq,ite_self,Nat.zero_add,Nat.reduceAdd,Nat.reduceMul,Nat.reduceSub,Nat.reduceLT,Nat.reduceLeDiff,Nat.zero_le,ne_eq,Int.reduceToNat,exists_eq',spl,z29,SV.cells,SV.scalar,binK,z5o,z5n,intK,z2x,strK,z37,z5m,z3u,unK,z5p,z5i,z39,z3c,z5c,z3d,z3e,optK,z3g,bndK,z36,z38,z55,z3k,lenK,z1a.len,zq.n,z50,mmK,z1y,eop,z5s,srcK,z1f,z44,z3o,capK,z5t,z2c,z2q,z30,boxK,z2d,z3m,z31,updF,mkK,z5a,z1a.ofKd,zq.ofKd,z5b,z1a.add,z1a.okKd,zq.put,zq.okKd,zq.okP,z3f,z1a.has,zq.get,zq.z,Tryz.tyInt,Tryz.szInt,Tryz.zInt,Tryz.tyInts,Tryz.szInts,Tryz.tyErr,Tryz.tyBool,Tryz.tyStr,Tryz.szStr,Tryz.tyU32,Tryz.tyNode,Tryz.szNode,Tryz.zNode,Tryz.tyNodes,Tryz.szNodes,Tryz.tyBd,Tryz.szBd,Tryz.zBd,Tryz.tyRg,Tryz.szRg,Tryz.zRg,z1e,zn,nds,Nd.sv,z1t,z4l,ints];(repeat(with_reducible apply Sd.and;exact z7));exact Sd.rfl):c:=r (e.f h)
theorem RotDm.rg {X:Cx}{Q:Exit→Fr→AH→Prop}{fr fr1:Fr}{H H1:AH}{l:List Code}{id:Nat}{ops:List Oper}(keep:List Nat)(h:Cs X l Q fr1 H1)(hd:z2b X.n ops=true:=by exact rfl)(e:∀K:Fr→AH→Prop,K fr1 H1→z5v X.P X.wrap X.m0 ops.toArray ops fr H (fun fr H=>K (prune keep fr) H):=by(intro K hK;(repeat(refine z6g z5 ?_));exact za (z8 hK))):Cs X (.region id ops.toArray false::l) Q fr H:=rgS keep h hd e
theorem z47 {X:Cx}{Q:Exit→Fr→AH→Prop}{fr fr1:Fr}{H H1:AH}{l:List Code}{id:Nat}{ops:List Oper}{y:Code}(keep:List Nat)(h:Cs X (y::l) Q fr1 H1)(hd:z2b X.n ops=true:=by exact rfl)(e:∀K:Fr→AH→Prop,K fr1 H1→z5v X.P X.wrap X.m0 ops.toArray ops fr H (fun fr H=>K (prune keep fr) H):=by(intro K hK;(repeat(refine z6g z5 ?_));exact za (z8 hK))):Cs X (.seq (.region id ops.toArray false) y::l) Q fr H:=Cs.seq (rgS keep h hd e)
set_option maxHeartbeats 1000000 in
theorem interval_spec (xs:List Nd)(v:Int)(n:Nat)(hn:xs.length=n)(hx:n≤1000000):
  ze Tryz.prog 50 [.slc false 0 0 0 n,.int .i64 v] ⟨1,[(0,Sk.one (.row ⟨false,false,40,3,n,nds xs⟩))]⟩
   (fun s H1=>s= .tup [.agg (ivN xs v).sv,.bool (decide (0≤rkI xs v))]∧H1=⟨1,[]⟩):=by
 subst hn;refine ze.ofC false 43 [.cell 4 57,.tmp 5] Tryz.func50 rfl rfl Tryz.ntmps50 Tryz.results50 rfl ?_;intro w0 own0 β0 Q hQ hQn;simp only[z1n];refine z47 [0,1,4] ?_;refine sg [4,6,7] rfl ?_;intro K hK;iterate 2 (refine z6g z5 ?_)
 refine z6g z5 ?_;refine RotDm.c1 (place_spec xs v xs.length rfl hx) (id) ?_;iterate 5 (refine z6g z5 ?_)
 refine za (z8 (hK _ _ ?_));clear hK K;refine Cs.seq ?_;refine z47 [4,6,7,16] ?_;refine Cs.cond _ rfl ?_ ?_
 ·intro h16;replace h16:=z6 h16;refine z47 [4,5] ?_;refine Cs.ret ?_;refine hQ _ _ ?_;refine zm.mk (H':=⟨1,[]⟩) (.inl rfl) ?_;refine RotDm.ou ?_;refine⟨z59,(RotDm.g id),z59,?_⟩;rw[ivN,if_pos h16,decide_eq_false (by omega)]
  first|trivial|exact⟨rfl,trivial⟩
 ·intro h16;replace h16:=z6 h16
  have hc:z3n xs=0:=by
   rw[rkI] at h16
   split at h16
   ·assumption
   ·omega
  have hp:plc xs=srtN xs:=by rw[plc,if_pos hc]
  obtain⟨k,hk⟩:∃k:Nat,rkI xs v=k:=⟨(rkI xs v).toNat,by omega⟩
  have hkl:k<(srtN xs).length:=by
   rw[rkI,if_pos hc,findI] at hk;rcases idxB_cases (srtN xs).length (fun i=>decide ((nd (srtN xs) i).id=v)) with⟨h,_⟩|⟨j,h,h1,_⟩
   ·omega
   ·omega
  have hsl:=z82 xs;have hiv:ivN xs v=ivL (srtN xs) k:=by rw[ivN,if_neg (by omega),hk];rfl
  rw[hk,hp] at*;refine Cs.skip ?_;refine z47 [4,6,7,8] ?_;refine Cs.seq ?_;refine z47 [4,6,7,8,21] ?_;refine Cs.cond _ rfl ?_ ?_
  ·intro h21;replace h21:=z6 h21;refine RotDm.rg [4,6,7,8] ?_;refine Cs.seq ?_;refine z47 [4,6,7,8,33] ?_;refine Cs.cond _ rfl ?_ ?_
   ·intro h33;replace h33:=z6 h33;refine Cs.reg [4,8] rfl ?_;intro K hK;iterate 6 (refine z6g z5 ?_)
    rw[show((k:Int)+1).toNat=k+1 from by omega];repeat(with_reducible apply ai;exact z7)
    iterate 3 (refine z6g z5 ?_)
    refine za (z8 (hK _ _ ?_));clear hK K;refine z47 [4,5] ?_;refine Cs.ret ?_;refine hQ _ _ ?_;refine zm.mk (H':=⟨1,[]⟩) (.inl rfl) ?_;refine RotDm.ou ?_;refine⟨z59,(RotDm.g id),z59,?_⟩;rw[hiv,ivL,if_pos (by omega),if_pos (by omega),decide_eq_true (by omega),decide_eq_true (by omega)]
    first|trivial|exact⟨rfl,trivial⟩
   ·intro h33;replace h33:=z6 h33;refine Cs.skip ?_;refine z47 [4,5] ?_;refine Cs.ret ?_;refine hQ _ _ ?_;refine zm.mk (H':=⟨1,[]⟩) (.inl rfl) ?_;refine RotDm.ou ?_;refine⟨z59,(RotDm.g id),z59,?_⟩;rw[hiv,ivL,if_pos (by omega),if_neg (by omega),decide_eq_false (by omega),decide_eq_true (by omega)]
    first|trivial|exact⟨rfl,trivial⟩
  ·intro h21;replace h21:=z6 h21;refine Cs.skip ?_;refine Cs.seq ?_;refine z47 [4,6,7,8,33] ?_;refine Cs.cond _ rfl ?_ ?_
   ·intro h33;replace h33:=z6 h33;refine Cs.reg [4,8] rfl ?_;intro K hK;iterate 6 (refine z6g z5 ?_)
    rw[show((k:Int)+1).toNat=k+1 from by omega];repeat(with_reducible apply ai;exact z7)
    iterate 3 (refine z6g z5 ?_)
    refine za (z8 (hK _ _ ?_));clear hK K;refine z47 [4,5] ?_;refine Cs.ret ?_;refine hQ _ _ ?_;refine zm.mk (H':=⟨1,[]⟩) (.inl rfl) ?_;refine RotDm.ou ?_;refine⟨z59,(RotDm.g id),z59,?_⟩;rw[hiv,ivL,if_neg (by omega),if_pos (by omega),decide_eq_true (by omega),decide_eq_true (by omega)]
    first|trivial|exact⟨rfl,trivial⟩
   ·intro h33;replace h33:=z6 h33;refine Cs.skip ?_;refine z47 [4,5] ?_;refine Cs.ret ?_;refine hQ _ _ ?_;refine zm.mk (H':=⟨1,[]⟩) (.inl rfl) ?_;refine RotDm.ou ?_;refine⟨z59,(RotDm.g id),z59,?_⟩;rw[hiv,ivL,if_neg (by omega),if_neg (by omega),decide_eq_false (by omega),decide_eq_true (by omega)]
    first|trivial|exact⟨rfl,trivial⟩
theorem cntK_lt (key:ByteArray)(l:List Nd){j:Nat}(hj:sLt (nd l j).key key=false):∀i,j<i→cntK key l i<i
 |0,h=>by omega
 |i+1,h=>by
  rw[cntK]
  by_cases c:j=i
  ·subst c;have:=cntK_le key l j;rw[hj,if_neg Bool.false_ne_true];omega
  ·have:=cntK_lt key l hj i (by omega)
   split<;>omega
theorem findI_cases (xs:List Nd)(v:Int):(findI xs v= -1∧∀q,q<xs.length→(nd xs q).id≠v)∨∃j:Nat,findI xs v=j∧j<xs.length∧(nd xs j).id=v∧findN xs v=nd xs j∧∀q,q<j→(nd xs q).id≠v:=by
 rcases idxB_cases xs.length (fun i=>decide ((nd xs i).id=v)) with⟨h,h1⟩|⟨j,h,h1,h2,h3⟩
 ·exact .inl ⟨h,fun q hq=>by simpa using h1 q hq⟩
 ·refine .inr ⟨j,h,h1,by simpa using h2,?_,fun q hq=>by simpa using h3 q hq⟩;have h':findI xs v=j:=h;rw[findN,if_neg (by omega),h'];rfl
theorem rkR_lt {xs:List Nd}{v:Int}(h:okRk xs v=true):rkR xs v<xs.length:=by
 have h0:=h;simp only[okRk,Bool.and_eq_true,decide_eq_true_eq] at h0;rw[rkR,if_pos h];rcases findI_cases xs v with⟨h1,_⟩|⟨j,h1,h2,h3,h4,_⟩
 ·omega
 ·rw[h4];exact cntK_lt _ xs (j:=j) (sLt_irr _) _ h2
def refIvN (xs:List Nd)(v:Int):Rg:=if okRk xs v then ivL (srtN xs) (rkR xs v) else noRg
set_option maxHeartbeats 1000000 in
theorem refInterval_spec (xs:List Nd)(v:Int)(n:Nat)(hn:xs.length=n)(hx:n≤1000000):
  ze Tryz.prog 17 [.slc false 0 0 0 n,.int .i64 v] ⟨1,[(0,Sk.one (.row ⟨false,false,40,3,n,nds xs⟩))]⟩
   (fun s H1=>s= .tup [.agg (refIvN xs v).sv,.bool (okRk xs v)]∧H1=⟨1,[]⟩):=by
 subst hn;refine ze.ofC false 47 [.cell 4 57,.tmp 5] Tryz.func17 rfl rfl Tryz.ntmps17 Tryz.results17 rfl ?_;intro w0 own0 β0 Q hQ hQn;simp only[z1n];refine z47 [0,1,4] ?_;refine sg [0,4,6,7] rfl ?_;intro K hK;iterate 2 (refine z6g z5 ?_)
 refine z6g z5 ?_;refine RotDm.c1 (refRank_spec xs v xs.length rfl hx) (id) ?_;iterate 5 (refine z6g z5 ?_)
 refine za (z8 (hK _ _ ?_));clear hK K;refine Cs.seq ?_;refine z47 [0,4,6,17] ?_;refine Cs.cond _ rfl ?_ ?_
 ·intro h17;replace h17:=z6 h17;refine z47 [4,5] ?_;refine Cs.ret ?_;refine hQ _ _ ?_;refine zm.mk (H':=⟨1,[]⟩) (.inl rfl) ?_;refine RotDm.ou ?_;refine⟨z59,(RotDm.g id),z59,?_⟩;rw[refIvN,h17,if_neg Bool.false_ne_true]
  first|trivial|exact⟨rfl,trivial⟩
 ·intro h17;replace h17:=z6 h17;have hkl:=rkR_lt h17;have hsl:=z82 xs;have hiv:refIvN xs v=ivL (srtN xs) (rkR xs v):=by rw[refIvN,if_pos h17]
  generalize rkR xs v=k at*
  refine Cs.skip ?_;refine sg [4,6,8] rfl ?_;intro K hK;refine z6g z5 ?_;refine z6g z5 ?_;refine RotDm.c1 (refSort_spec xs xs.length rfl hx) (id) ?_;refine z6g z5 ?_;refine za (z8 (hK _ _ ?_));clear hK K;refine z47 [4,6,8,9] ?_;refine Cs.seq ?_;refine z47 [4,6,8,9,30] ?_;refine Cs.cond _ rfl ?_ ?_
  ·intro h30;replace h30:=z6 h30;refine RotDm.rg [4,6,8,9] ?_;refine Cs.seq ?_;refine z47 [4,6,8,9,37] ?_;refine Cs.cond _ rfl ?_ ?_
   ·intro h37;replace h37:=z6 h37;refine Cs.reg [4,9] rfl ?_;intro K hK;iterate 6 (refine z6g z5 ?_)
    rw[show((k:Int)+1).toNat=k+1 from by omega];repeat(with_reducible apply ai;exact z7)
    iterate 3 (refine z6g z5 ?_)
    refine za (z8 (hK _ _ ?_));clear hK K;refine z47 [4,5] ?_;refine Cs.ret ?_;refine hQ _ _ ?_;refine zm.mk (H':=⟨1,[]⟩) (.inl rfl) ?_;refine RotDm.ou ?_;refine⟨z59,(RotDm.g id),z59,?_⟩;rw[hiv,h17,ivL,if_neg (by omega),if_pos (by omega),decide_eq_true (by omega)]
    first|trivial|exact⟨rfl,trivial⟩
   ·intro h37;replace h37:=z6 h37;refine Cs.skip ?_;refine z47 [4,5] ?_;refine Cs.ret ?_;refine hQ _ _ ?_;refine zm.mk (H':=⟨1,[]⟩) (.inl rfl) ?_;refine RotDm.ou ?_;refine⟨z59,(RotDm.g id),z59,?_⟩;rw[hiv,h17,ivL,if_neg (by omega),if_neg (by omega),decide_eq_false (by omega)]
    first|trivial|exact⟨rfl,trivial⟩
  ·intro h30;replace h30:=z6 h30;refine Cs.skip ?_;refine Cs.seq ?_;refine z47 [4,6,8,9,37] ?_;refine Cs.cond _ rfl ?_ ?_
   ·intro h37;replace h37:=z6 h37;refine Cs.reg [4,9] rfl ?_;intro K hK;iterate 6 (refine z6g z5 ?_)
    rw[show((k:Int)+1).toNat=k+1 from by omega];repeat(with_reducible apply ai;exact z7)
    iterate 3 (refine z6g z5 ?_)
    refine za (z8 (hK _ _ ?_));clear hK K;refine z47 [4,5] ?_;refine Cs.ret ?_;refine hQ _ _ ?_;refine zm.mk (H':=⟨1,[]⟩) (.inl rfl) ?_;refine RotDm.ou ?_;refine⟨z59,(RotDm.g id),z59,?_⟩;rw[hiv,h17,ivL,if_pos (by omega),if_pos (by omega),decide_eq_true (by omega)]
    first|trivial|exact⟨rfl,trivial⟩
   ·intro h37;replace h37:=z6 h37;refine Cs.skip ?_;refine z47 [4,5] ?_;refine Cs.ret ?_;refine hQ _ _ ?_;refine zm.mk (H':=⟨1,[]⟩) (.inl rfl) ?_;refine RotDm.ou ?_;refine⟨z59,(RotDm.g id),z59,?_⟩;rw[hiv,h17,ivL,if_pos (by omega),if_neg (by omega),decide_eq_false (by omega)]
    first|trivial|exact⟨rfl,trivial⟩
end Go.Proofs

namespace Go.Proofs
open Go.Sk
structure Bd where
 key:ByteArray
 top:Bool
deriving DecidableEq
def Bd.sv (b:Bd):List SV:=[.str b.key,.bool b.top]
def Rg.lo (r:Rg):Bd:=⟨r.lk,r.lt⟩
def Rg.hi (r:Rg):Bd:=⟨r.hk,r.ht⟩
def Rg.of (a b:Bd):Rg:=⟨a.key,a.top,b.key,b.top⟩
def rg (l:List Rg)(i:Nat):Rg:=l.getD i noRg
def rgs (l:List Rg):Nat→List SV:=fun i=>(rg l i).sv
theorem rgs_ren (ρ:Nat→Nat)(l:List Rg):(fun i=>SV.renL ρ (rgs l i))=rgs l:=by
 funext i;simp[rgs,Rg.sv,SV.renL,SV.ren]
theorem rgs_ren' (ρ:Nat→Nat)(l:List Rg)(i:Nat):SV.renL ρ (rgs l i)=rgs l i:=congrFun (rgs_ren ρ l) i
theorem rgs_lt (m:Nat)(l:List Rg)(i:Nat):SV.ltL m (rgs l i):=by simp[rgs,Rg.sv,SV.ltL,SV.lt]
theorem rgs_take (l:List Rg)(i:Nat):(rgs l i).take 4=[.str (rg l i).lk,.bool (rg l i).lt,.str (rg l i).hk,.bool (rg l i).ht]:=rfl
def cmpB (a b:Bd):Int:=
 if a.top && b.top then 0 else if a.top then 1 else if b.top||sLt a.key b.key then -1
 else if !(sLt a.key b.key||sEq a.key b.key) then 1 else 0
theorem z2w {a:Prop}(h:a:=by simp[SV.wkL,SV.wk,z1i,z1b,Sk.get,Sk.find,Sk.one,zb.eq_1,zb.eq_2,zb.eq_3,zo,z1k,z1g,SV.renL,SV.ren,Obj.lt_row,SV.ltL,SV.lt,z7c,z3q,zw,z25,Obj.own.eq_1,Obj.own.eq_2,Obj.own.eq_3,Obj.own.eq_4,Bd.sv,Rg.sv,Rg.lo,Rg.hi,rgs_ren',rgs_lt]):a:=h
theorem RotLm.t {s e:SV}{H g:AH}(q:AfQ s e H g:=by constructor<;>(simp only[z1x,after,z57,id,z2q,reduceCtorEq,Nat.reduceEqDiff,zc5,zc6,z5u,z2p,zw,Sk.one,Obj.own.eq_1,Obj.own.eq_2,Obj.own.eq_3,Obj.own.eq_4,Obj.ren.eq_1,Obj.ren.eq_2,Obj.ren_blk,Row.ren,SV.ren,SV.renL,↓reduceIte,Nat.reduceLT,Nat.reduceAdd,Nat.reduceSub,Tryz.tyInt,Tryz.szInt,Tryz.zInt,Tryz.tyErr,Tryz.tyBool,Tryz.tyStr,Tryz.szStr,Tryz.tyBd,Tryz.szBd,Tryz.zBd,Tryz.tyRg,Tryz.szRg,Tryz.zRg,Bd.sv,Rg.sv,Rg.lo,Rg.hi,rgs_take,rgs_ren];exact rfl)):AfQ s e H g:=q
theorem z2s {P:Program}{f:FuncId}{args args0:List SV}{H0 H Y g:AH}{X e:SV}{dr:Bool}{W:List Nat}{k:SV→AH→Prop}(hF:ze P f args0 H0 fun s H1=>s=X∧H1=Y)(ρ:Nat→Nat)(h:k e g)(q:CaQ args args0 ρ H0 H dr W:=by constructor<;>exact z2w)(r:CaR ρ H0 H:=by exact⟨rfl,rfl⟩)(b:AfQ (X.ren (z57 H0.nxt H.nxt ρ)) e (after H0.nxt ρ H0 H Y) g:=by exact RotLm.t):z4u P f args H dr W k:=c1S hF ρ h q r b
theorem z5g {a d:Prop}(h:d)(e:Sd a d:=by simp only[resK,z4q,z3x,Nat.zero_add,zc2,ne_eq,Sk.get,Sk.find,Sk.one,List.getElem?_cons_zero,↓reduceIte,Nat.reduceEqDiff,resV,Tryz.tyRg,Tryz.tyBd,Kd.agg,Nat.reduceAdd,Nat.zero_le,Nat.reduceLeDiff];(repeat(with_reducible apply Sd.and;exact z7));exact Sd.rfl):a:=e.f h
theorem z73 {X:Cx}{fr:Fr}{H:AH}{fr1:Fr}{H1:AH}(ρ:Nat→Nat)(q:GvQ X ρ fr H fr1 H1:=by constructor<;>exact z2w)(r:GvR X ρ H1:=by exact⟨rfl,rfl,Nat.le_of_ble_eq_true rfl,rfl⟩):z2v X ρ fr H fr1 H1:=gvS ρ q r
theorem zd {a c d:Prop}(r:a→c)(h:d)(e:Sd a d:=by simp only[stp,isQ,z4q,Sk.get,Sk.put,z24,zt,↓reduceIte,reduceCtorEq,Nat.reduceEqDiff,zc2,zc3,implies_true,forall_const,zc5,qop,grdK,zc4,List.getElem?_cons_zero,beq_self_eq_true,zc1,z13,cond_true,cond_false,z3x,Sk.find,Sk.one,z17,z1u,Kd.agg,Nat.reduceBEq,ite_self,Nat.zero_add,Nat.reduceAdd,Nat.reduceMul,Nat.reduceSub,Nat.reduceLT,Nat.reduceLeDiff,Nat.zero_le,ne_eq,Int.reduceToNat,exists_eq',spl,z29,SV.cells,SV.scalar,binK,z5o,z5n,intK,z2x,strK,z37,z5m,z3u,unK,z5p,z5i,z39,z3c,z5c,z3d,z3e,optK,z3g,bndK,z36,z38,z55,z3k,lenK,z1a.len,zq.n,z50,mmK,z1y,eop,z5s,srcK,z1f,z44,z3o,capK,z5t,z2c,z2q,z30,boxK,z2d,z3m,z31,updF,mkK,z5a,z1a.ofKd,zq.ofKd,z5b,z1a.add,z1a.okKd,zq.put,zq.okKd,zq.okP,z3f,z1a.has,zq.get,zq.z,Tryz.tyInt,Tryz.szInt,Tryz.zInt,Tryz.tyErr,Tryz.tyBool,Tryz.tyStr,Tryz.szStr,Tryz.tyBd,Tryz.szBd,Tryz.zBd,Tryz.tyRg,Tryz.szRg,Tryz.zRg,Bd.sv,Rg.sv,Rg.lo,Rg.hi,rgs_take];(repeat(with_reducible apply Sd.and;exact z7));exact Sd.rfl):c:=r (e.f h)
theorem z2y {X:Cx}{Q:Exit→Fr→AH→Prop}{fr fr1:Fr}{H H1:AH}{l:List Code}{id:Nat}{ops:List Oper}{y:Code}(keep:List Nat)(h:Cs X (y::l) Q fr1 H1)(hd:z2b X.n ops=true:=by exact rfl)(e:∀K:Fr→AH→Prop,K fr1 H1→z5v X.P X.wrap X.m0 ops.toArray ops fr H (fun fr H=>K (prune keep fr) H):=by(intro K hK;(repeat(refine zd z5 ?_));exact za (z8 hK))):Cs X (.seq (.region id ops.toArray false) y::l) Q fr H:=Cs.seq (rgS keep h hd e)
theorem z5h (a b:Bd):ze Tryz.prog 86 [.agg a.sv,.agg b.sv] ⟨0,[]⟩ (fun s H1=>s= .int .i64 (cmpB a b)∧H1=⟨0,[]⟩):=by
 refine ze.ofC false 31 [.tmp 4] Tryz.func86 rfl rfl Tryz.ntmps86 Tryz.results86 rfl ?_;intro w0 own0 β0 Q hQ hQn;simp only[z1n];refine z2y [2,3] ?_;refine Cs.seq ?_;refine Cs.block ?_;intro Q0 hN0 hX0 hR0 hE0;refine z2y [2,3,5] ?_;refine Cs.cond _ rfl ?_ ?_
 ·intro h5
  refine z2y [4] ?_;refine Cs.ret ?_;refine hR0 _ _ ?_;refine hQ _ _ ?_;refine zm.mk (H':=⟨0,[]⟩) (.inl rfl) ?_;refine z5g ?_;refine⟨z2w,(z73 id),z2w,?_⟩;rw[cmpB,if_pos h5]
  first|trivial|exact⟨rfl,trivial⟩
 ·intro h5
  refine z2y [2,3,12] ?_;refine Cs.cond _ rfl ?_ ?_
  ·intro h12
   refine z2y [4] ?_;refine Cs.ret ?_;refine hR0 _ _ ?_;refine hQ _ _ ?_;refine zm.mk (H':=⟨0,[]⟩) (.inl rfl) ?_;refine z5g ?_;refine⟨z2w,(z73 id),z2w,?_⟩;rw[cmpB,h5,h12]
   first|trivial|exact⟨rfl,trivial⟩
  ·intro h12
   refine z2y [2,3,15] ?_;refine Cs.cond _ rfl ?_ ?_
   ·intro h15
    refine z2y [4] ?_;refine Cs.ret ?_;refine hR0 _ _ ?_;refine hQ _ _ ?_;refine zm.mk (H':=⟨0,[]⟩) (.inl rfl) ?_;refine z5g ?_;refine⟨z2w,(z73 id),z2w,?_⟩;rw[cmpB,h5,h12,h15]
    first|trivial|exact⟨rfl,trivial⟩
   ·intro h15
    refine z2y [25] ?_;refine Cs.cond _ rfl ?_ ?_
    ·intro h25
     refine z2y [4] ?_;refine Cs.ret ?_;refine hR0 _ _ ?_;refine hQ _ _ ?_;refine zm.mk (H':=⟨0,[]⟩) (.inl rfl) ?_;refine z5g ?_;refine⟨z2w,(z73 id),z2w,?_⟩;rw[cmpB,h5,h12,h15,h25]
     first|trivial|exact⟨rfl,trivial⟩
    ·intro h25
     refine Cs.skip ?_;refine Cs.nil ?_;refine hN0 _ _ ?_;refine z2y [4] ?_;refine Cs.ret ?_;refine hQ _ _ ?_;refine zm.mk (H':=⟨0,[]⟩) (.inl rfl) ?_;refine z5g ?_;refine⟨z2w,(z73 id),z2w,?_⟩;rw[cmpB,h5,h12,h15,h25]
     first|trivial|exact⟨rfl,trivial⟩
def okBd (b:Bd):Bool:=okKey b.key && (!b.top||sEq b.key ⟨#[]⟩)
theorem validBound_spec (b:Bd):ze Tryz.prog 99 [.agg b.sv] ⟨0,[]⟩ (fun s H1=>s= .bool (okBd b)∧H1=⟨0,[]⟩):=by
 refine ze.ofC false 16 [.tmp 2] Tryz.func99 rfl rfl Tryz.ntmps99 Tryz.results99 rfl ?_;intro w0 own0 β0 Q hQ hQn;simp only[z1n];refine z2y [1] ?_;refine sg [2] rfl ?_;intro K hK;iterate 2 (refine zd z5 ?_)
 refine zd z5 ?_;refine z2s (validKey_spec b.key) (id) ?_;iterate 11 (refine zd z5 ?_)
 refine za (z8 (hK _ _ ?_));clear hK K;refine Cs.ret ?_;refine hQ _ _ ?_;refine zm.mk (H':=⟨0,[]⟩) (.inl rfl) ?_;refine z5g ?_;refine⟨z2w,(z73 id),z2w,?_⟩
 first|trivial|exact⟨rfl,trivial⟩
def okRg (r:Rg):Bool:=okBd r.lo && okBd r.hi && decide (cmpB r.lo r.hi≤0)
theorem valid_spec (r:Rg):ze Tryz.prog 94 [.agg r.sv] ⟨0,[]⟩ (fun s H1=>s= .bool (okRg r)∧H1=⟨0,[]⟩):=by
 refine ze.ofC false 19 [.tmp 2] Tryz.func94 rfl rfl Tryz.ntmps94 Tryz.results94 rfl ?_;intro w0 own0 β0 Q hQ hQn;simp only[z1n];refine z2y [1] ?_;refine sg [2] rfl ?_;intro K hK
 have hk1:∀B:Bool,B=okRg r→K [(2,.bool B)] ⟨1,[(0,Sk.one (.row ⟨true,true,57,4,1,fun _=>r.sv⟩))]⟩:=by
  intro B hB;subst hB;refine hK _ _ ?_;clear hK K;refine Cs.ret ?_;refine hQ _ _ ?_;refine zm.mk (H':=⟨0,[]⟩) (.inl rfl) ?_;refine z5g ?_;refine⟨z2w,(z73 id),z2w,?_⟩
  first|trivial|exact⟨rfl,trivial⟩
 iterate 2 (refine zd z5 ?_)
 refine zd z5 ?_;refine z2s (validBound_spec r.lo) (id) ?_;iterate 3 (refine zd z5 ?_)
 refine z5 ?_;refine z1d rfl rfl ?_;refine zy ?_
 first|refine zu ?_ ?_|refine(fun(h1:false=true→_) (h2:false=false→_)=>And.intro h1 fun _=>h2 rfl) ?_ ?_|refine And.intro ?_ ?_
 ·intro hg6
  first
   |(simp at hg6;done)
   |skip
    try replace hg6:=z6 hg6
    refine zd id ?_;refine z2s (validBound_spec r.hi) (id) ?_;refine zd z5 ?_
    try with_reducible refine And.intro (by clear hk1;simp_all;done) ?_
    repeat(with_reducible apply ai;exact z7)
    iterate 5 (refine zd z5 ?_)
    refine z5 ?_;refine z1d rfl rfl ?_;refine zy ?_
    first|refine zu ?_ ?_|refine(fun(h1:false=true→_) (h2:false=false→_)=>And.intro h1 fun _=>h2 rfl) ?_ ?_|refine And.intro ?_ ?_
    ·intro hg13
     first
      |(simp at hg13;done)
      |skip
       try replace hg13:=z6 hg13
       refine zd id ?_;refine z2s (z5h r.lo r.hi) (id) ?_;refine zd z5 ?_
       try with_reducible refine And.intro (by clear hk1;simp_all;done) ?_
       repeat(with_reducible apply ai;exact z7)
       refine zd z5 ?_
       try with_reducible refine And.intro (by clear hk1;simp_all;done) ?_
       repeat(with_reducible apply ai;exact z7)
       refine zd z5 ?_;refine za ?_;refine z8 ?_;refine hk1 _ ?_;clear hk1
       first|(simp_all[okRg,Rg.lo,Rg.hi];done)|(simp_all[okRg,Rg.lo,Rg.hi];rfl)
    ·intro hg13;refine⟨.int .i64 0,?_⟩
     first
      |(simp at hg13;done)
      |skip
       try replace hg13:=z6 hg13
       refine zd z5 ?_
       try with_reducible refine And.intro (by clear hk1;simp_all;done) ?_
       repeat(with_reducible apply ai;exact z7)
       refine zd z5 ?_
       try with_reducible refine And.intro (by clear hk1;simp_all;done) ?_
       repeat(with_reducible apply ai;exact z7)
       refine zd z5 ?_;refine za ?_;refine z8 ?_;refine hk1 _ ?_;clear hk1
       first|(simp_all[okRg,Rg.lo,Rg.hi];done)|(simp_all[okRg,Rg.lo,Rg.hi];rfl)
 ·intro hg6;refine⟨.bool false,?_⟩
  first
   |(simp at hg6;done)
   |skip
    try replace hg6:=z6 hg6
    refine zd z5 ?_
    try with_reducible refine And.intro (by clear hk1;simp_all;done) ?_
    repeat(with_reducible apply ai;exact z7)
    iterate 5 (refine zd z5 ?_)
    refine z5 ?_;refine z1d rfl rfl ?_;refine zy ?_
    first|refine zu ?_ ?_|refine(fun(h1:false=true→_) (h2:false=false→_)=>And.intro h1 fun _=>h2 rfl) ?_ ?_|refine And.intro ?_ ?_
    ·intro hg13
     first
      |(simp at hg13;done)
      |skip
       try replace hg13:=z6 hg13
       refine zd id ?_;refine z2s (z5h r.lo r.hi) (id) ?_;refine zd z5 ?_
       try with_reducible refine And.intro (by clear hk1;simp_all;done) ?_
       repeat(with_reducible apply ai;exact z7)
       refine zd z5 ?_
       try with_reducible refine And.intro (by clear hk1;simp_all;done) ?_
       repeat(with_reducible apply ai;exact z7)
       refine zd z5 ?_;refine za ?_;refine z8 ?_;refine hk1 _ ?_;clear hk1
       first|(simp_all[okRg,Rg.lo,Rg.hi];done)|(simp_all[okRg,Rg.lo,Rg.hi];rfl)
    ·intro hg13;refine⟨.int .i64 0,?_⟩
     first
      |(simp at hg13;done)
      |skip
       try replace hg13:=z6 hg13
       refine zd z5 ?_
       try with_reducible refine And.intro (by clear hk1;simp_all;done) ?_
       repeat(with_reducible apply ai;exact z7)
       refine zd z5 ?_
       try with_reducible refine And.intro (by clear hk1;simp_all;done) ?_
       repeat(with_reducible apply ai;exact z7)
       refine zd z5 ?_;refine za ?_;refine z8 ?_;refine hk1 _ ?_;clear hk1
       first|(simp_all[okRg,Rg.lo,Rg.hi];done)|(simp_all[okRg,Rg.lo,Rg.hi];rfl)
def z80 (r:Rg):Bool:= !okRg r||cmpB r.lo r.hi==0
theorem empty_spec (r:Rg):ze Tryz.prog 85 [.agg r.sv] ⟨0,[]⟩ (fun s H1=>s= .bool (z80 r)∧H1=⟨0,[]⟩):=by
 refine ze.ofC false 14 [.tmp 2] Tryz.func85 rfl rfl Tryz.ntmps85 Tryz.results85 rfl ?_;intro w0 own0 β0 Q hQ hQn;simp only[z1n];refine z2y [1] ?_;refine sg [2] rfl ?_;intro K hK
 have hk1:∀B:Bool,B=z80 r→K [(2,.bool B)] ⟨1,[(0,Sk.one (.row ⟨true,true,57,4,1,fun _=>r.sv⟩))]⟩:=by
  intro B hB;subst hB;refine hK _ _ ?_;clear hK K;refine Cs.ret ?_;refine hQ _ _ ?_;refine zm.mk (H':=⟨0,[]⟩) (.inl rfl) ?_;refine z5g ?_;refine⟨z2w,(z73 id),z2w,?_⟩
  first|trivial|exact⟨rfl,trivial⟩
 refine zd z5 ?_;refine zd z5 ?_;refine z2s (valid_spec r) (id) ?_;iterate 6 (refine zd z5 ?_)
 refine z5 ?_;refine z1d rfl rfl ?_;refine zy ?_
 first|refine zu ?_ ?_|refine(fun(h1:false=true→_) (h2:false=false→_)=>And.intro h1 fun _=>h2 rfl) ?_ ?_|refine And.intro ?_ ?_
 ·intro hg8
  first
   |(simp at hg8;done)
   |skip
    try replace hg8:=z6 hg8
    refine zd id ?_;refine z2s (z5h r.lo r.hi) (id) ?_;refine zd z5 ?_
    try with_reducible refine And.intro (by clear hk1;simp_all;done) ?_
    repeat(with_reducible apply ai;exact z7)
    refine zd z5 ?_
    try with_reducible refine And.intro (by clear hk1;simp_all;done) ?_
    repeat(with_reducible apply ai;exact z7)
    refine zd z5 ?_;refine za ?_;refine z8 ?_;refine hk1 _ ?_;clear hk1
    first|(simp_all[z80,Rg.lo,Rg.hi];done)|(simp_all[z80,Rg.lo,Rg.hi];rfl)
 ·intro hg8;refine⟨.int .i64 0,?_⟩
  first
   |(simp at hg8;done)
   |skip
    try replace hg8:=z6 hg8
    refine zd z5 ?_
    try with_reducible refine And.intro (by clear hk1;simp_all;done) ?_
    repeat(with_reducible apply ai;exact z7)
    refine zd z5 ?_
    try with_reducible refine And.intro (by clear hk1;simp_all;done) ?_
    repeat(with_reducible apply ai;exact z7)
    refine zd z5 ?_;refine za ?_;refine z8 ?_;refine hk1 _ ?_;clear hk1
    first|(simp_all[z80,Rg.lo,Rg.hi];done)|(simp_all[z80,Rg.lo,Rg.hi];rfl)
end Go.Proofs

namespace Go.Proofs
open Go.Sk
theorem cntK_eq (key:ByteArray)(l:List Nd):∀i,i≤l.length→cntK key l i=(l.take i).countP fun x=>sLt x.key key
 |0,_=>by simp[cntK]
 |i+1,h=>by
  rw[cntK,cntK_eq key l i (by omega),take_nd h,List.countP_append]
  congr 1
  simp only[List.countP_singleton]
theorem count_place {ys:List Nd}(h:ys.Pairwise fun a b=>sLt a.key b.key=true){p:Nat}(hp:p<ys.length):(ys.countP fun x=>sLt x.key (nd ys p).key)=p:=by
 rw[List.pairwise_iff_getElem] at h;have h0:ys=ys.take p++ys.drop p:=(List.take_append_drop p ys).symm
 have h1:(ys.take p).countP (fun x=>sLt x.key (nd ys p).key)=p:=by
  have:(ys.take p).countP (fun x=>sLt x.key (nd ys p).key)=(ys.take p).length:=List.countP_eq_length.2 fun x hx=>by
   obtain⟨i,hi,rfl⟩:=List.getElem_of_mem hx;simp only[List.length_take] at hi;rw[List.getElem_take,z6b hp];exact h i p (by omega) hp (by omega)
  rw[this,List.length_take];omega
 have h2:(ys.drop p).countP (fun x=>sLt x.key (nd ys p).key)=0:=List.countP_eq_zero.2 fun x hx=>by
  obtain⟨i,hi,rfl⟩:=List.getElem_of_mem hx;simp only[List.length_drop] at hi;rw[List.getElem_drop,z6b hp]
  by_cases c:i=0
  ·subst c;simp[sLt_irr]
  ·rw[sLt_asymm (h p (p+i) hp (by omega) (by omega))];exact Bool.false_ne_true
 calc (ys.countP fun x=>sLt x.key (nd ys p).key)=((ys.take p++ys.drop p).countP fun x=>sLt x.key (nd ys p).key):=by rw[←h0]
  _=p:=by rw[List.countP_append,h1,h2];rfl
theorem rkI_eq (xs:List Nd)(v:Int):rkI xs v=if okRk xs v then(rkR xs v:Int) else -1:=by
 by_cases hc:z3n xs=0
 ·rw[rkI,if_pos hc];have hpm:=srtN_perm xs;rcases findI_cases xs v with⟨h1,h2⟩|⟨j,h1,h2,h3,h4,h5⟩
  ·have hok:okRk xs v=false:=by simp only[okRk];rw[decide_eq_false (by omega)];rfl
   rw[hok,if_neg Bool.false_ne_true];rcases findI_cases (srtN xs) v with⟨g1,_⟩|⟨p,g1,g2,g3,_⟩
   ·exact g1
   ·exfalso
    obtain⟨q,hq,he⟩:=List.getElem_of_mem (hpm.mem_iff.2 (nd_mem g2));exact h2 q hq (by rw[z6b hq,he];exact g3)
  ·have hok:okRk xs v=true:=by simp only[okRk];rw[decide_eq_true (by omega),hc];rfl
   rw[hok,if_pos rfl];rcases findI_cases (srtN xs) v with⟨g1,g2⟩|⟨p,g1,g2,g3,g4,g5⟩
   ·exfalso
    obtain⟨q,hq,he⟩:=List.getElem_of_mem (hpm.mem_iff.1 (nd_mem h2));exact g2 q hq (by rw[z6b hq,he];exact h3)
   ·rw[g1,rkR,if_pos hok,h4]
    --the two are Sk.one node
    have hsame:nd (srtN xs) p=nd xs j:=by
     obtain⟨q,hq,he⟩:=List.getElem_of_mem (hpm.mem_iff.1 (nd_mem h2));have hgood:=((good_iff _).1 (good_perm hpm hc)).2.2;rw[List.pairwise_iff_getElem] at hgood;rcases Nat.lt_trichotomy q p with c|c|c
     ·exfalso;exact g5 q c (by rw[z6b hq,he];exact h3)
     ·subst c;rw[z6b hq,he]
     ·exfalso
      have:=(twinN_false (hgood p q g2 hq c)).1;rw[he,h3,←z6b g2,g3] at this;exact this rfl
    rw[cntK_eq _ _ _ (Nat.le_refl _),List.take_length,←hsame,hpm.countP_eq,count_place (srtN_strict hc) g2]
 ·rw[rkI,if_neg hc]
  have hok:okRk xs v=false:=by
   simp only[okRk,Bool.and_eq_false_imp];intro _;simpa using hc
  rw[hok,if_neg Bool.false_ne_true]
theorem rkI_ok (xs:List Nd)(v:Int):decide (0≤rkI xs v)=okRk xs v:=by
 rw[rkI_eq]
 cases okRk xs v with
 |false=>rfl
 |true=>rw[if_pos rfl,decide_eq_true (by omega)]
theorem ivN_eq (xs:List Nd)(v:Int):ivN xs v=refIvN xs v:=by
 rw[ivN,refIvN,rkI_eq]
 cases h:okRk xs v with
 |false=>rw[if_neg Bool.false_ne_true,if_neg Bool.false_ne_true,if_pos (by omega)]
 |true=>
  rw[if_pos rfl,if_pos rfl,if_neg (by omega)]
  rfl
end Go.Proofs

namespace Go.Proofs
open Go.Sk
abbrev emp:ByteArray:=⟨#[]⟩
theorem sLt_emp (k:ByteArray):sLt k emp=false:=by
 have:(emp).toList=[]:=ByteArray.toList_eq _;simp only[sLt,this]
 cases k.toList<;>simp[Go.Op.bytesLess]
theorem emp_sLt {k:ByteArray}(h:k≠emp):sLt emp k=true:=by
 cases h1:sLt emp k with
 |true=>rfl
 |false=>exact absurd (ba_ext (bl_eq h1 (sLt_emp k))).symm h
theorem sLt_total {a b:ByteArray}(h1:sLt a b=false)(h2:a≠b):sLt b a=true:=by
 cases h:sLt b a with
 |true=>rfl
 |false=>exact absurd (ba_ext (bl_eq h1 h)) h2
theorem cmp_lt {a b:ByteArray}(h:sLt a b=true):cmpB ⟨a,false⟩ ⟨b,false⟩= -1:=by simp[cmpB,h]
theorem cmp_gt {a b:ByteArray}(h:sLt b a=true):cmpB ⟨a,false⟩ ⟨b,false⟩=1:=by
 simp[cmpB,sLt_asymm h,sEq_iff,(sLt_ne h).symm]
theorem cmp_eq (a:ByteArray):cmpB ⟨a,false⟩ ⟨a,false⟩=0:=by simp[cmpB,sLt_irr,sEq_iff]
theorem cmp_top (a b:ByteArray):cmpB ⟨a,false⟩ ⟨b,true⟩= -1:=by simp[cmpB]
theorem cmp_le {a b:ByteArray}:cmpB ⟨a,false⟩ ⟨b,false⟩≤0↔sLt b a=false:=by
 cases h:sLt b a with
 |true=>rw[cmp_gt h];simp
 |false=>
  by_cases e:a=b
  ·subst e;rw[cmp_eq];simp
  ·rw[cmp_lt (sLt_total h (Ne.symm e))];simp
theorem cmp_neg {a b:ByteArray}:cmpB ⟨a,false⟩ ⟨b,false⟩<0↔sLt a b=true:=by
 cases h:sLt a b with
 |true=>rw[cmp_lt h];simp
 |false=>
  by_cases e:a=b
  ·subst e;rw[cmp_eq];simp
  ·rw[cmp_gt (sLt_total h e)];simp
structure Asc (s:List Nd):Prop where
 lt:∀i j,i<j→j<s.length→sLt (nd s i).key (nd s j).key=true
 ok:∀i,i<s.length→okKey (nd s i).key=true
 ids:∀i j,i<s.length→j<s.length→(nd s i).id=(nd s j).id→i=j
theorem asc_srtN {xs:List Nd}(h:z3n xs=0):Asc (srtN xs):=by
 have h1:=srtN_strict h;have h2:=(good_iff _).1 (good_perm (srtN_perm xs) h);rw[List.pairwise_iff_getElem] at h1;refine⟨fun i j hij hj=> ?_,fun i hi=> ?_,fun i j hi hj he=> ?_⟩
 ·rw[z6b (by omega),z6b hj];exact h1 i j (by omega) hj hij
 ·have:=h2.2.1 _ (nd_mem hi);simp only[badN,Bool.or_eq_false_iff,Bool.not_eq_false'] at this;exact this.1.2
 ·have h3:=h2.2.2;rw[List.pairwise_iff_getElem] at h3;rcases Nat.lt_trichotomy i j with c|c|c
  ·exfalso
   have:=(twinN_false (h3 i j hi hj c)).1;rw[z6b hi,z6b hj] at he;exact this he
  ·exact c
  ·exfalso
   have:=(twinN_false (h3 j i hj hi c)).1;rw[z6b hi,z6b hj] at he;exact this he.symm
theorem okKey_emp:okKey emp=true:=by rfl
theorem okBd_key {k:ByteArray}(h:okKey k=true):okBd ⟨k,false⟩=true:=by simp[okBd,h]
theorem okBd_top:okBd ⟨emp,true⟩=true:=by kernel_rfl
theorem asc_ne {s:List Nd}(h:Asc s){i:Nat}(h0:0<i)(hi:i<s.length):(nd s i).key≠emp:=fun e=>by
 have:=h.lt 0 i h0 hi;rw[e,sLt_emp] at this;cases this
theorem ivL_lo (s:List Nd)(i:Nat):(ivL s i).lo=⟨if 0<i then(nd s i).key else emp,false⟩:=rfl
theorem ivL_hi (s:List Nd)(i:Nat):(ivL s i).hi=if i+1<s.length then⟨(nd s (i+1)).key,false⟩ else⟨emp,true⟩:=by
 simp only[Rg.hi,ivL]
 split
 ·simp[*]
 ·simp[*]
theorem iv_cmp {s:List Nd}(h:Asc s){i:Nat}:cmpB (ivL s i).lo (ivL s i).hi= -1:=by
 rw[ivL_lo,ivL_hi]
 by_cases c:i+1<s.length
 ·rw[if_pos c]
  by_cases c2:0<i
  ·rw[if_pos c2];exact cmp_lt (h.lt _ _ (by omega) c)
  ·rw[if_neg c2];exact cmp_lt (emp_sLt (asc_ne h (by omega) c))
 ·rw[if_neg c];exact cmp_top _ _
theorem iv_ok {s:List Nd}(h:Asc s){i:Nat}(hi:i<s.length):okRg (ivL s i)=true:=by
 simp only[okRg,iv_cmp h,Bool.and_eq_true,decide_eq_true_eq];refine⟨⟨?_,?_⟩,by omega⟩
 ·rw[ivL_lo]
  split
  ·exact okBd_key (h.ok i hi)
  ·exact okBd_key okKey_emp
 ·rw[ivL_hi]
  split
  ·rename_i c;exact okBd_key (h.ok _ c)
  ·exact okBd_top
theorem iv_full {s:List Nd}(h:Asc s){i:Nat}(hi:i<s.length):z80 (ivL s i)=false:=by
 rw[z80,iv_ok h hi,iv_cmp h];rfl
def zk (r:Rg)(k:ByteArray):Bool:= !z80 r && okKey k && decide (cmpB r.lo ⟨k,false⟩≤0) && decide (cmpB ⟨k,false⟩ r.hi<0)
end Go.Proofs

namespace Go.Proofs
open Go.Sk
theorem contains_spec2 (r:Rg)(k:ByteArray):ze Tryz.prog 78 [.agg r.sv,.str k] ⟨0,[]⟩ (fun s H1=>s= .bool (zk r k)∧H1=⟨0,[]⟩):=by
 refine ze.ofC false 29 [.tmp 4] Tryz.func78 rfl rfl Tryz.ntmps78 Tryz.results78 rfl ?_;intro w0 own0 β0 Q hQ hQn;simp only[z1n];refine z2y [1,2] ?_;refine z2y [1,2,5] ?_;refine sg [4] rfl ?_;intro K hK
 have hk2:∀B:Bool,B=zk r k→K [(4,.bool B)] ⟨2,[(1,Sk.one (.row ⟨true,true,55,2,1,fun _=>[.str k,.bool false]⟩)),(0,Sk.one (.row ⟨true,true,57,4,1,fun _=>r.sv⟩))]⟩:=by
  intro B hB;subst hB;refine hK _ _ ?_;clear hK K;refine Cs.ret ?_;refine hQ _ _ ?_;refine zm.mk (H':=⟨0,[]⟩) (.inl rfl) ?_;refine z5g ?_;refine⟨z2w,(z73 id),z2w,?_⟩
  first|trivial|exact⟨rfl,trivial⟩
 refine zd z5 ?_;refine zd z5 ?_;refine z2s (empty_spec r) (id) ?_;iterate 3 (refine zd z5 ?_)
 refine z5 ?_;refine z1d rfl rfl ?_;refine zy ?_
 first|refine zu ?_ ?_|refine(fun(h1:false=true→_) (h2:false=false→_)=>And.intro h1 fun _=>h2 rfl) ?_ ?_|refine And.intro ?_ ?_
 ·intro hg5
  first
   |(simp at hg5;done)
   |skip
    try replace hg5:=z6 hg5
    refine zd id ?_;refine z2s (validKey_spec k) (id) ?_;refine zd z5 ?_
    try with_reducible refine And.intro (by clear hk2;simp_all;done) ?_
    repeat(with_reducible apply ai;exact z7)
    refine zd z5 ?_
    try with_reducible refine And.intro (by clear hk2;simp_all;done) ?_
    repeat(with_reducible apply ai;exact z7)
    iterate 3 (refine zd z5 ?_)
    refine z5 ?_;refine z1d rfl rfl ?_;refine zy ?_
    first|refine zu ?_ ?_|refine(fun(h1:false=true→_) (h2:false=false→_)=>And.intro h1 fun _=>h2 rfl) ?_ ?_|refine And.intro ?_ ?_
    ·intro hg11
     first
      |(simp at hg11;done)
      |skip
       try replace hg11:=z6 hg11
       refine zd id ?_;refine z2s (z5h r.lo ⟨k,false⟩) (id) ?_;refine zd z5 ?_
       try with_reducible refine And.intro (by clear hk2;simp_all;done) ?_
       repeat(with_reducible apply ai;exact z7)
       refine zd z5 ?_
       try with_reducible refine And.intro (by clear hk2;simp_all;done) ?_
       repeat(with_reducible apply ai;exact z7)
       iterate 4 (refine zd z5 ?_)
       refine z5 ?_;refine z1d rfl rfl ?_;refine zy ?_
       first|refine zu ?_ ?_|refine(fun(h1:false=true→_) (h2:false=false→_)=>And.intro h1 fun _=>h2 rfl) ?_ ?_|refine And.intro ?_ ?_
       ·intro hg18
        first
         |(simp at hg18;done)
         |skip
          try replace hg18:=z6 hg18
          refine zd id ?_;refine z2s (z5h ⟨k,false⟩ r.hi) (id) ?_;refine zd z5 ?_
          try with_reducible refine And.intro (by clear hk2;simp_all;done) ?_
          repeat(with_reducible apply ai;exact z7)
          refine zd z5 ?_
          try with_reducible refine And.intro (by clear hk2;simp_all;done) ?_
          repeat(with_reducible apply ai;exact z7)
          refine zd z5 ?_;refine za ?_;refine z8 ?_;refine hk2 _ ?_;clear hk2
          first|(simp_all[zk,Rg.lo,Rg.hi];done)|(simp_all[zk,Rg.lo,Rg.hi];rfl)|(simp_all[zk,Rg.lo,Rg.hi];intro h;exact absurd (of_decide_eq_true h) (by omega))
       ·intro hg18;refine⟨.int .i64 0,?_⟩
        first
         |(simp at hg18;done)
         |skip
          try replace hg18:=z6 hg18
          refine zd z5 ?_
          try with_reducible refine And.intro (by clear hk2;simp_all;done) ?_
          repeat(with_reducible apply ai;exact z7)
          refine zd z5 ?_
          try with_reducible refine And.intro (by clear hk2;simp_all;done) ?_
          repeat(with_reducible apply ai;exact z7)
          refine zd z5 ?_;refine za ?_;refine z8 ?_;refine hk2 _ ?_;clear hk2
          first|(simp_all[zk,Rg.lo,Rg.hi];done)|(simp_all[zk,Rg.lo,Rg.hi];rfl)|(simp_all[zk,Rg.lo,Rg.hi];intro h;exact absurd (of_decide_eq_true h) (by omega))
    ·intro hg11;refine⟨.int .i64 0,?_⟩
     first
      |(simp at hg11;done)
      |skip
       try replace hg11:=z6 hg11
       refine zd z5 ?_
       try with_reducible refine And.intro (by clear hk2;simp_all;done) ?_
       repeat(with_reducible apply ai;exact z7)
       refine zd z5 ?_
       try with_reducible refine And.intro (by clear hk2;simp_all;done) ?_
       repeat(with_reducible apply ai;exact z7)
       iterate 4 (refine zd z5 ?_)
       refine z5 ?_;refine z1d rfl rfl ?_;refine zy ?_
       first|refine zu ?_ ?_|refine(fun(h1:false=true→_) (h2:false=false→_)=>And.intro h1 fun _=>h2 rfl) ?_ ?_|refine And.intro ?_ ?_
       ·intro hg18
        first
         |(simp at hg18;done)
         |skip
          try replace hg18:=z6 hg18
          refine zd id ?_;refine z2s (z5h ⟨k,false⟩ r.hi) (id) ?_;refine zd z5 ?_
          try with_reducible refine And.intro (by clear hk2;simp_all;done) ?_
          repeat(with_reducible apply ai;exact z7)
          refine zd z5 ?_
          try with_reducible refine And.intro (by clear hk2;simp_all;done) ?_
          repeat(with_reducible apply ai;exact z7)
          refine zd z5 ?_;refine za ?_;refine z8 ?_;refine hk2 _ ?_;clear hk2
          first|(simp_all[zk,Rg.lo,Rg.hi];done)|(simp_all[zk,Rg.lo,Rg.hi];rfl)|(simp_all[zk,Rg.lo,Rg.hi];intro h;exact absurd (of_decide_eq_true h) (by omega))
       ·intro hg18;refine⟨.int .i64 0,?_⟩
        first
         |(simp at hg18;done)
         |skip
          try replace hg18:=z6 hg18
          refine zd z5 ?_
          try with_reducible refine And.intro (by clear hk2;simp_all;done) ?_
          repeat(with_reducible apply ai;exact z7)
          refine zd z5 ?_
          try with_reducible refine And.intro (by clear hk2;simp_all;done) ?_
          repeat(with_reducible apply ai;exact z7)
          refine zd z5 ?_;refine za ?_;refine z8 ?_;refine hk2 _ ?_;clear hk2
          first|(simp_all[zk,Rg.lo,Rg.hi];done)|(simp_all[zk,Rg.lo,Rg.hi];rfl)|(simp_all[zk,Rg.lo,Rg.hi];intro h;exact absurd (of_decide_eq_true h) (by omega))
 ·intro hg5;refine⟨.bool false,?_⟩
  first
   |(simp at hg5;done)
   |skip
    try replace hg5:=z6 hg5
    refine zd z5 ?_
    try with_reducible refine And.intro (by clear hk2;simp_all;done) ?_
    repeat(with_reducible apply ai;exact z7)
    refine zd z5 ?_
    try with_reducible refine And.intro (by clear hk2;simp_all;done) ?_
    repeat(with_reducible apply ai;exact z7)
    iterate 3 (refine zd z5 ?_)
    refine z5 ?_;refine z1d rfl rfl ?_;refine zy ?_
    first|refine zu ?_ ?_|refine(fun(h1:false=true→_) (h2:false=false→_)=>And.intro h1 fun _=>h2 rfl) ?_ ?_|refine And.intro ?_ ?_
    ·intro hg11
     first
      |(simp at hg11;done)
      |skip
       try replace hg11:=z6 hg11
       refine zd id ?_;refine z2s (z5h r.lo ⟨k,false⟩) (id) ?_;refine zd z5 ?_
       try with_reducible refine And.intro (by clear hk2;simp_all;done) ?_
       repeat(with_reducible apply ai;exact z7)
       refine zd z5 ?_
       try with_reducible refine And.intro (by clear hk2;simp_all;done) ?_
       repeat(with_reducible apply ai;exact z7)
       iterate 4 (refine zd z5 ?_)
       refine z5 ?_;refine z1d rfl rfl ?_;refine zy ?_
       first|refine zu ?_ ?_|refine(fun(h1:false=true→_) (h2:false=false→_)=>And.intro h1 fun _=>h2 rfl) ?_ ?_|refine And.intro ?_ ?_
       ·intro hg18
        first
         |(simp at hg18;done)
         |skip
          try replace hg18:=z6 hg18
          refine zd id ?_;refine z2s (z5h ⟨k,false⟩ r.hi) (id) ?_;refine zd z5 ?_
          try with_reducible refine And.intro (by clear hk2;simp_all;done) ?_
          repeat(with_reducible apply ai;exact z7)
          refine zd z5 ?_
          try with_reducible refine And.intro (by clear hk2;simp_all;done) ?_
          repeat(with_reducible apply ai;exact z7)
          refine zd z5 ?_;refine za ?_;refine z8 ?_;refine hk2 _ ?_;clear hk2
          first|(simp_all[zk,Rg.lo,Rg.hi];done)|(simp_all[zk,Rg.lo,Rg.hi];rfl)|(simp_all[zk,Rg.lo,Rg.hi];intro h;exact absurd (of_decide_eq_true h) (by omega))
       ·intro hg18;refine⟨.int .i64 0,?_⟩
        first
         |(simp at hg18;done)
         |skip
          try replace hg18:=z6 hg18
          refine zd z5 ?_
          try with_reducible refine And.intro (by clear hk2;simp_all;done) ?_
          repeat(with_reducible apply ai;exact z7)
          refine zd z5 ?_
          try with_reducible refine And.intro (by clear hk2;simp_all;done) ?_
          repeat(with_reducible apply ai;exact z7)
          refine zd z5 ?_;refine za ?_;refine z8 ?_;refine hk2 _ ?_;clear hk2
          first|(simp_all[zk,Rg.lo,Rg.hi];done)|(simp_all[zk,Rg.lo,Rg.hi];rfl)|(simp_all[zk,Rg.lo,Rg.hi];intro h;exact absurd (of_decide_eq_true h) (by omega))
    ·intro hg11;refine⟨.int .i64 0,?_⟩
     first
      |(simp at hg11;done)
      |skip
       try replace hg11:=z6 hg11
       refine zd z5 ?_
       try with_reducible refine And.intro (by clear hk2;simp_all;done) ?_
       repeat(with_reducible apply ai;exact z7)
       refine zd z5 ?_
       try with_reducible refine And.intro (by clear hk2;simp_all;done) ?_
       repeat(with_reducible apply ai;exact z7)
       iterate 4 (refine zd z5 ?_)
       refine z5 ?_;refine z1d rfl rfl ?_;refine zy ?_
       first|refine zu ?_ ?_|refine(fun(h1:false=true→_) (h2:false=false→_)=>And.intro h1 fun _=>h2 rfl) ?_ ?_|refine And.intro ?_ ?_
       ·intro hg18
        first
         |(simp at hg18;done)
         |skip
          try replace hg18:=z6 hg18
          refine zd id ?_;refine z2s (z5h ⟨k,false⟩ r.hi) (id) ?_;refine zd z5 ?_
          try with_reducible refine And.intro (by clear hk2;simp_all;done) ?_
          repeat(with_reducible apply ai;exact z7)
          refine zd z5 ?_
          try with_reducible refine And.intro (by clear hk2;simp_all;done) ?_
          repeat(with_reducible apply ai;exact z7)
          refine zd z5 ?_;refine za ?_;refine z8 ?_;refine hk2 _ ?_;clear hk2
          first|(simp_all[zk,Rg.lo,Rg.hi];done)|(simp_all[zk,Rg.lo,Rg.hi];rfl)|(simp_all[zk,Rg.lo,Rg.hi];intro h;exact absurd (of_decide_eq_true h) (by omega))
       ·intro hg18;refine⟨.int .i64 0,?_⟩
        first
         |(simp at hg18;done)
         |skip
          try replace hg18:=z6 hg18
          refine zd z5 ?_
          try with_reducible refine And.intro (by clear hk2;simp_all;done) ?_
          repeat(with_reducible apply ai;exact z7)
          refine zd z5 ?_
          try with_reducible refine And.intro (by clear hk2;simp_all;done) ?_
          repeat(with_reducible apply ai;exact z7)
          refine zd z5 ?_;refine za ?_;refine z8 ?_;refine hk2 _ ?_;clear hk2
          first|(simp_all[zk,Rg.lo,Rg.hi];done)|(simp_all[zk,Rg.lo,Rg.hi];rfl)|(simp_all[zk,Rg.lo,Rg.hi];intro h;exact absurd (of_decide_eq_true h) (by omega))
end Go.Proofs

namespace Go.Sk
open Go.RowKit
def up (ν:Nat→Nat):Nat→Nat
 |0=>0
 |i+1=>ν i+1
theorem up_inj {ν:Nat→Nat}(h:∀a b,ν a=ν b→a=b):∀a b,up ν a=up ν b→a=b:=fun a b e=>by
 cases a with
 |zero=>cases b with
  |zero=>rfl
  |succ b=>simp only[up] at e;omega
 |succ a=>cases b with
  |zero=>simp only[up] at e;omega
  |succ b=>simp only[up] at e;rw[h a b (by omega)]
def shP (ρ:Nat→Nat)(f:Nat)(μ:Nat→Nat):Pn:=fun id k=>(ρ id,if id=f then μ k else k)
def z5z (ρ:Nat→Nat)(f:Nat)(μ:Nat→Nat)(m:Nat)(os:List (Nat×Nat×(Nat→Obj))):List (Nat×Nat×(Nat→Obj))→Prop
 |[]=>True
 |(id,c',F')::l=>
  (match find os (ρ id) with
   |some (c,F)=> ∀k,k<c'→(if id=f then μ k else k)<c∧z11 (shP ρ f μ) (F (if id=f then μ k else k)) (F' k)∧(F' k).lt m
   |none=>False)∧id<m∧z5z ρ f μ m os l
theorem z5z.get {ρ:Nat→Nat}{f:Nat}{μ:Nat→Nat}{m:Nat}{os:List (Nat×Nat×(Nat→Obj))}:∀{os':List (Nat×Nat×(Nat→Obj))},z5z ρ f μ m os os'→∀id c' F',(id,c',F')∈os'→∀k,k<c'→
  id<m∧(F' k).lt m∧∃o,look os (shP ρ f μ id k).1 (shP ρ f μ id k).2=some o∧z11 (shP ρ f μ) o (F' k)
 |[],_,_,_,_,hm=>by cases hm
 |(i,c1,F1)::l,h,id,c',F',hm=>by
  obtain⟨h1,h2,h3⟩:=h
  cases hm with
  |head=>
   intro k hk
   split at h1
   ·rename_i c F hf;obtain⟨q1,q2,q3⟩:=h1 k hk;refine⟨h2,q3,_,?_,q2⟩;exact(zp hf q1).trans (Obj.opt_of (z7q q2))
   ·exact h1.elim
  |tail _ hm=>exact z5z.get h3 id c' F' hm
theorem z8d.mkS {X:Cx}{fr:Fr}{H:AH}{fr':Fr}{H':AH}(ρ:Nat→Nat)(f:Nat)(μ:Nat→Nat)(hμ:∀a b,μ a=μ b→a=b)(h1:frGivesP (shP ρ f μ) H'.nxt fr fr')(h2:z5z ρ f μ H'.nxt H.os H'.os)(h3:injB ρ H'.os=true)(h3u:z7c H'.os)
  (h4:(List.range X.m0).all (fun id=>ρ id==id)=true) (h5:X.m0≤H'.nxt) (h5f:X.m0≤f) (h6:∀x∈H.os,x.1<X.m0→∀k,(x.2.2 k).own=(x.2.2 0).own) (h7:z3q X.m0 H.os H'.os) (h8:bigB X.m0 ρ H'.os=true):z8d X (shP ρ f μ) fr H fr' H' where
 fr:=frGivesP_ok h1
 os id k o' hl:=by
  obtain⟨c,F,hf,hk,rfl⟩:=z1s hl;exact h2.get _ _ _ (z2l hf) k hk
 inj id k o id' k' o' hl hl' ho he:=by
  have hij:InjOn ρ H'.os:= .of h3 h3u;simp only[shP,Prod.mk.injEq] at he;have hid:=hij _ _ _ _ _ _ hl hl' ho he.1;subst hid;refine⟨rfl,?_⟩;have:=he.2
  split at this
  ·exact hμ _ _ this
  ·exact this
 fix id k hid:=by
  have:=List.all_eq_true.1 h4 id (List.mem_range.2 hid);rw[beq_iff_eq] at this;simp only[shP,this,if_neg (show¬id=f by omega)]
 m0:=h5
 keep id k hid ho:=by
  obtain⟨o,ho1,ho2⟩:=ho;obtain⟨c,F,hf,hk,rfl⟩:=z1s ho1;have:=h7 _ (z2l hf) hid (by have:=h6 _ (z2l hf) hid k;simp only at this;rw[←this];exact ho2);simp only at this
  split at this
  ·rename_i c' F' hf';exact⟨F' k,(zp hf' (by omega)).trans (Obj.opt_of fun e=>by have:=this.2 k;rw[e] at this;cases this),this.2 k⟩
  ·exact this.elim
 big id k o h0 hl ho:=by
  obtain⟨c,F,hf,hk,rfl⟩:=z1s hl;have h9:=List.all_eq_true.1 h8 _ (z2l hf);have h10:=h3u _ (z2l hf) k;simp only[Bool.or_eq_true,decide_eq_true_eq,Bool.not_eq_true'] at h9;simp only at h10;rw[←h10,ho] at h9
  show X.m0≤ρ id
  rcases h9 with(h9|h9)|h9
  ·omega
  ·exact h9
  ·cases h9
theorem z5z.cons1 {ρ:Nat→Nat}{f:Nat}{μ:Nat→Nat}{m:Nat}{os l:List (Nat×Nat×(Nat→Obj))}{id c:Nat}{F:Nat→Obj}{o':Obj}(hf:find os (ρ id)=some (c,F))(hc:0<c)(hid:id≠f)(h:z11 (shP ρ f μ) (F 0) o')(hl:o'.lt m)(hm:id<m)(ht:z5z ρ f μ m os l):z5z ρ f μ m os ((id,one o')::l):=by
 refine⟨?_,hm,ht⟩;rw[hf];intro k hk
 have hk0:k=0:=by
  have:k<1:=hk;omega
 subst hk0;simp only[if_neg hid];exact⟨hc,h,hl⟩
theorem z5z.consF {ρ:Nat→Nat}{f:Nat}{ν:Nat→Nat}{m:Nat}{os l:List (Nat×Nat×(Nat→Obj))}{c c':Nat}{o o':Bool}{e e':TypeId}{sz sz':Nat}{G G':Nat→Obj}(hf:find os (ρ f)=some (c,fam o e sz G))
  (h1:(o'=true→o=true∧e'=e)∧sz'=sz) (h:∀i,i+1<c'→ν i+1<c∧z11 (shP ρ f (up ν)) (G (ν i)) (G' i)∧(G' i).lt m) (hm:f<m) (ht:z5z ρ f (up ν) m os l) (h0:0<c:=by exact Nat.succ_pos _):
  z5z ρ f (up ν) m os ((f,(c',fam o' e' sz' G'))::l):=by
 refine⟨?_,hm,ht⟩;rw[hf];intro k hk;simp only[if_true]
 cases k with
 |zero=>
  refine⟨h0,?_,fun i j s hi _=>absurd hi (Nat.not_lt_zero _)⟩;simp only[fam,up,z11,z1c];exact⟨h1.1,h1.2,Nat.le_refl _,fun i hi=>absurd hi (Nat.not_lt_zero _)⟩
 |succ i=>exact h i hk
theorem z5z.consO {ρ:Nat→Nat}{f:Nat}{μ:Nat→Nat}{m:Nat}{os l:List (Nat×Nat×(Nat→Obj))}{id c c':Nat}{o o':Bool}{e e':TypeId}{sz sz':Nat}{G G':Nat→Obj}(hf:find os (ρ id)=some (c,fam o e sz G))(hid:id≠f)
  (h1:(o'=true→o=true∧e'=e)∧sz'=sz) (hc:c'≤c) (h:∀i,i+1<c'→z11 (shP ρ f μ) (G i) (G' i)∧(G' i).lt m) (hm:id<m) (ht:z5z ρ f μ m os l):
  z5z ρ f μ m os ((id,(c',fam o' e' sz' G'))::l):=by
 refine⟨?_,hm,ht⟩;rw[hf];intro k hk;simp only[if_neg hid]
 cases k with
 |zero=>
  refine⟨by omega,?_,fun i j s hi _=>absurd hi (Nat.not_lt_zero _)⟩;simp only[fam,z11,z1c];exact⟨h1.1,h1.2,Nat.le_refl _,fun i hi=>absurd hi (Nat.not_lt_zero _)⟩
 |succ i=>exact⟨by omega,h i hk⟩
end Go.Sk

namespace Go.Sk
open Go.RowKit
def zq.renP (π:Pn):zq→zq
 |.ints n h g z=> .ints n h (fun a=>(g a).renP π) (z.renP π)
 |.prs n h g z=> .prs n h (fun a b=>(g a b).renP π) (z.renP π)
theorem zq.renP_n (π:Pn)(M:zq):(M.renP π).n=M.n:=by cases M<;>rfl
theorem zq.renP_has (π:Pn)(M:zq)(v:Value):(M.renP π).has v=M.has v:=by cases M<;>rfl
theorem zq.renP_z (π:Pn)(M:zq):(M.renP π).z=M.z.renP π:=by cases M<;>rfl
theorem zq.renP_val (π:Pn)(M:zq)(v:Value):(M.renP π).val v=(M.val v).renP π:=by
 cases M<;>simp only[zq.renP,zq.val]<;>split<;>rfl
def Obj.renP (π:Pn):Obj→Obj
 |.row r=> .row {r with f:=fun i=>SV.renPL π (r.f i)}
 |.mapo o M=> .mapo o (M.renP π)
 |o=>o
theorem Obj.renP_own (π:Pn)(o:Obj):(o.renP π).own=o.own:=by cases o<;>rfl
theorem Obj.renP_gone {π:Pn}{o:Obj}(h:o.renP π≠ .gone):o≠ .gone:=by
 cases o<;>simp[Obj.renP] at h ⊢
theorem Obj.renP_holds {π:Pn}{o:Obj}{β:Env}{w:World}{q:Option Loc}(h:o.holds (β.viaP π) w q):(o.renP π).holds β w q:=by
 cases o with
 |row r=>
  rcases h with h|⟨L,hq,h1,h2,h3,h4⟩
  ·exact .inl h
  ·refine .inr ⟨L,hq,h1,h2,fun i hi=> ?_,h4⟩;obtain⟨q1,q2⟩:=h3 i hi;refine⟨by show(SV.renPL π (r.f i)).length=_;rw[renPL_eq,List.length_map];exact q1,fun j s hs=> ?_⟩;have hs':(SV.renPL π (r.f i))[j]? =some s:=hs;rw[renPL_eq,List.getElem?_map,Option.map_eq_some_iff] at hs';obtain⟨s0,hs0,rfl⟩:=hs';obtain⟨a,v,b,c⟩:=q2 j s0 hs0;exact⟨by rw[scalar_renP];exact a,v,b,(z5j s0 v).2 c⟩
 |blk _ p=>exact h
 |gone=>trivial
 |mapo _ M=>
  obtain⟨L,b,hq,hb,es,clk,e1,e2,e6,e3,e4,e5⟩:=h;refine⟨L,b,hq,hb,es,clk,e1,e2.trans (M.renP_n π).symm,e6,fun k=>by rw[M.renP_has];exact e3 k,fun e he=>by rw[M.renP_val];exact(z5j _ _).2 (e4 e he),fun k hk v hv=> ?_⟩;rw[M.renP_has] at hk;rw[M.renP_z] at hv;rw[M.renP_val];exact(z5j _ _).2 (e5 k hk v ((z5j _ _).1 hv))
mutual
theorem lt_renP {π:Pn}{m m':Nat}(h:∀id k,id<m→(π id k).1<m'):∀(s:SV),s.lt m→(s.renP π).lt m'
 |.int ..,_=>trivial
 |.bool _,_=>trivial
 |.str _,_=>trivial
 |.nilp,_=>trivial
 |.nils,_=>trivial
 |.nilfn,_=>trivial
 |.raw _,_=>trivial
 |.ptr ..,hl=>h _ _ hl
 |.slc ..,hl=>h _ _ hl
 |.mp ..,hl=>h _ _ hl
 |.fn _ l,hl=>ltL_renP h l hl
 |.agg l,hl=>ltL_renP h l hl
 |.tup l,hl=>ltL_renP h l hl
 |.gd _ s,hl=>fun hg=>lt_renP h s (hl hg)
 |.ifc _ s,hl=>lt_renP h s hl
theorem ltL_renP {π:Pn}{m m':Nat}(h:∀id k,id<m→(π id k).1<m'):∀(l:List SV),SV.ltL m l→SV.ltL m' (SV.renPL π l)
 |[],_=>trivial
 |s::l,hl=>⟨lt_renP h s hl.1,ltL_renP h l hl.2⟩
end
theorem Obj.renP_lt {π:Pn}{m m':Nat}(h:∀id k,id<m→(π id k).1<m'){o:Obj}(hl:o.lt m):(o.renP π).lt m':=by
 cases o with
 |row r=>
  intro i j s hi hs;have hs':(SV.renPL π (r.f i))[j]? =some s:=hs;rw[renPL_eq,List.getElem?_map,Option.map_eq_some_iff] at hs';obtain⟨s0,hs0,rfl⟩:=hs';exact lt_renP h s0 (hl i j s0 hi hs0)
 |blk _ _=>trivial
 |gone=>trivial
 |mapo _ M=>exact⟨by rw[M.renP_z];exact lt_renP h _ hl.1,fun v=>by rw[M.renP_val];exact lt_renP h _ (hl.2 v)⟩
def memP (π:Pn)(m:Nat):Pn:=fun id k=>if id<m then π id k else(id,k)
def renPOs (π:Pn)(os:List (Nat×Nat×(Nat→Obj))):List (Nat×Nat×(Nat→Obj)):=os.map fun x=>(x.1,x.2.1,fun k=>(x.2.2 k).renP π)
theorem find_renPOs {π:Pn}:∀(os:List (Nat×Nat×(Nat→Obj))) (id:Nat),find (renPOs π os) id=(find os id).map fun x=>(x.1,fun k=>(x.2 k).renP π)
 |[],_=>rfl
 |(i,c,F)::os,id=>by
  simp only[renPOs,List.map_cons,find]
  split
  ·rfl
  ·exact find_renPOs os id
theorem look_renPOs {π:Pn}{os:List (Nat×Nat×(Nat→Obj))}{id k:Nat}{o:Obj}(h:look (renPOs π os) id k=some o):∃o0,look os id k=some o0∧o=o0.renP π:=by
 have hg:=z45 h;obtain⟨c,F,hf,hk,rfl⟩:=z1s h;rw[find_renPOs,Option.map_eq_some_iff] at hf;obtain⟨⟨c0,F0⟩,hf0,he⟩:=hf
 cases he
 exact⟨F0 k,(zp hf0 hk).trans (Obj.opt_of (Obj.renP_gone hg)),rfl⟩
theorem look_renPOs' {π:Pn}{os:List (Nat×Nat×(Nat→Obj))}{id k:Nat}{o0:Obj}(h:look os id k=some o0):look (renPOs π os) id k=some (o0.renP π):=by
 have hg:=z45 h;obtain⟨c,F,hf,hk,rfl⟩:=z1s h;refine(zp (F:=fun k=>(F k).renP π) (by rw[find_renPOs,hf];rfl) hk).trans (Obj.opt_of ?_)
 revert hg
 cases F k<;>simp[Obj.renP]
def HMem (π:Pn)(m:Nat)(os1:List (Nat×Nat×(Nat→Obj))):List (Nat×Nat×(Nat→Obj))→Prop
 |[]=>True
 |(id,c',F')::l=>(id<m∧(∀k,(F' k).own=false)∧∀k,k<c'→(F' k).lt m∧match find os1 (π id k).1 with
   |some (c,F)=>(π id k).2<c∧z11 π (F (π id k).2) (F' k)
   |none=>False)∧HMem π m os1 l
theorem HMem.get {π:Pn}{m:Nat}{os1:List (Nat×Nat×(Nat→Obj))}:∀{os:List (Nat×Nat×(Nat→Obj))},HMem π m os1 os→∀{id k:Nat} {o:Obj},look os id k=some o→
  id<m∧o.own=false∧o.lt m∧∃o1,look os1 (π id k).1 (π id k).2=some o1∧z11 π o1 o
 |[],_,_,_,_,h=>by simp[look,find] at h
 |(i,c',F')::l,hm,id,k,o,h=>by
  obtain⟨⟨h1,h0,h2⟩,h3⟩:=hm;rw[z2r] at h
  split at h
  ·rename_i he;subst he
   split at h
   ·rename_i hk;obtain⟨rfl,_⟩:=Obj.opt_some h;obtain⟨q2,q3⟩:=h2 k hk
    split at q3
    ·rename_i c F hf;exact⟨h1,h0 k,q2,_,(zp hf q3.1).trans (Obj.opt_of (z7q q3.2)),q3.2⟩
    ·exact q3.elim
   ·cases h
  ·exact HMem.get h3 h
theorem ze.mem {P:Program}{f:FuncId}{args0:List SV}{H0:AH}{R:SV→AH→Prop}(hF:ze P f args0 H0 R)(π:Pn){os1:List (Nat×Nat×(Nat→Obj))}
  (hm:HMem π H0.nxt os1 H0.os) (hl0:SV.ltL H0.nxt args0) (hπ:∀id k,id<H0.nxt→(π id k).1<H0.nxt) (hu:∀x∈os1,∀k,(x.2.2 k).own=false):
  ze P f (SV.renPL π args0) ⟨H0.nxt,os1⟩ (fun s H'=> ∃s0 H0',R s0 H0'∧s=s0.renP (memP π H0.nxt)∧H'=⟨H0'.nxt,renPOs (memP π H0.nxt) H0'.os⟩):=by
 intro X β w vs hP hm0 hw hβ ho hS hd hlt
 have hno:∀{id k:Nat} {o:Obj},look H0.os id k=some o→¬o.own=true:=fun h e=>by
  have:=(hm.get h).2.1;rw[this] at e;cases e
 have hno1:∀{id k:Nat} {o:Obj},look os1 id k=some o→¬o.own=true:=fun h e=>by
  obtain⟨c,F,hf,_,rfl⟩:=z1s h;have:=hu _ (z2l hf);rw[this] at e;cases e
 let Y:Cx:=⟨X.P,X.n,w,fun id k=> ∃o,look H0.os id k=some o∧o.own=true,H0.nxt,β.viaP π,X.wrap⟩
 have hY:St Y (β.viaP π) H0 w:=by
  refine⟨rfl,rfl,rfl,Nat.le_refl _,fun _ _ _=>rfl,fun id k o h=> ?_,fun id k id' k' o o' L L' h h' ho hb hb' he=>absurd ho (hno h),fun _ _ _=>rfl,fun id k o L h ho _=>absurd ho (hno h),fun id k ho=> ?_,Nat.le_refl _,fun id k o h=>⟨(hm.get h).1,(hm.get h).2.2.1⟩,⟨fun g hgt=> ?_,fun g hgt=> ?_⟩,Nat.le_refl _⟩
  ·obtain⟨_,_,_,o1,h1,h2⟩:=hm.get h;exact z8n h2 (hS.holds _ _ _ h1)
  ·obtain⟨o,h,ho'⟩:=ho;exact absurd ho' (hno h)
  ·obtain⟨_,hlt2,htab⟩:=hS.tab hgt;exact⟨hlt2,htab,fun id k L ho _=>by obtain⟨o,h,ho'⟩:=ho;exact absurd ho' (hno h)⟩
  ·obtain⟨_,hlt2,htab⟩:=hS.tabB hgt;exact⟨hlt2,htab,fun id k L ho _=>by obtain⟨o,h,ho'⟩:=ho;exact absurd ho' (hno h)⟩
 refine(hF Y (β.viaP π) w vs hP rfl rfl rfl rfl hY ((z7o _ _).1 hd) hl0).mono ?_;rintro e w' ⟨v,rfl,β',s0,H',hR,hown,hds,hsl,hS'⟩;have hnx:H0.nxt≤H'.nxt:=hS'.m0
 let τ:=memP π H0.nxt
 let γ:Env:=fun id k=>if id<H0.nxt then β id k else β' id k
 have hγ:γ.viaP τ=β':=by
  funext id k
  show γ (τ id k).1 (τ id k).2=β' id k
  simp only[τ,memP]
  split
  ·rename_i h;simp only[γ];rw[if_pos (hπ id k h)];exact(hS'.fix id k h).symm
  ·rename_i h;simp only[γ];rw[if_neg h]
 have hτ:∀id k,id<H'.nxt→(τ id k).1<H'.nxt:=fun id k h=>by
  simp only[τ,memP]
  split
  ·rename_i h2;exact Nat.lt_of_lt_of_le (hπ id k h2) hnx
  ·exact h
 have hge:∀{x:Nat×Nat×(Nat→Obj)},x∈H'.os→H0.nxt≤x.1:=fun hx=>by
  rcases(hown _ hx).2 with h|⟨y,hy,_,_,hyo⟩
  ·exact h
  ·exfalso
   have:∀{os:List (Nat×Nat×(Nat→Obj))},y∈os→HMem π H0.nxt os1 os→(y.2.2 0).own=false:=by
    intro os
    induction os with
    |nil=>intro h;cases h
    |cons a os ih=>
     intro h g
     cases h with
     |head=>exact g.1.2.1 0
     |tail _ h=>exact ih h g.2
   rw[this hy hm] at hyo;cases hyo
 have hgel:∀{id k:Nat} {o:Obj},look H'.os id k=some o→H0.nxt≤id:=fun h=>by
  obtain⟨c,F,hf,_,_⟩:=z1s h;exact hge (z2l hf)
 have hγn:∀id k,H0.nxt≤id→γ id k=β' id k:=fun id k h=>by simp only[γ];rw[if_neg (by omega)]
 have hw0:X.w0=w:=hw;refine⟨v,rfl,γ,s0.renP τ,⟨H'.nxt,renPOs τ H'.os⟩,⟨s0,H',hR,rfl,rfl⟩,?_,?_,?_,?_⟩
 ·intro x hx;obtain⟨y,hy,rfl⟩:=List.mem_map.1 hx;exact⟨fun k=>by show((y.2.2 k).renP τ).own=true;rw[Obj.renP_own];exact(hown _ hy).1 k,.inl (show H0.nxt≤y.1 from hge hy)⟩
 ·rw[z5j,hγ];exact hds
 ·exact lt_renP hτ s0 hsl
 ·refine⟨hS'.os.trans hS.os,hS'.tape.trans hS.tape,hS'.output.trans hS.output,Nat.le_trans hS.size hS'.size,fun id k h=> ?_,fun id k o h=> ?_,fun id k id' k' o o' L L' h h' ho hb hb' he=> ?_,fun b hb hn=> ?_,fun id k o L h how hb=> ?_,fun id k hb=> ?_,?_,fun id k o h=> ?_,hS.tabs,Nat.le_trans hS.drawn hS'.drawn⟩
  ·rw[hm0] at h
   show γ id k=_
   simp only[γ];rw[if_pos h,hβ]
  ·obtain⟨o0,h0,rfl⟩:=look_renPOs h;rw[hγn _ _ (hgel h0)];exact Obj.renP_holds (by rw[hγ];exact hS'.holds _ _ _ h0)
  ·obtain⟨o0,h0,rfl⟩:=look_renPOs h;obtain⟨o1,h1,rfl⟩:=look_renPOs h';rw[hγn _ _ (hgel h0)] at hb;rw[hγn _ _ (hgel h1)] at hb';exact hS'.sep _ _ _ _ _ _ _ _ h0 h1 (by rw[Obj.renP_own] at ho;exact ho) hb hb' he
  ·rw[hw0] at hb ⊢;refine hS'.old b hb fun id k o L h how hbb he=> ?_;exact hn id k _ L (look_renPOs' h) (by rw[Obj.renP_own];exact how) (by rw[hγn _ _ (hgel h)];exact hbb) he
  ·obtain⟨o0,h0,rfl⟩:=look_renPOs h;rw[hγn _ _ (hgel h0)] at hb;rw[Obj.renP_own] at how;rcases hS'.mine _ _ _ _ h0 how hb with⟨_,q⟩|⟨q1,q2⟩
   ·obtain⟨o2,h2,ho2⟩:=q;exact absurd ho2 (hno h2)
   ·exact .inr ⟨by rw[hm0];exact q1,by rw[hw0];exact q2⟩
  ·rw[ho] at hb;obtain⟨o2,h2,ho2⟩:=hb;exact absurd ho2 (hno1 h2)
  ·rw[hm0];exact hnx
  ·obtain⟨o0,h0,rfl⟩:=look_renPOs h;have:=hS'.lt _ _ _ h0;exact⟨this.1,Obj.renP_lt hτ this.2⟩
theorem ze.wk {P:Program}{f:FuncId}{args:List SV}{H0:AH}{R R':SV→AH→Prop}(hF:ze P f args H0 R)(h:∀s H',R s H'→∃s',SV.wk s s'∧s'.lt H'.nxt∧R' s' H'):ze P f args H0 R':=by
 intro X β w vs hP hm hw hβ ho hS hd hlt;refine(hF X β w vs hP hm hw hβ ho hS hd hlt).mono ?_;rintro e w' ⟨v,rfl,β',s,H',hR,h1,h2,h3,h4⟩;obtain⟨s',g1,g2,g3⟩:=h s H' hR;exact⟨v,rfl,β',s',H',g3,h1,SV.wk_den g1 h2,g2,h4⟩
theorem ze.imp {P:Program}{f:FuncId}{args:List SV}{H0:AH}{R R':SV→AH→Prop}(hF:ze P f args H0 R)(h:∀s H',R s H'→R' s H'):ze P f args H0 R':=by
 intro X β w vs hP hm hw hβ ho hS hd hlt;refine(hF X β w vs hP hm hw hβ ho hS hd hlt).mono ?_;rintro e w' ⟨v,rfl,β',s,H',hR,h1,h2,h3,h4⟩;exact⟨v,rfl,β',s,H',h s H' hR,h1,h2,h3,h4⟩
end Go.Sk

namespace Go.Sk
open Go.RowKit
def jnP (ρ:Nat→Nat)(f n b:Nat):Pn:=fun id k=>if id=f∧n<k then(b,k-n) else(ρ id,k)
def z5y (π:Pn)(m:Nat)(os:List (Nat×Nat×(Nat→Obj))):List (Nat×Nat×(Nat→Obj))→Prop
 |[]=>True
 |(id,c',F')::l=>(∀k,k<c'→∃c F,find os (π id k).1=some (c,F)∧(π id k).2<c∧z11 π (F (π id k).2) (F' k)∧(F' k).lt m)∧id<m∧z5y π m os l
theorem z5y.get {π:Pn}{m:Nat}{os:List (Nat×Nat×(Nat→Obj))}:∀{os':List (Nat×Nat×(Nat→Obj))},z5y π m os os'→∀id c' F',(id,c',F')∈os'→∀k,k<c'→
  id<m∧(F' k).lt m∧∃o,look os (π id k).1 (π id k).2=some o∧z11 π o (F' k)
 |[],_,_,_,_,hm=>by cases hm
 |(i,c1,F1)::l,h,id,c',F',hm=>by
  obtain⟨h1,h2,h3⟩:=h
  cases hm with
  |head=>
   intro k hk;obtain⟨c,F,q0,q1,q2,q3⟩:=h1 k hk;exact⟨h2,q3,_,(zp q0 q1).trans (Obj.opt_of (z7q q2)),q2⟩
  |tail _ hm=>exact z5y.get h3 id c' F' hm
theorem z5y.cons1 {ρ:Nat→Nat}{f n b m:Nat}{os l:List (Nat×Nat×(Nat→Obj))}{id c:Nat}{F:Nat→Obj}{o':Obj}(hf:find os (ρ id)=some (c,F))(hc:0<c)(h:z11 (jnP ρ f n b) (F 0) o')(hl:o'.lt m)(hm:id<m)(ht:z5y (jnP ρ f n b) m os l):z5y (jnP ρ f n b) m os ((id,one o')::l):=by
 refine⟨fun k hk=> ?_,hm,ht⟩
 have hk0:k=0:=by
  have:k<1:=hk;omega
 subst hk0;have e:jnP ρ f n b id 0=(ρ id,0):=by rw[jnP,if_neg (by omega)]
 rw[e];exact⟨c,F,hf,hc,h,hl⟩
theorem z5y.consF {ρ:Nat→Nat}{f n b m:Nat}{os l:List (Nat×Nat×(Nat→Obj))}{c c1 c':Nat}{o o1:Bool}{e e1 e':TypeId}{sz:Nat}{G G1 G':Nat→Obj}(hf:find os (ρ f)=some (c,fam o e sz G))(hb:find os b=some (c1,fam o1 e1 sz G1))(hn:n<c)
  (h:∀i,i+1<c'→i<n→z11 (jnP ρ f n b) (G i) (G' i)∧(G' i).lt m) (h':∀i,i+1<c'→n≤i→i-n+1<c1∧z11 (jnP ρ f n b) (G1 (i-n)) (G' i)∧(G' i).lt m) (hm:f<m) (ht:z5y (jnP ρ f n b) m os l):
  z5y (jnP ρ f n b) m os ((f,(c',fam false e' sz G'))::l):=by
 refine⟨fun k hk=> ?_,hm,ht⟩
 by_cases hkn:n<k
 ·have e:jnP ρ f n b f k=(b,k-n):=by rw[jnP,if_pos ⟨rfl,hkn⟩]
  rw[e];obtain⟨i,rfl⟩:∃i,k=i+1:=⟨k-1,by omega⟩;obtain⟨q1,q2,q3⟩:=h' i hk (by omega);refine⟨c1,_,hb,by simp only;omega,?_,q3⟩;rw[show i+1-n=(i-n)+1 by omega];exact q2
 ·have e:jnP ρ f n b f k=(ρ f,k):=by rw[jnP,if_neg (by omega)]
  rw[e];refine⟨c,_,hf,by simp only;omega,?_⟩
  cases k with
  |zero=>
   refine⟨?_,fun i j s hi _=>absurd hi (Nat.not_lt_zero _)⟩;simp only[fam,z11,z1c];exact⟨fun h=>(by cases h),trivial,Nat.le_refl _,fun i hi=>absurd hi (Nat.not_lt_zero _)⟩
  |succ i=>exact h i hk (by omega)
end Go.Sk

namespace Go.Sk
open Go.RowKit
def spP (ρ:Nat→Nat)(f f2 n z:Nat):Pn:=fun id k=>if id=f2 then(if k=0 then(z,0) else(ρ f,n+k)) else(ρ id,k)
theorem HGivesSp.cons1 {ρ:Nat→Nat}{f f2 n z m:Nat}{os l:List (Nat×Nat×(Nat→Obj))}{id c:Nat}{F:Nat→Obj}{o':Obj}(hne:id≠f2)(hf:find os (ρ id)=some (c,F))(hc:0<c)(h:z11 (spP ρ f f2 n z) (F 0) o')(hl:o'.lt m)(hm:id<m)(ht:z5y (spP ρ f f2 n z) m os l):z5y (spP ρ f f2 n z) m os ((id,one o')::l):=by
 refine⟨fun k hk=> ?_,hm,ht⟩
 have hk0:k=0:=by
  have:k<1:=hk;omega
 subst hk0;have e:spP ρ f f2 n z id 0=(ρ id,0):=by rw[spP,if_neg hne]
 rw[e];exact⟨c,F,hf,hc,h,hl⟩
theorem HGivesSp.consF {ρ:Nat→Nat}{f f2 n z m:Nat}{os l:List (Nat×Nat×(Nat→Obj))}{id c c':Nat}{e e':TypeId}{sz:Nat}{G G':Nat→Obj}(hne:id≠f2)(hf:find os (ρ id)=some (c,fam true e sz G))(hn:c'≤c)(he:e'=e)
  (h:∀i,i+1<c'→z11 (spP ρ f f2 n z) (G i) (G' i)∧(G' i).lt m) (hm:id<m) (ht:z5y (spP ρ f f2 n z) m os l):
  z5y (spP ρ f f2 n z) m os ((id,(c',fam true e' sz G'))::l):=by
 subst he;refine⟨fun k hk=> ?_,hm,ht⟩;have e:spP ρ f f2 n z id k=(ρ id,k):=by rw[spP,if_neg hne]
 rw[e];refine⟨c,_,hf,by simp only;omega,?_⟩
 cases k with
 |zero=>
  refine⟨?_,fun i j s hi _=>absurd hi (Nat.not_lt_zero _)⟩;simp only[fam,z11,z1c];exact⟨fun _=>⟨trivial,trivial⟩,trivial,Nat.le_refl _,fun i hi=>absurd hi (Nat.not_lt_zero _)⟩
 |succ i=>exact h i hk
end Go.Sk

namespace Go.Sk
open Go.RowKit
def shM (r z:Nat):Nat→Nat:=fun id=>if id=r then z else id
def shA (r o:Nat):SV→SV→Prop
 |.slc false id k x n,.slc false id' k' x' n'=>id=id'∧k=k'∧n=n'∧((id=r∧k=0∧x'=0∧x=o)∨(id≠r∧x=x'))
 |a,b=>a=b∧∀z,b.ren (shM r z)=b
def shL (r o:Nat):List SV→List SV→Prop
 |[],[]=>True
 |a::l,b::l'=>shA r o a b∧shL r o l l'
 |_,_=>False
def shOff (o:Nat)(L:Loc):Loc:={L with off:=L.off+o*L.sz}
def shE (β:Env)(r o:Nat):Env:=fun id k=>if id=r then(β r k).map (shOff o) else β id k
theorem shE_ne {β:Env}{r o id:Nat}(h:id≠r)(k:Nat):shE β r o id k=β id k:=if_neg h
theorem shE_eq (β:Env)(r o k:Nat):shE β r o r k=(β r k).map (shOff o):=if_pos rfl
theorem den_sh {β β':Env}{r m:Nat}(h:∀id k,id≠r→id<m→β' id k=β id k){s:SV}{v:Value}(hl:s.lt m)(hs:s.ren (shM r m)=s)(hd:den β s v):den β' s v:=by
 let δ:Env:=fun id k=>if id=m then β' r k else β id k
 have h1:den δ s v:=z75 (m:=m) (fun id k hid=>by simp only[δ];rw[if_neg (by omega)]) s v hl hd;rw[←hs,z6v] at h1;refine z75 (m:=m) (fun id k hid=> ?_) s v hl h1;simp only[Env.via,shM,δ]
 by_cases e:id=r
 ·subst e;rw[if_pos rfl,if_pos rfl]
 ·rw[if_neg e,if_neg (by omega)];exact h id k e hid
theorem holds_sh {β β':Env}{r m:Nat}(h:∀id k,id≠r→id<m→β' id k=β id k){o:Obj}{w:World}{q:Option Loc}(hl:o.lt m)(hg:zb (shM r m) o o)(hh:o.holds β w q):o.holds β' w q:=by
 let δ:Env:=fun id k=>if id=m then β' r k else β id k
 have h1:o.holds δ w q:=hh.agree (m:=m) (fun id k hid=>by simp only[δ];rw[if_neg (by omega)]) hl;refine(objGives_holds hg h1).agree (m:=m) (fun id k hid=> ?_) hl;simp only[Env.via,shM,δ]
 by_cases e:id=r
 ·subst e;rw[if_pos rfl,if_pos rfl]
 ·rw[if_neg e,if_neg (by omega)];exact h id k e hid
def rowSh (r m o:Nat):Obj→Obj→Prop
 |.row a,.row b=>a.own=false∧b.own=false∧b.sz=a.sz∧o+b.n≤a.n∧∀i,i<b.n→a.f (o+i)=b.f i∧SV.renL (shM r m) (b.f i)=b.f i
 |_,_=>False
def HSh (r o m:Nat):List (Nat×Nat×(Nat→Obj))→List (Nat×Nat×(Nat→Obj))→Prop
 |[],[]=>True
 |(i1,c1,F1)::l1,(i0,c0,F0)::l0=>(i1=i0∧c1=c0∧if i0=r then c0=1∧rowSh r m o (F1 0) (F0 0) else F1=F0∧∀k,k<c0→zb (shM r m) (F0 k) (F0 k))∧HSh r o m l1 l0
 |_,_=>False
theorem HSh.find {r o m:Nat}:∀{os1 os0:List (Nat×Nat×(Nat→Obj))},HSh r o m os1 os0→∀{id c:Nat} {F:Nat→Obj},Sk.find os0 id=some (c,F)→∃F1,Sk.find os1 id=some (c,F1)∧if id=r then c=1∧rowSh r m o (F1 0) (F 0) else F1=F∧∀k,k<c→zb (shM r m) (F k) (F k)
 |[],[],_,_,_,_,h=>by simp[Sk.find] at h
 |(i1,c1,F1)::l1,(i0,c0,F0)::l0,hh,id,c,F,h=>by
  obtain⟨⟨rfl,rfl,h2⟩,h3⟩:=hh;simp only[Sk.find] at h ⊢
  by_cases e:i1=id
  ·rw[if_pos e] at h ⊢;subst e
   cases h
   exact⟨F1,rfl,h2⟩
  ·rw[if_neg e] at h ⊢;exact HSh.find h3 h
 |[],_::_,hh,_,_,_,_=>hh.elim
 |_::_,[],hh,_,_,_,_=>hh.elim
theorem HSh.find' {r o m:Nat}:∀{os1 os0:List (Nat×Nat×(Nat→Obj))},HSh r o m os1 os0→∀{id c:Nat} {F:Nat→Obj},Sk.find os1 id=some (c,F)→∃F0,Sk.find os0 id=some (c,F0)∧if id=r then c=1∧rowSh r m o (F 0) (F0 0) else F=F0
 |[],[],_,_,_,_,h=>by simp[Sk.find] at h
 |(i1,c1,F1)::l1,(i0,c0,F0)::l0,hh,id,c,F,h=>by
  obtain⟨⟨rfl,rfl,h2⟩,h3⟩:=hh;simp only[Sk.find] at h ⊢
  by_cases e:i1=id
  ·rw[if_pos e] at h ⊢;subst e
   cases h
   refine⟨F0,rfl,?_⟩
   split at h2
   ·rename_i g;rw[if_pos g];exact h2
   ·rename_i g;rw[if_neg g];exact h2.1
  ·rw[if_neg e] at h ⊢;exact HSh.find' h3 h
 |[],_::_,hh,_,_,_,_=>hh.elim
 |_::_,[],hh,_,_,_,_=>hh.elim
theorem rowSh_own {r m o:Nat}{a b:Obj}(h:rowSh r m o a b):a.own=false∧b.own=false:=by
 cases a<;>cases b<;>simp only[rowSh] at h
 exact⟨h.1,h.2.1⟩
theorem HSh.mem {r o m:Nat}:∀{os1 os0:List (Nat×Nat×(Nat→Obj))},HSh r o m os1 os0→∀y∈os0,(y.2.2 0).own=true→y∈os1
 |[],[],_,y,h,_=>h
 |(i1,c1,F1)::l1,(i0,c0,F0)::l0,hh,y,h,ho=>by
  obtain⟨⟨rfl,rfl,h2⟩,h3⟩:=hh
  cases h with
  |head=>
   split at h2
   ·have:=(rowSh_own h2.2).2;simp only at ho;rw[this] at ho;cases ho
   ·rw[h2.1];exact List.mem_cons_self ..
  |tail _ h=>exact List.mem_cons_of_mem _ (HSh.mem h3 y h ho)
 |[],_::_,hh,_,_,_=>hh.elim
 |_::_,[],hh,_,_,_=>hh.elim
theorem HSh.look {r o m:Nat}{os1 os0:List (Nat×Nat×(Nat→Obj))}(h:HSh r o m os1 os0){id k:Nat}{o0:Obj}(hl:Sk.look os0 id k=some o0):
  (id≠r∧Sk.look os1 id k=some o0∧zb (shM r m) o0 o0)∨(id=r∧k=0∧∃o1,Sk.look os1 id k=some o1∧rowSh r m o o1 o0):=by
 have hgn:=z45 hl;obtain⟨c,F,hf,hk,rfl⟩:=z1s hl;obtain⟨F1,hf1,h2⟩:=h.find hf
 split at h2
 ·rename_i e;obtain⟨rfl,h3⟩:=h2;have hk0:k=0:=by omega
  subst hk0;refine .inr ⟨e,rfl,F1 0,(zp hf1 hk).trans (Obj.opt_of fun g=> ?_),h3⟩;rw[g] at h3
  cases hF:F 0<;>rw[hF] at h3<;>simp only[rowSh] at h3
 ·rename_i e;obtain⟨rfl,h3⟩:=h2;exact .inl ⟨e,(zp hf1 hk).trans (Obj.opt_of hgn),h3 k hk⟩
theorem HSh.look' {r o m:Nat}{os1 os0:List (Nat×Nat×(Nat→Obj))}(h:HSh r o m os1 os0){id k:Nat}{o1:Obj}(hl:Sk.look os1 id k=some o1)(ho:o1.own=true):id≠r∧Sk.look os0 id k=some o1:=by
 have hgn:=z45 hl;obtain⟨c,F,hf,hk,rfl⟩:=z1s hl;obtain⟨F0,hf0,h2⟩:=h.find' hf
 split at h2
 ·obtain⟨rfl,h3⟩:=h2;have hk0:k=0:=by omega
  subst hk0;have:=(rowSh_own h3).1;rw[this] at ho;cases ho
 ·rename_i e;subst h2;exact⟨e,(zp hf0 hk).trans (Obj.opt_of hgn)⟩
theorem rowSh_holds {r m o:Nat}{a b:Obj}(h:rowSh r m o a b){β β':Env}{w:World}{q:Option Loc}(hb:∀id k,id≠r→id<m→β' id k=β id k)(hl:a.lt m)(hh:a.holds β w q):b.holds β' w (q.map (shOff o)):=by
 cases a<;>cases b<;>simp only[rowSh] at h
 rename_i x y;obtain⟨h1,h2,h3,h4,h5⟩:=h;rcases hh with⟨g1,g2⟩|⟨L,rfl,g1,g2,g3,g4⟩
 ·exact .inl ⟨by omega,by rw[g2];rfl⟩
 ·refine .inr ⟨shOff o L,rfl,by show L.sz=_;rw[g1,h3],g2,fun i hi=> ?_,fun e=>by rw[h2] at e;cases e⟩;obtain⟨q1,q2⟩:=g3 (o+i) (by omega);obtain⟨e1,e2⟩:=h5 i hi;rw[e1] at q1 q2;refine⟨by rw[q1,h3],fun j s hs=> ?_⟩;obtain⟨c1,v,c2,c3⟩:=q2 j s hs;refine⟨c1,v,?_,?_⟩
  ·have:L.off+(o+i)*L.sz+j=L.off+o*L.sz+i*L.sz+j:=by rw[Nat.add_mul];omega
   rw[this] at c2;exact c2
  ·have hsl:s.lt m:=hl (o+i) j s (by omega) (by rw[e1];exact hs)
   have hss:s.ren (shM r m)=s:=by
    have:=congrArg (fun l:List SV=>l[j]?) e2;simp only[renL_eq,List.getElem?_map,hs,Option.map_some,Option.some.injEq] at this;exact this
   exact den_sh hb hsl hss c3
theorem shL_den {r o m:Nat}{β:Env}(hr:r<m):∀{l l':List SV} {vs:List Value},shL r o l l'→SV.ltL m l→z4i β l vs→z4i (shE β r o) l' vs∧SV.ltL m l'
 |[],[],_,_,_,h=>⟨h,trivial⟩
 |a::l,b::l',vs,hs,hl,h=>by
  obtain⟨v,rs,hv,hrs,rfl⟩:=h;obtain⟨q1,q2⟩:=shL_den hr hs.2 hl.2 hrs;have h1:=hs.1;unfold shA at h1
  have key:den (shE β r o) b v∧b.lt m:=by
   split at h1
   ·rename_i id k x n id' k' x' n';obtain⟨rfl,rfl,rfl,h2⟩:=h1;refine⟨?_,hl.1⟩;simp only[den,z6p,Bool.false_eq_true,if_false] at hv ⊢;obtain⟨a,c,e1,e2,e3⟩:=hv;refine⟨a,c,e1,e2,fun hn=> ?_⟩;obtain⟨L,g1,g2⟩:=e3 hn;rcases h2 with⟨rfl,rfl,rfl,rfl⟩|⟨hne,rfl⟩
    ·exact⟨shOff x L,by rw[shE_eq,g1];rfl,by rw[g2];simp[shOff]⟩
    ·exact⟨L,by rw[shE_ne hne];exact g1,g2⟩
   ·obtain⟨rfl,h2⟩:=h1;exact⟨den_sh (fun id k hne _=>shE_ne hne k) hl.1 (h2 m) hv,hl.1⟩
  exact⟨⟨v,rs,key.1,q1,rfl⟩,key.2,q2⟩
 |[],_::_,_,h,_,_=>h.elim
 |_::_,[],_,h,_,_=>h.elim
theorem ze.shift {P:Program}{f:FuncId}{args0 args1:List SV}{H0:AH}{R:SV→AH→Prop}(hF:ze P f args0 H0 R)(r o:Nat){os1:List (Nat×Nat×(Nat→Obj))}(hr:r<H0.nxt)(ha:shL r o args1 args0)(hos:HSh r o H0.nxt os1 H0.os)
  (hres:∀s H',R s H'→s.ren (shM r H'.nxt)=s∧∀x∈H'.os,x.1≠r∧∀k,k<x.2.1→zb (shM r H'.nxt) (x.2.2 k) (x.2.2 k)):ze P f args1 ⟨H0.nxt,os1⟩ R:=by
 intro X β w vs hP hm0 hw hβ ho hS hd hlt;obtain⟨hd3,hl3⟩:=shL_den hr ha hlt hd;have hm0':X.m0=H0.nxt:=hm0
 have hne:∀{id k:Nat} {o0:Obj},look H0.os id k=some o0→o0.own=true→id≠r∧look os1 id k=some o0:=fun h he=>by
  rcases hos.look h with⟨h1,h2,_⟩|⟨_,_,o1,_,h3⟩
  ·exact⟨h1,h2⟩
  ·have:=(rowSh_own h3).2;rw[this] at he;cases he
 let Y:Cx:=⟨X.P,X.n,w,fun id k=> ∃o,look H0.os id k=some o∧o.own=true,H0.nxt,shE β r o,X.wrap⟩
 have hY:St Y (shE β r o) H0 w:=by
  refine⟨rfl,rfl,rfl,Nat.le_refl _,fun _ _ _=>rfl,fun id k o0 h=> ?_,fun id k id' k' o0 o' L L' h h' how hb hb' he=> ?_,fun _ _ _=>rfl,fun id k o0 L h how _=> .inl ⟨?_,o0,h,how⟩,fun id k ho=> ?_,Nat.le_refl _,fun id k o0 h=> ?_,⟨fun g hgt=> ?_,fun g hgt=> ?_⟩,Nat.le_refl _⟩
  ·rcases hos.look h with⟨h1,h2,h3⟩|⟨rfl,rfl,o1,h2,h3⟩
   ·rw[shE_ne h1];exact holds_sh (fun id k hne _=>shE_ne hne k) (hS.lt _ _ _ h2).2 h3 (hS.holds _ _ _ h2)
   ·rw[shE_eq];exact rowSh_holds h3 (fun id k hne _=>shE_ne hne k) (hS.lt _ _ _ h2).2 (hS.holds _ _ _ h2)
  ·obtain⟨g1,g2⟩:=hne h how;rw[shE_ne g1] at hb;rcases hos.look h' with⟨h1,h2,_⟩|⟨rfl,rfl,o1,h2,_⟩
   ·rw[shE_ne h1] at hb';exact hS.sep _ _ _ _ _ _ _ _ g2 h2 how hb hb' he
   ·rw[shE_eq,Option.map_eq_some_iff] at hb';obtain⟨L2,hb2,rfl⟩:=hb';exact hS.sep _ _ _ _ _ _ _ _ g2 h2 how hb hb2 he
  ·exact(hS.lt _ _ _ (hne h how).2).1
  ·obtain⟨o0,h,ho'⟩:=ho;exact⟨(hS.lt _ _ _ (hne h ho').2).1,o0,h,ho'⟩
  ·rcases hos.look h with⟨h1,h2,h3⟩|⟨rfl,rfl,o1,h2,h3⟩
   ·exact hS.lt _ _ _ h2
   ·obtain⟨q1,q2⟩:=hS.lt _ _ _ h2;refine⟨q1,?_⟩
    cases o1<;>cases o0<;>simp only[rowSh] at h3
    intro i j s hi hs;obtain⟨e1,_⟩:=h3.2.2.2.2 i hi;exact q2 (o+i) j s (by omega) (by rw[e1];exact hs)
  ·obtain⟨_,hlt2,htab⟩:=hS.tab hgt;refine⟨hlt2,htab,fun id k L ho2 hL=> ?_⟩;obtain⟨o0,h,ho'⟩:=ho2;obtain⟨g1,g2⟩:=hne h ho';have hL':shE β r o id k=some L:=hL;rw[shE_ne g1] at hL';exact(hS.tabs.1 g hgt).2.2 id k L (by rw[ho];exact⟨o0,g2,ho'⟩) (by rw[hβ];exact hL')
  ·obtain⟨_,hlt2,htab⟩:=hS.tabB hgt;refine⟨hlt2,htab,fun id k L ho2 hL=> ?_⟩;obtain⟨o0,h,ho'⟩:=ho2;obtain⟨g1,g2⟩:=hne h ho';have hL':shE β r o id k=some L:=hL;rw[shE_ne g1] at hL';exact(hS.tabs.2 g hgt).2.2 id k L (by rw[ho];exact⟨o0,g2,ho'⟩) (by rw[hβ];exact hL')
 refine(hF Y (shE β r o) w vs hP rfl rfl rfl rfl hY hd3 hl3).mono ?_;rintro e w' ⟨v,rfl,β',s,H',hR,hown,hds,hsl,hS'⟩;obtain⟨hrs,hro⟩:=hres s H' hR;have hnx:H0.nxt≤H'.nxt:=hS'.m0
 let γ:Env:=fun id k=>if id=r then β r k else β' id k
 have hγ:∀id k,id≠r→γ id k=β' id k:=fun id k h=>if_neg h;have hw0:X.w0=w:=hw
 have hnr:∀{id k:Nat} {o0:Obj},look H'.os id k=some o0→id≠r∧zb (shM r H'.nxt) o0 o0:=fun h=>by
  obtain⟨c,F,hf,hk,rfl⟩:=z1s h;obtain⟨h1,h2⟩:=hro _ (z2l hf);exact⟨h1,h2 _ hk⟩
 refine⟨v,rfl,γ,s,H',hR,fun x hx=> ?_,den_sh (fun id k h _=>hγ id k h) hsl hrs hds,hsl,?_⟩
 ·obtain⟨h1,h2⟩:=hown x hx;refine⟨h1,?_⟩;rcases h2 with h2|⟨y,hy,e1,e2,e3⟩
  ·exact .inl h2
  ·exact .inr ⟨y,hos.mem y hy e3,e1,e2,e3⟩
 ·refine⟨hS'.os.trans hS.os,hS'.tape.trans hS.tape,hS'.output.trans hS.output,Nat.le_trans hS.size hS'.size,fun id k h=> ?_,fun id k o0 h=> ?_,fun id k id' k' o0 o' L L' h h' how hb hb' he=> ?_,fun b hb hn=> ?_,fun id k o0 L h how hb=> ?_,fun id k hb=> ?_,?_,fun id k o0 h=>hS'.lt _ _ _ h,hS.tabs,Nat.le_trans hS.drawn hS'.drawn⟩
  ·rw[hm0'] at h;rw[hβ]
   by_cases er:id=r
   ·subst er;exact if_pos rfl
   ·rw[hγ id k er,hS'.fix id k h];exact shE_ne er k
  ·obtain⟨g1,g2⟩:=hnr h;rw[hγ id k g1];exact holds_sh (fun id k h _=>hγ id k h) (hS'.lt _ _ _ h).2 g2 (hS'.holds _ _ _ h)
  ·rw[hγ _ _ (hnr h).1] at hb;rw[hγ _ _ (hnr h').1] at hb';exact hS'.sep _ _ _ _ _ _ _ _ h h' how hb hb' he
  ·rw[hw0] at hb ⊢;refine hS'.old b hb fun id k o0 L h how hbb=>hn id k o0 L h how ?_;rw[hγ _ _ (hnr h).1];exact hbb
  ·rw[hγ _ _ (hnr h).1] at hb;rcases hS'.mine _ _ _ _ h how hb with⟨q1,o2,h2,ho2⟩|⟨q1,q2⟩
   ·exact .inl ⟨by rw[hm0'];exact q1,by rw[ho];exact⟨o2,(hne h2 ho2).2,ho2⟩⟩
   ·exact .inr ⟨by rw[hm0'];exact q1,by rw[hw0];exact q2⟩
  ·rw[ho] at hb;obtain⟨o2,h2,ho2⟩:=hb;obtain⟨g1,g2⟩:=hos.look' h2 ho2;obtain⟨q1,o3,q2,q3⟩:=hS'.keep id k ⟨o2,g2,ho2⟩;exact⟨by rw[hm0'];exact q1,o3,q2,q3⟩
  ·rw[hm0'];exact hnx
end Go.Sk

namespace Go.Proofs
open Go.Sk
theorem MvOm.s {a:Prop}(h:a:=by simp[SV.wkL,SV.wk,z1i,z1b,Sk.get,Sk.find,Sk.one,zb.eq_1,zb.eq_2,zb.eq_3,zo,z1k,z1g,SV.renL,SV.ren,Obj.lt_row,SV.ltL,SV.lt,z7c,z3q,zw,z25,Obj.own.eq_1,Obj.own.eq_2,Obj.own.eq_3,Obj.own.eq_4,z1e,zn,zr,z1w,nds,Nd.sv,rws,Rw.sv,Rg.sv]):a:=h
theorem MvOm.t {s e:SV}{H g:AH}(q:AfQ s e H g:=by constructor<;>(simp only[z1x,after,z57,id,z2q,reduceCtorEq,Nat.reduceEqDiff,zc5,zc6,z5u,z2p,zw,Sk.one,Obj.own.eq_1,Obj.own.eq_2,Obj.own.eq_3,Obj.own.eq_4,Obj.ren.eq_1,Obj.ren.eq_2,Obj.ren_blk,Row.ren,SV.ren,SV.renL,↓reduceIte,Nat.reduceLT,Nat.reduceAdd,Nat.reduceSub,Tryz.tyInt,Tryz.szInt,Tryz.tyStr,Tryz.tyU32,Tryz.tyNode,Tryz.szNode,Tryz.zNode,Tryz.tyNodes,Tryz.szNodes,z1e,zn,nds,Nd.sv,Tryz.tyRow,Tryz.szRow,Tryz.zRow,Tryz.tyRows,Tryz.szRows,rws,Rw.sv,Tryz.tyErr,Tryz.tyRg,Tryz.szRg,Tryz.zRg,Rg.sv,z4b,z6m];exact rfl)):AfQ s e H g:=q
theorem MvOm.c1 {P:Program}{f:FuncId}{args args0:List SV}{H0 H Y g:AH}{X e:SV}{dr:Bool}{W:List Nat}{k:SV→AH→Prop}(hF:ze P f args0 H0 fun s H1=>s=X∧H1=Y)(ρ:Nat→Nat)(h:k e g)(q:CaQ args args0 ρ H0 H dr W:=by constructor<;>exact MvOm.s)(r:CaR ρ H0 H:=by exact⟨rfl,rfl⟩)(b:AfQ (X.ren (z57 H0.nxt H.nxt ρ)) e (after H0.nxt ρ H0 H Y) g:=by exact MvOm.t):z4u P f args H dr W k:=c1S hF ρ h q r b
theorem z26 {a d:Prop}(h:d)(e:Sd a d:=by simp only[resK,z4q,z3x,Nat.zero_add,zc2,ne_eq,Sk.get,Sk.find,Sk.one,List.getElem?_cons_zero,↓reduceIte,Nat.reduceEqDiff,resV,Tryz.tyRow,Tryz.tyRg,Kd.agg,Nat.reduceAdd,Nat.zero_le,Nat.reduceLeDiff];(repeat(with_reducible apply Sd.and;exact z7));exact Sd.rfl):a:=e.f h
theorem MvOm.g {X:Cx}{fr:Fr}{H:AH}{fr1:Fr}{H1:AH}(ρ:Nat→Nat)(q:GvQ X ρ fr H fr1 H1:=by constructor<;>exact MvOm.s)(r:GvR X ρ H1:=by exact⟨rfl,rfl,Nat.le_of_ble_eq_true rfl,rfl⟩):z2v X ρ fr H fr1 H1:=gvS ρ q r
theorem z5r {a c d:Prop}(r:a→c)(h:d)(e:Sd a d:=by simp only[stp,isQ,z4q,Sk.get,Sk.put,z24,zt,↓reduceIte,reduceCtorEq,Nat.reduceEqDiff,zc2,zc3,implies_true,forall_const,zc5,qop,grdK,zc4,List.getElem?_cons_zero,beq_self_eq_true,zc1,z13,cond_true,cond_false,z3x,Sk.find,Sk.one,z17,z1u,Kd.agg,Nat.reduceBEq,ite_self,Nat.zero_add,Nat.reduceAdd,Nat.reduceMul,Nat.reduceSub,Nat.reduceLT,Nat.reduceLeDiff,Nat.zero_le,ne_eq,Int.reduceToNat,exists_eq',spl,z29,SV.cells,SV.scalar,binK,z5o,z5n,intK,z2x,strK,z37,z5m,z3u,unK,z5p,z5i,z39,z3c,z5c,z3d,z3e,optK,z3g,bndK,z36,z38,z55,z3k,lenK,z1a.len,zq.n,z50,mmK,z1y,eop,z5s,srcK,z1f,z44,z3o,capK,z5t,z2c,z2q,z30,boxK,z2d,z3m,z31,updF,mkK,z5a,z1a.ofKd,zq.ofKd,z5b,z1a.add,z1a.okKd,zq.put,zq.okKd,zq.okP,z3f,z1a.has,zq.get,zq.z,Tryz.tyInt,Tryz.szInt,Tryz.tyStr,Tryz.tyU32,Tryz.tyNode,Tryz.szNode,Tryz.zNode,Tryz.tyNodes,Tryz.szNodes,z1e,zn,nds,Nd.sv,Tryz.tyRow,Tryz.szRow,Tryz.zRow,Tryz.tyRows,Tryz.szRows,rws,Rw.sv,Tryz.tyErr,Tryz.tyRg,Tryz.szRg,Tryz.zRg,Rg.sv];(repeat(with_reducible apply Sd.and;exact z7));exact Sd.rfl):c:=r (e.f h)
theorem MvOm.rg {X:Cx}{Q:Exit→Fr→AH→Prop}{fr fr1:Fr}{H H1:AH}{l:List Code}{id:Nat}{ops:List Oper}(keep:List Nat)(h:Cs X l Q fr1 H1)(hd:z2b X.n ops=true:=by exact rfl)(e:∀K:Fr→AH→Prop,K fr1 H1→z5v X.P X.wrap X.m0 ops.toArray ops fr H (fun fr H=>K (prune keep fr) H):=by(intro K hK;(repeat(refine z5r z5 ?_));exact za (z8 hK))):Cs X (.region id ops.toArray false::l) Q fr H:=rgS keep h hd e
theorem MvOm.rs {X:Cx}{Q:Exit→Fr→AH→Prop}{fr fr1:Fr}{H H1:AH}{l:List Code}{id:Nat}{ops:List Oper}{y:Code}(keep:List Nat)(h:Cs X (y::l) Q fr1 H1)(hd:z2b X.n ops=true:=by exact rfl)(e:∀K:Fr→AH→Prop,K fr1 H1→z5v X.P X.wrap X.m0 ops.toArray ops fr H (fun fr H=>K (prune keep fr) H):=by(intro K hK;(repeat(refine z5r z5 ?_));exact za (z8 hK))):Cs X (.seq (.region id ops.toArray false) y::l) Q fr H:=Cs.seq (rgS keep h hd e)
theorem validRow_spec (r:Rw):ze Tryz.prog 77 [.agg r.sv] ⟨0,[]⟩ (fun s H1=>s= .bool (okRw r)∧H1=⟨0,[]⟩):=by
 refine ze.ofC false 12 [.tmp 2] Tryz.func77 rfl rfl Tryz.ntmps77 Tryz.results77 rfl ?_;intro w0 own0 β0 Q hQ hQn;simp only[z1n];refine MvOm.rs [1] ?_;refine sg [2] rfl ?_;intro K hK;iterate 2 (refine z5r z5 ?_)
 refine z5r z5 ?_;refine MvOm.c1 (validKey_spec r.key) (id) ?_;iterate 7 (refine z5r z5 ?_)
 refine za (z8 (hK _ _ ?_));clear hK K;refine Cs.ret ?_;refine hQ _ _ ?_;refine zm.mk (H':=⟨0,[]⟩) (.inl rfl) ?_;refine z26 ?_;refine⟨MvOm.s,(MvOm.g id),MvOm.s,?_⟩;refine⟨?_,by trivial⟩;rw[okRw,show decide ((r.val.size:Int)≤64)=decide (r.val.size≤64) from decide_eq_decide.2 (by omega)]
theorem row_not (t:List Rw)(i:Nat):(!okRw (ro t i)||(decide (0<i) && !sLt (ro t (i-1)).key (ro t i).key))= !rowB t i:=by
 rw[rowB]
 by_cases h:i=0
 ·subst h;simp
 ·have:0<i:=by omega
  simp[h,this]
theorem tblP0_spec (t:List Rw)(n:Nat)(hn:t.length=n)(hx:n≤1000000):
  ze Tryz.prog 51 [.slc false 0 0 0 n] ⟨1,[(0,Sk.one (.row ⟨false,false,45,2,n,rws t⟩))]⟩ (fun s H1=>s= .bool (tblB t)∧H1=⟨1,[]⟩):=by
 subst hn;refine ze.ofC false 34 [.tmp 2] Tryz.func51 rfl rfl Tryz.ntmps51 Tryz.results51 rfl ?_;intro w0 own0 β0 Q hQ hQn;simp only[z1n];refine MvOm.rs [0] ?_;refine Cs.seq ?_;refine MvOm.rs [0,7] ?_;refine Cs.cond _ rfl ?_ ?_
 ·intro h7;replace h7:=z6 h7;refine MvOm.rs [2] ?_;refine Cs.ret ?_;refine hQ _ _ ?_;refine zm.mk (H':=⟨1,[]⟩) (.inl rfl) ?_;refine z26 ?_;refine⟨MvOm.s,(MvOm.g id),MvOm.s,?_⟩;rw[show tblB t=false by rw[tblB,decide_eq_false (by omega),Bool.false_and]];exact⟨rfl,by trivial⟩
 ·intro h7;replace h7:=z6 h7;refine Cs.skip ?_;refine Cs.seq ?_;refine MvOm.rs [0,8,9,10] ?_;refine Cs.block ?_;intro Q0 hN0 hX0 hR0 hE0;refine Cs.loop (σ:=Nat) (fun i=>i≤t.length∧∀q,q<i→rowB t q=true) (fun i=>t.length-i) (fun i=>[(0,.slc false 0 0 0 t.length),(8,.slc false 0 0 0 t.length),(9,.int .i64 t.length),(10,.int .i64 i)]) (fun i=>⟨1,[(0,Sk.one (.row ⟨false,false,45,2,t.length,rws t⟩))]⟩) 0 ⟨Nat.zero_le _,fun q h=>by omega⟩ (ρ:=id) (MvOm.g id) ?_;rintro i hi QL1 hL1 hRL1 hEL1;refine MvOm.rs [0,8,9,10,11] ?_;refine Cs.seq ?_;refine Cs.cond _ rfl ?_ ?_
  ·intro h11;replace h11:=z6 h11;obtain⟨hi1,hi2⟩:=hi;refine Cs.skip ?_;refine Cs.seq ?_;refine Cs.block ?_;intro Q1 hN1 hX1 hR1 hE1;refine MvOm.rs [0,3,4,8,9,10] ?_;refine Cs.seq ?_;refine Cs.regTree [0,8,9,10,32] (.op 0 (.op 1 (.op 2 (.op 3 (.op 4 (.op 5 (.op 6 (.op 7 (.op 8 (.op 9 (.op 10 (.op 11 (.op 13 (.two 12 14 (.op 14 (.op 15 (.op 16 (.op 17 .done)))) (.op 12 (.op 15 (.op 16 (.op 17 .done)))))))))))))))))) [[],[0],[0,1],[0,1,2],[0,1,2,3],[0,1,2,3,4],[0,1,2,3,4,5],[0,1,2,3,4,5,6],[0,1,2,3,4,5,6],[0,1,2,3,4,5,6,8],[0,1,2,3,4,5,6,7,8,9],[0,1,2,3,4,5,6,7,8,9,10],[0,1,2,3,4,5,6,7,8,9,10,11],[0,1,2,3,4,5,6],[0,1,2,3,4,5,6,13],[0,1,2,3,4,5,6,7,8,9,10,11,12,13,14],[0,1,2,3,4,5,6,7,8,9,10,11,12,13,14,15],[0,1,2,3,4,5,6,7,8,9,10,11,12,13,14,15,16]] [[],[],[],[],[],[],[],[],[],[],[],[],[],[],[],[],[],[]] [[],[],[],[],[],[],[],[],[],[],[],[],[],[],[],[],[],[]] Tryz.mo rfl rfl (by kernel_rfl) (by kernel_rfl) (by kernel_rfl) rfl (by kernel_rfl) ?_;intro K hK hG
   have hk6:∀B:Bool,B= !rowB t i→K [(0,.slc false 0 0 0 t.length),(8,.slc false 0 0 0 t.length),(9,.int .i64 t.length),(10,.int .i64 i),(32,.bool B)] ⟨2,[(0,Sk.one (.row ⟨false,false,45,2,t.length,rws t⟩))]⟩:=by
    intro B hB;subst hB;refine hK _ _ ?_;clear hG hK K;refine Cs.cond _ rfl ?_ ?_
    ·intro h32;have hB:rowB t i=false:=by simpa using h32
     refine MvOm.rs [2] ?_;refine Cs.ret ?_;refine hR1 _ _ ?_;refine hRL1 _ _ ?_;refine hR0 _ _ ?_;refine hQ _ _ ?_;refine zm.mk (H':=⟨1,[]⟩) (.inl rfl) ?_;refine z26 ?_;refine⟨MvOm.s,(MvOm.g id),MvOm.s,?_⟩
     rw[show tblB t=false by
      rw[tblB,Bool.and_eq_false_iff]
      right
      rw[←Bool.not_eq_true,allB_iff]
      intro h;have:=h i (by omega);rw[hB] at this;cases this]
     exact⟨rfl,by trivial⟩
    ·intro h32;have hB:rowB t i=true:=by simpa using h32
     refine Cs.skip ?_;refine Cs.nil ?_;refine hN1 _ _ ?_;refine MvOm.rg [0,8,9,10] ?_;refine Cs.nil ?_;refine hL1 _ _ ?_;rw[show(i:Int)+1=((i+1:Nat):Int) from by omega];refine⟨i+1,⟨⟨by omega,fun q hq=> ?_⟩,by omega⟩,id,(MvOm.g id)⟩
     by_cases e:q=i
     ·subst e;exact hB
     ·exact hi2 q (by omega)
   refine z5r (z9 _ [] [] [] rfl rfl rfl rfl) ?_;refine z5r (z9 _ [] [] [] rfl rfl rfl rfl) ?_;refine MvOm.c1 (validRow_spec (ro t i)) (id) ?_;refine z5r (z9 _ [] [] [] rfl rfl rfl rfl) ?_;refine z5r (z9 _ [] [] [] rfl rfl rfl rfl) ?_;refine z5r (z9 _ [] [] [] rfl rfl rfl rfl) ?_;refine z5r (z9 _ [] [] [] rfl rfl rfl rfl) ?_;refine z5r (z9 _ [] [] [] rfl rfl rfl rfl) ?_;refine z5r (z9 _ [] [] [] rfl rfl rfl rfl) ?_;refine z5r (z9 _ [] [] [] rfl rfl rfl rfl) ?_;refine z5r (z9 _ [] [] [] rfl rfl rfl rfl) ?_;refine z5r (z9 _ [] [] [] rfl rfl rfl rfl) ?_;refine z5r (z9 _ [] [] [] rfl rfl rfl rfl) ?_;refine z5r (z9 _ [] [] [] rfl rfl rfl rfl) ?_;refine z70 ?_ ?_
   ·skip
    refine z5r (z9 _ [] [] [] rfl rfl rfl rfl) ?_;refine z5r (z9 _ [] [] [] rfl rfl rfl rfl) ?_;refine z5r (z9 _ [] [] [] rfl rfl rfl rfl) ?_;refine z5r (z9 _ [] [] [] rfl rfl rfl rfl) ?_;refine z5r (z9 _ [] [] [] rfl rfl rfl rfl) ?_;refine z12 ?_;refine z8 ?_;refine hG _ _ _ _ id (MvOm.g id) (hk6 (!okRw (ro t i)||(decide (0<i) && !sLt (ro t (i-1)).key (ro t i).key)) ?_);clear hk6 hG hK K;exact row_not t i
   ·skip
    refine z5r (z9 _ [] [] [] rfl rfl rfl rfl) ?_;refine z5r (z9 _ [] [] [] rfl rfl rfl rfl) ?_;refine z5r (z9 _ [] [] [] rfl rfl rfl rfl) ?_;refine z5r (z9 _ [] [] [] rfl rfl rfl rfl) ?_;refine z5r (z9 _ [] [] [] rfl rfl rfl rfl) ?_;refine z12 ?_;refine z8 ?_;refine hG _ _ _ _ id (MvOm.g id) (hk6 (!okRw (ro t i)||(decide (0<i) && !sLt (ro t (i-1)).key (ro t i).key)) ?_);clear hk6 hG hK K;exact row_not t i
  ·intro h11;replace h11:=z6 h11;obtain⟨hi1,hi2⟩:=hi;refine Cs.exit ?_;refine hEL1 _ _ _ ?_;refine hX0 _ _ ?_;refine MvOm.rs [2] ?_;refine Cs.ret ?_;refine hQ _ _ ?_;refine zm.mk (H':=⟨1,[]⟩) (.inl rfl) ?_;refine z26 ?_;refine⟨MvOm.s,(MvOm.g id),MvOm.s,?_⟩
   rw[show tblB t=true by
    rw[tblB,Bool.and_eq_true,decide_eq_true_eq,allB_iff]
    exact⟨by omega,fun q hq=>hi2 q (by omega)⟩]
   exact⟨rfl,by trivial⟩
end Go.Proofs

namespace Go.Proofs
open Go.Sk
theorem z3l (a b:Bd):ze Tryz.prog 70 [.agg a.sv,.agg b.sv] ⟨0,[]⟩ (fun s H1=>s= .int .i64 (cmpB a b)∧H1=⟨0,[]⟩):=by
 refine ze.ofC false 37 [.tmp 4] Tryz.func70 rfl rfl Tryz.ntmps70 Tryz.results70 rfl ?_;intro w0 own0 β0 Q hQ hQn;simp only[z1n];refine z2y [2,3] ?_;refine Cs.seq ?_;refine Cs.block ?_;intro Q0 hN0 hX0 hR0 hE0;refine z2y [2,3,5] ?_;refine Cs.cond _ rfl ?_ ?_
 ·intro h5
  refine z2y [4] ?_;refine Cs.ret ?_;refine hR0 _ _ ?_;refine hQ _ _ ?_;refine zm.mk (H':=⟨0,[]⟩) (.inl rfl) ?_;refine z5g ?_;refine⟨z2w,(z73 id),z2w,?_⟩;rw[cmpB,if_pos h5]
  first|trivial|exact⟨rfl,trivial⟩
 ·intro h5
  refine z2y [2,3,12] ?_;refine Cs.cond _ rfl ?_ ?_
  ·intro h12
   refine z2y [4] ?_;refine Cs.ret ?_;refine hR0 _ _ ?_;refine hQ _ _ ?_;refine zm.mk (H':=⟨0,[]⟩) (.inl rfl) ?_;refine z5g ?_;refine⟨z2w,(z73 id),z2w,?_⟩;refine⟨?_,by trivial⟩;obtain⟨ak,at_⟩:=a;obtain⟨bk,bt⟩:=b;simp only at h5 h12 ⊢;rw[cmpB,h5]
   cases at_<;>cases bt<;>simp_all
  ·intro h12
   refine z2y [27] ?_;refine Cs.cond _ rfl ?_ ?_
   ·intro h27
    refine z2y [4] ?_;refine Cs.ret ?_;refine hR0 _ _ ?_;refine hQ _ _ ?_;refine zm.mk (H':=⟨0,[]⟩) (.inl rfl) ?_;refine z5g ?_;refine⟨z2w,(z73 id),z2w,?_⟩;refine⟨?_,by trivial⟩;obtain⟨ak,at_⟩:=a;obtain⟨bk,bt⟩:=b;simp only at h5 h12 h27 ⊢;rw[cmpB,h5]
    cases at_<;>cases bt<;>simp_all
   ·intro h27
    refine Cs.skip ?_;refine Cs.nil ?_;refine hN0 _ _ ?_;refine z2y [4] ?_;refine Cs.ret ?_;refine hQ _ _ ?_;refine zm.mk (H':=⟨0,[]⟩) (.inl rfl) ?_;refine z5g ?_;refine⟨z2w,(z73 id),z2w,?_⟩;refine⟨?_,by trivial⟩;obtain⟨ak,at_⟩:=a;obtain⟨bk,bt⟩:=b;simp only at h5 h12 h27 ⊢;rw[cmpB,h5]
    cases at_<;>cases bt<;>simp_all
theorem refValidBound1_spec (b:Bd):ze Tryz.prog 88 [.agg b.sv] ⟨0,[]⟩ (fun s H1=>s= .bool (okBd b)∧H1=⟨0,[]⟩):=by
 refine ze.ofC false 16 [.tmp 2] Tryz.func88 rfl rfl Tryz.ntmps88 Tryz.results88 rfl ?_;intro w0 own0 β0 Q hQ hQn;simp only[z1n];refine z2y [1] ?_;refine sg [2] rfl ?_;intro K hK;iterate 2 (refine zd z5 ?_)
 refine zd z5 ?_;refine z2s (z7y b.key) (id) ?_;iterate 11 (refine zd z5 ?_)
 refine za (z8 (hK _ _ ?_));clear hK K;refine Cs.ret ?_;refine hQ _ _ ?_;refine zm.mk (H':=⟨0,[]⟩) (.inl rfl) ?_;refine z5g ?_;refine⟨z2w,(z73 id),z2w,?_⟩
 first|trivial|exact⟨rfl,trivial⟩
theorem refValid1_spec (r:Rg):ze Tryz.prog 80 [.agg r.sv] ⟨0,[]⟩ (fun s H1=>s= .bool (okRg r)∧H1=⟨0,[]⟩):=by
 refine ze.ofC false 19 [.tmp 2] Tryz.func80 rfl rfl Tryz.ntmps80 Tryz.results80 rfl ?_;intro w0 own0 β0 Q hQ hQn;simp only[z1n];refine z2y [1] ?_;refine sg [2] rfl ?_;intro K hK
 have hk1:∀B:Bool,B=okRg r→K [(2,.bool B)] ⟨1,[(0,Sk.one (.row ⟨true,true,57,4,1,fun _=>r.sv⟩))]⟩:=by
  intro B hB;subst hB;refine hK _ _ ?_;clear hK K;refine Cs.ret ?_;refine hQ _ _ ?_;refine zm.mk (H':=⟨0,[]⟩) (.inl rfl) ?_;refine z5g ?_;refine⟨z2w,(z73 id),z2w,?_⟩
  first|trivial|exact⟨rfl,trivial⟩
 iterate 2 (refine zd z5 ?_)
 refine zd z5 ?_;refine z2s (refValidBound1_spec r.lo) (id) ?_;iterate 3 (refine zd z5 ?_)
 refine z5 ?_;refine z1d rfl rfl ?_;refine zy ?_
 first|refine zu ?_ ?_|refine(fun(h1:false=true→_) (h2:false=false→_)=>And.intro h1 fun _=>h2 rfl) ?_ ?_|refine And.intro ?_ ?_
 ·intro hg6
  first
   |(simp at hg6;done)
   |skip
    try replace hg6:=z6 hg6
    refine zd id ?_;refine z2s (refValidBound1_spec r.hi) (id) ?_;refine zd z5 ?_
    try with_reducible refine And.intro (by clear hk1;simp_all;done) ?_
    repeat(with_reducible apply ai;exact z7)
    iterate 5 (refine zd z5 ?_)
    refine z5 ?_;refine z1d rfl rfl ?_;refine zy ?_
    first|refine zu ?_ ?_|refine(fun(h1:false=true→_) (h2:false=false→_)=>And.intro h1 fun _=>h2 rfl) ?_ ?_|refine And.intro ?_ ?_
    ·intro hg13
     first
      |(simp at hg13;done)
      |skip
       try replace hg13:=z6 hg13
       refine zd id ?_;refine z2s (z3l r.lo r.hi) (id) ?_;refine zd z5 ?_
       try with_reducible refine And.intro (by clear hk1;simp_all;done) ?_
       repeat(with_reducible apply ai;exact z7)
       refine zd z5 ?_
       try with_reducible refine And.intro (by clear hk1;simp_all;done) ?_
       repeat(with_reducible apply ai;exact z7)
       refine zd z5 ?_;refine za ?_;refine z8 ?_;refine hk1 _ ?_;clear hk1
       first|(simp_all[okRg,Rg.lo,Rg.hi];done)|(simp_all[okRg,Rg.lo,Rg.hi];rfl)
    ·intro hg13;refine⟨.int .i64 0,?_⟩
     first
      |(simp at hg13;done)
      |skip
       try replace hg13:=z6 hg13
       refine zd z5 ?_
       try with_reducible refine And.intro (by clear hk1;simp_all;done) ?_
       repeat(with_reducible apply ai;exact z7)
       refine zd z5 ?_
       try with_reducible refine And.intro (by clear hk1;simp_all;done) ?_
       repeat(with_reducible apply ai;exact z7)
       refine zd z5 ?_;refine za ?_;refine z8 ?_;refine hk1 _ ?_;clear hk1
       first|(simp_all[okRg,Rg.lo,Rg.hi];done)|(simp_all[okRg,Rg.lo,Rg.hi];rfl)
 ·intro hg6;refine⟨.bool false,?_⟩
  first
   |(simp at hg6;done)
   |skip
    try replace hg6:=z6 hg6
    refine zd z5 ?_
    try with_reducible refine And.intro (by clear hk1;simp_all;done) ?_
    repeat(with_reducible apply ai;exact z7)
    iterate 5 (refine zd z5 ?_)
    refine z5 ?_;refine z1d rfl rfl ?_;refine zy ?_
    first|refine zu ?_ ?_|refine(fun(h1:false=true→_) (h2:false=false→_)=>And.intro h1 fun _=>h2 rfl) ?_ ?_|refine And.intro ?_ ?_
    ·intro hg13
     first
      |(simp at hg13;done)
      |skip
       try replace hg13:=z6 hg13
       refine zd id ?_;refine z2s (z3l r.lo r.hi) (id) ?_;refine zd z5 ?_
       try with_reducible refine And.intro (by clear hk1;simp_all;done) ?_
       repeat(with_reducible apply ai;exact z7)
       refine zd z5 ?_
       try with_reducible refine And.intro (by clear hk1;simp_all;done) ?_
       repeat(with_reducible apply ai;exact z7)
       refine zd z5 ?_;refine za ?_;refine z8 ?_;refine hk1 _ ?_;clear hk1
       first|(simp_all[okRg,Rg.lo,Rg.hi];done)|(simp_all[okRg,Rg.lo,Rg.hi];rfl)
    ·intro hg13;refine⟨.int .i64 0,?_⟩
     first
      |(simp at hg13;done)
      |skip
       try replace hg13:=z6 hg13
       refine zd z5 ?_
       try with_reducible refine And.intro (by clear hk1;simp_all;done) ?_
       repeat(with_reducible apply ai;exact z7)
       refine zd z5 ?_
       try with_reducible refine And.intro (by clear hk1;simp_all;done) ?_
       repeat(with_reducible apply ai;exact z7)
       refine zd z5 ?_;refine za ?_;refine z8 ?_;refine hk1 _ ?_;clear hk1
       first|(simp_all[okRg,Rg.lo,Rg.hi];done)|(simp_all[okRg,Rg.lo,Rg.hi];rfl)
theorem refEmpty1_spec (r:Rg):ze Tryz.prog 64 [.agg r.sv] ⟨0,[]⟩ (fun s H1=>s= .bool (z80 r)∧H1=⟨0,[]⟩):=by
 refine ze.ofC false 14 [.tmp 2] Tryz.func64 rfl rfl Tryz.ntmps64 Tryz.results64 rfl ?_;intro w0 own0 β0 Q hQ hQn;simp only[z1n];refine z2y [1] ?_;refine sg [2] rfl ?_;intro K hK
 have hk1:∀B:Bool,B=z80 r→K [(2,.bool B)] ⟨1,[(0,Sk.one (.row ⟨true,true,57,4,1,fun _=>r.sv⟩))]⟩:=by
  intro B hB;subst hB;refine hK _ _ ?_;clear hK K;refine Cs.ret ?_;refine hQ _ _ ?_;refine zm.mk (H':=⟨0,[]⟩) (.inl rfl) ?_;refine z5g ?_;refine⟨z2w,(z73 id),z2w,?_⟩
  first|trivial|exact⟨rfl,trivial⟩
 refine zd z5 ?_;refine zd z5 ?_;refine z2s (refValid1_spec r) (id) ?_;iterate 6 (refine zd z5 ?_)
 refine z5 ?_;refine z1d rfl rfl ?_;refine zy ?_
 first|refine zu ?_ ?_|refine(fun(h1:false=true→_) (h2:false=false→_)=>And.intro h1 fun _=>h2 rfl) ?_ ?_|refine And.intro ?_ ?_
 ·intro hg8
  first
   |(simp at hg8;done)
   |skip
    try replace hg8:=z6 hg8
    refine zd id ?_;refine z2s (z3l r.lo r.hi) (id) ?_;refine zd z5 ?_
    try with_reducible refine And.intro (by clear hk1;simp_all;done) ?_
    repeat(with_reducible apply ai;exact z7)
    refine zd z5 ?_
    try with_reducible refine And.intro (by clear hk1;simp_all;done) ?_
    repeat(with_reducible apply ai;exact z7)
    refine zd z5 ?_;refine za ?_;refine z8 ?_;refine hk1 _ ?_;clear hk1
    first|(simp_all[z80,Rg.lo,Rg.hi];done)|(simp_all[z80,Rg.lo,Rg.hi];rfl)
 ·intro hg8;refine⟨.int .i64 0,?_⟩
  first
   |(simp at hg8;done)
   |skip
    try replace hg8:=z6 hg8
    refine zd z5 ?_
    try with_reducible refine And.intro (by clear hk1;simp_all;done) ?_
    repeat(with_reducible apply ai;exact z7)
    refine zd z5 ?_
    try with_reducible refine And.intro (by clear hk1;simp_all;done) ?_
    repeat(with_reducible apply ai;exact z7)
    refine zd z5 ?_;refine za ?_;refine z8 ?_;refine hk1 _ ?_;clear hk1
    first|(simp_all[z80,Rg.lo,Rg.hi];done)|(simp_all[z80,Rg.lo,Rg.hi];rfl)
theorem refContains1_spec (r:Rg)(k:ByteArray):ze Tryz.prog 43 [.agg r.sv,.str k] ⟨0,[]⟩ (fun s H1=>s= .bool (zk r k)∧H1=⟨0,[]⟩):=by
 refine ze.ofC false 29 [.tmp 4] Tryz.func43 rfl rfl Tryz.ntmps43 Tryz.results43 rfl ?_;intro w0 own0 β0 Q hQ hQn;simp only[z1n];refine z2y [1,2] ?_;refine z2y [1,2,5] ?_;refine sg [4] rfl ?_;intro K hK
 have hk2:∀B:Bool,B=zk r k→K [(4,.bool B)] ⟨2,[(1,Sk.one (.row ⟨true,true,55,2,1,fun _=>[.str k,.bool false]⟩)),(0,Sk.one (.row ⟨true,true,57,4,1,fun _=>r.sv⟩))]⟩:=by
  intro B hB;subst hB;refine hK _ _ ?_;clear hK K;refine Cs.ret ?_;refine hQ _ _ ?_;refine zm.mk (H':=⟨0,[]⟩) (.inl rfl) ?_;refine z5g ?_;refine⟨z2w,(z73 id),z2w,?_⟩
  first|trivial|exact⟨rfl,trivial⟩
 refine zd z5 ?_;refine zd z5 ?_;refine z2s (refEmpty1_spec r) (id) ?_;iterate 3 (refine zd z5 ?_)
 refine z5 ?_;refine z1d rfl rfl ?_;refine zy ?_
 first|refine zu ?_ ?_|refine(fun(h1:false=true→_) (h2:false=false→_)=>And.intro h1 fun _=>h2 rfl) ?_ ?_|refine And.intro ?_ ?_
 ·intro hg5
  first
   |(simp at hg5;done)
   |skip
    try replace hg5:=z6 hg5
    refine zd id ?_;refine z2s (z7y k) (id) ?_;refine zd z5 ?_
    try with_reducible refine And.intro (by clear hk2;simp_all;done) ?_
    repeat(with_reducible apply ai;exact z7)
    refine zd z5 ?_
    try with_reducible refine And.intro (by clear hk2;simp_all;done) ?_
    repeat(with_reducible apply ai;exact z7)
    iterate 3 (refine zd z5 ?_)
    refine z5 ?_;refine z1d rfl rfl ?_;refine zy ?_
    first|refine zu ?_ ?_|refine(fun(h1:false=true→_) (h2:false=false→_)=>And.intro h1 fun _=>h2 rfl) ?_ ?_|refine And.intro ?_ ?_
    ·intro hg11
     first
      |(simp at hg11;done)
      |skip
       try replace hg11:=z6 hg11
       refine zd id ?_;refine z2s (z3l r.lo ⟨k,false⟩) (id) ?_;refine zd z5 ?_
       try with_reducible refine And.intro (by clear hk2;simp_all;done) ?_
       repeat(with_reducible apply ai;exact z7)
       refine zd z5 ?_
       try with_reducible refine And.intro (by clear hk2;simp_all;done) ?_
       repeat(with_reducible apply ai;exact z7)
       iterate 4 (refine zd z5 ?_)
       refine z5 ?_;refine z1d rfl rfl ?_;refine zy ?_
       first|refine zu ?_ ?_|refine(fun(h1:false=true→_) (h2:false=false→_)=>And.intro h1 fun _=>h2 rfl) ?_ ?_|refine And.intro ?_ ?_
       ·intro hg18
        first
         |(simp at hg18;done)
         |skip
          try replace hg18:=z6 hg18
          refine zd id ?_;refine z2s (z3l ⟨k,false⟩ r.hi) (id) ?_;refine zd z5 ?_
          try with_reducible refine And.intro (by clear hk2;simp_all;done) ?_
          repeat(with_reducible apply ai;exact z7)
          refine zd z5 ?_
          try with_reducible refine And.intro (by clear hk2;simp_all;done) ?_
          repeat(with_reducible apply ai;exact z7)
          refine zd z5 ?_;refine za ?_;refine z8 ?_;refine hk2 _ ?_;clear hk2
          first|(simp_all[zk,Rg.lo,Rg.hi];done)|(simp_all[zk,Rg.lo,Rg.hi];rfl)|(simp_all[zk,Rg.lo,Rg.hi];intro h;exact absurd (of_decide_eq_true h) (by omega))
       ·intro hg18;refine⟨.int .i64 0,?_⟩
        first
         |(simp at hg18;done)
         |skip
          try replace hg18:=z6 hg18
          refine zd z5 ?_
          try with_reducible refine And.intro (by clear hk2;simp_all;done) ?_
          repeat(with_reducible apply ai;exact z7)
          refine zd z5 ?_
          try with_reducible refine And.intro (by clear hk2;simp_all;done) ?_
          repeat(with_reducible apply ai;exact z7)
          refine zd z5 ?_;refine za ?_;refine z8 ?_;refine hk2 _ ?_;clear hk2
          first|(simp_all[zk,Rg.lo,Rg.hi];done)|(simp_all[zk,Rg.lo,Rg.hi];rfl)|(simp_all[zk,Rg.lo,Rg.hi];intro h;exact absurd (of_decide_eq_true h) (by omega))
    ·intro hg11;refine⟨.int .i64 0,?_⟩
     first
      |(simp at hg11;done)
      |skip
       try replace hg11:=z6 hg11
       refine zd z5 ?_
       try with_reducible refine And.intro (by clear hk2;simp_all;done) ?_
       repeat(with_reducible apply ai;exact z7)
       refine zd z5 ?_
       try with_reducible refine And.intro (by clear hk2;simp_all;done) ?_
       repeat(with_reducible apply ai;exact z7)
       iterate 4 (refine zd z5 ?_)
       refine z5 ?_;refine z1d rfl rfl ?_;refine zy ?_
       first|refine zu ?_ ?_|refine(fun(h1:false=true→_) (h2:false=false→_)=>And.intro h1 fun _=>h2 rfl) ?_ ?_|refine And.intro ?_ ?_
       ·intro hg18
        first
         |(simp at hg18;done)
         |skip
          try replace hg18:=z6 hg18
          refine zd id ?_;refine z2s (z3l ⟨k,false⟩ r.hi) (id) ?_;refine zd z5 ?_
          try with_reducible refine And.intro (by clear hk2;simp_all;done) ?_
          repeat(with_reducible apply ai;exact z7)
          refine zd z5 ?_
          try with_reducible refine And.intro (by clear hk2;simp_all;done) ?_
          repeat(with_reducible apply ai;exact z7)
          refine zd z5 ?_;refine za ?_;refine z8 ?_;refine hk2 _ ?_;clear hk2
          first|(simp_all[zk,Rg.lo,Rg.hi];done)|(simp_all[zk,Rg.lo,Rg.hi];rfl)|(simp_all[zk,Rg.lo,Rg.hi];intro h;exact absurd (of_decide_eq_true h) (by omega))
       ·intro hg18;refine⟨.int .i64 0,?_⟩
        first
         |(simp at hg18;done)
         |skip
          try replace hg18:=z6 hg18
          refine zd z5 ?_
          try with_reducible refine And.intro (by clear hk2;simp_all;done) ?_
          repeat(with_reducible apply ai;exact z7)
          refine zd z5 ?_
          try with_reducible refine And.intro (by clear hk2;simp_all;done) ?_
          repeat(with_reducible apply ai;exact z7)
          refine zd z5 ?_;refine za ?_;refine z8 ?_;refine hk2 _ ?_;clear hk2
          first|(simp_all[zk,Rg.lo,Rg.hi];done)|(simp_all[zk,Rg.lo,Rg.hi];rfl)|(simp_all[zk,Rg.lo,Rg.hi];intro h;exact absurd (of_decide_eq_true h) (by omega))
 ·intro hg5;refine⟨.bool false,?_⟩
  first
   |(simp at hg5;done)
   |skip
    try replace hg5:=z6 hg5
    refine zd z5 ?_
    try with_reducible refine And.intro (by clear hk2;simp_all;done) ?_
    repeat(with_reducible apply ai;exact z7)
    refine zd z5 ?_
    try with_reducible refine And.intro (by clear hk2;simp_all;done) ?_
    repeat(with_reducible apply ai;exact z7)
    iterate 3 (refine zd z5 ?_)
    refine z5 ?_;refine z1d rfl rfl ?_;refine zy ?_
    first|refine zu ?_ ?_|refine(fun(h1:false=true→_) (h2:false=false→_)=>And.intro h1 fun _=>h2 rfl) ?_ ?_|refine And.intro ?_ ?_
    ·intro hg11
     first
      |(simp at hg11;done)
      |skip
       try replace hg11:=z6 hg11
       refine zd id ?_;refine z2s (z3l r.lo ⟨k,false⟩) (id) ?_;refine zd z5 ?_
       try with_reducible refine And.intro (by clear hk2;simp_all;done) ?_
       repeat(with_reducible apply ai;exact z7)
       refine zd z5 ?_
       try with_reducible refine And.intro (by clear hk2;simp_all;done) ?_
       repeat(with_reducible apply ai;exact z7)
       iterate 4 (refine zd z5 ?_)
       refine z5 ?_;refine z1d rfl rfl ?_;refine zy ?_
       first|refine zu ?_ ?_|refine(fun(h1:false=true→_) (h2:false=false→_)=>And.intro h1 fun _=>h2 rfl) ?_ ?_|refine And.intro ?_ ?_
       ·intro hg18
        first
         |(simp at hg18;done)
         |skip
          try replace hg18:=z6 hg18
          refine zd id ?_;refine z2s (z3l ⟨k,false⟩ r.hi) (id) ?_;refine zd z5 ?_
          try with_reducible refine And.intro (by clear hk2;simp_all;done) ?_
          repeat(with_reducible apply ai;exact z7)
          refine zd z5 ?_
          try with_reducible refine And.intro (by clear hk2;simp_all;done) ?_
          repeat(with_reducible apply ai;exact z7)
          refine zd z5 ?_;refine za ?_;refine z8 ?_;refine hk2 _ ?_;clear hk2
          first|(simp_all[zk,Rg.lo,Rg.hi];done)|(simp_all[zk,Rg.lo,Rg.hi];rfl)|(simp_all[zk,Rg.lo,Rg.hi];intro h;exact absurd (of_decide_eq_true h) (by omega))
       ·intro hg18;refine⟨.int .i64 0,?_⟩
        first
         |(simp at hg18;done)
         |skip
          try replace hg18:=z6 hg18
          refine zd z5 ?_
          try with_reducible refine And.intro (by clear hk2;simp_all;done) ?_
          repeat(with_reducible apply ai;exact z7)
          refine zd z5 ?_
          try with_reducible refine And.intro (by clear hk2;simp_all;done) ?_
          repeat(with_reducible apply ai;exact z7)
          refine zd z5 ?_;refine za ?_;refine z8 ?_;refine hk2 _ ?_;clear hk2
          first|(simp_all[zk,Rg.lo,Rg.hi];done)|(simp_all[zk,Rg.lo,Rg.hi];rfl)|(simp_all[zk,Rg.lo,Rg.hi];intro h;exact absurd (of_decide_eq_true h) (by omega))
    ·intro hg11;refine⟨.int .i64 0,?_⟩
     first
      |(simp at hg11;done)
      |skip
       try replace hg11:=z6 hg11
       refine zd z5 ?_
       try with_reducible refine And.intro (by clear hk2;simp_all;done) ?_
       repeat(with_reducible apply ai;exact z7)
       refine zd z5 ?_
       try with_reducible refine And.intro (by clear hk2;simp_all;done) ?_
       repeat(with_reducible apply ai;exact z7)
       iterate 4 (refine zd z5 ?_)
       refine z5 ?_;refine z1d rfl rfl ?_;refine zy ?_
       first|refine zu ?_ ?_|refine(fun(h1:false=true→_) (h2:false=false→_)=>And.intro h1 fun _=>h2 rfl) ?_ ?_|refine And.intro ?_ ?_
       ·intro hg18
        first
         |(simp at hg18;done)
         |skip
          try replace hg18:=z6 hg18
          refine zd id ?_;refine z2s (z3l ⟨k,false⟩ r.hi) (id) ?_;refine zd z5 ?_
          try with_reducible refine And.intro (by clear hk2;simp_all;done) ?_
          repeat(with_reducible apply ai;exact z7)
          refine zd z5 ?_
          try with_reducible refine And.intro (by clear hk2;simp_all;done) ?_
          repeat(with_reducible apply ai;exact z7)
          refine zd z5 ?_;refine za ?_;refine z8 ?_;refine hk2 _ ?_;clear hk2
          first|(simp_all[zk,Rg.lo,Rg.hi];done)|(simp_all[zk,Rg.lo,Rg.hi];rfl)|(simp_all[zk,Rg.lo,Rg.hi];intro h;exact absurd (of_decide_eq_true h) (by omega))
       ·intro hg18;refine⟨.int .i64 0,?_⟩
        first
         |(simp at hg18;done)
         |skip
          try replace hg18:=z6 hg18
          refine zd z5 ?_
          try with_reducible refine And.intro (by clear hk2;simp_all;done) ?_
          repeat(with_reducible apply ai;exact z7)
          refine zd z5 ?_
          try with_reducible refine And.intro (by clear hk2;simp_all;done) ?_
          repeat(with_reducible apply ai;exact z7)
          refine zd z5 ?_;refine za ?_;refine z8 ?_;refine hk2 _ ?_;clear hk2
          first|(simp_all[zk,Rg.lo,Rg.hi];done)|(simp_all[zk,Rg.lo,Rg.hi];rfl)|(simp_all[zk,Rg.lo,Rg.hi];intro h;exact absurd (of_decide_eq_true h) (by omega))
end Go.Proofs

namespace Go.Proofs
open Go.Sk
theorem kLt_trans {a b c:ByteArray}(h1:sLt a b=true)(h2:sLt b c=true):sLt a c=true:=bl_trans h1 h2
theorem kLt_asym {a b:ByteArray}(h:sLt a b=true):sLt b a=false:=by
 cases h2:sLt b a
 ·rfl
 ·have:=kLt_trans h h2;rw[sLt_irr] at this;cases this
theorem kLe_lt {a b c:ByteArray}(h1:sLt b a=false)(h2:sLt b c=true):sLt a c=true:=by
 by_cases e:a=b
 ·subst e;exact h2
 ·cases h3:sLt a b
  ·exact absurd (ba_ext (bl_eq h3 h1)) e
  ·exact kLt_trans h3 h2
theorem kLt_le {a b c:ByteArray}(h1:sLt a b=true)(h2:sLt c b=false):sLt a c=true:=by
 by_cases e:b=c
 ·subst e;exact h1
 ·cases h3:sLt b c
  ·exact absurd (ba_ext (bl_eq h3 h2)) e
  ·exact kLt_trans h1 h3
inductive Tok where
 |row (r:Rw)
 |bd (k:ByteArray)
def Tok.rel:Tok→Tok→Prop
 |.row a,.row b=>sLt a.key b.key=true
 |.row a,.bd k=>sLt a.key k=true
 |.bd k,.row b=>sLt b.key k=false
 |.bd k,.bd k'=>sLt k k'=true
def tok1 (h:Hd):List Tok:= .bd h.nd.key::h.rows.map .row
def toks (l:List Hd):List Tok:=l.flatMap tok1
theorem z5q (a b:List Hd):toks (a++b)=toks a++toks b:=by simp[toks]
theorem z7b (h:Hd)(l:List Hd):toks (h::l)= .bd h.nd.key::(h.rows.map .row++toks l):=by simp[toks,tok1]
theorem tok_ins {X Z:List Tok}{a b:Rw}(h:(X++ .row a:: .row b::Z).Pairwise Tok.rel):(X++ .row a:: .bd b.key:: .row b::Z).Pairwise Tok.rel:=by
 rw[List.pairwise_append,List.pairwise_cons,List.pairwise_cons] at h ⊢;obtain⟨h1,⟨h2,h3,h4⟩,h5⟩:=h;have hab:sLt a.key b.key=true:=h2 _ (List.mem_cons_self ..);refine⟨h1,⟨fun t ht=> ?_,?_⟩,fun t ht u hu=> ?_⟩
 ·rcases List.mem_cons.1 ht with rfl|ht
  ·exact hab
  ·exact h2 t ht
 ·rw[List.pairwise_cons];refine⟨fun t ht=> ?_,h3,h4⟩;rcases List.mem_cons.1 ht with rfl|ht
  ·exact sLt_irr _
  ·have:=h3 t ht
   cases t with
   |row r=>exact kLt_asym this
   |bd k=>exact this
 ·rcases List.mem_cons.1 hu with rfl|hu
  ·exact h5 t ht _ (List.mem_cons_self ..)
  ·rcases List.mem_cons.1 hu with rfl|hu
   ·have:=h5 t ht _ (List.mem_cons_self ..)
    cases t with
    |row r=>exact kLt_trans this hab
    |bd k=>exact kLe_lt this hab
   ·exact h5 t ht u (List.mem_cons_of_mem _ hu)
structure Wd (l:List Hd):Prop where
 tk:(toks l).Pairwise Tok.rel
 tot:(z6q l).length≤1024
 ok:∀r∈z6q l,okRw r=true
 len:l.length≤64
 nok:∀h∈l,badN h.nd=false
 ids:(l.map (·.nd.id)).Nodup
theorem bad_setK {x:Nd}{k:ByteArray}(h:badN x=false)(hk:okKey k=true):badN (z54 x k)=false:=by
 simp only[badN,z54,Bool.or_eq_false_iff,Bool.not_eq_false'] at h ⊢;exact⟨⟨h.1.1,hk⟩,h.2⟩
theorem bad_key {x:Nd}(h:badN x=false):okKey x.key=true:=by
 simp only[badN,Bool.or_eq_false_iff,Bool.not_eq_false'] at h;exact h.1.2
theorem tabL_append (a b:List Hd):z6q (a++b)=z6q a++z6q b:=by simp[z6q]
theorem tabL_cons (h:Hd)(l:List Hd):z6q (h::l)=h.rows++z6q l:=by simp[z6q]
theorem Wd.right {P Q:List Hd}{x y:Nd}{A B R:List Rw}{a b:Rw}(h:Wd (P++⟨x,A++a::b::B⟩::⟨y,R⟩::Q)):Wd (P++⟨x,A++[a]⟩::⟨z54 y b.key,b::B++R⟩::Q):=by
 have ht:z6q (P++⟨x,A++[a]⟩::⟨z54 y b.key,b::B++R⟩::Q)=z6q (P++⟨x,A++a::b::B⟩::⟨y,R⟩::Q):=by simp[z6q]
 have hb:okKey b.key=true:=by
  have:=h.ok b (by simp[z6q]);simp only[okRw,Bool.and_eq_true] at this;exact this.1
 refine⟨?_,by rw[ht];exact h.tot,by rw[ht];exact h.ok,by have:=h.len;simp at this ⊢;omega,fun z hz=> ?_,?_⟩
 ·have h1:=h.tk;simp only[z5q,z7b,List.map_append,List.map_cons,List.append_assoc,List.cons_append,List.map_nil,List.nil_append] at h1 ⊢
  have h2:(toks P++Tok.bd x.key::(A.map Tok.row++Tok.row a::Tok.row b::(B.map Tok.row++(R.map Tok.row++toks Q)))).Pairwise Tok.rel:=by
   refine h1.sublist ?_;refine List.Sublist.append_left ?_ _;refine List.Sublist.cons_cons _ ?_;refine List.Sublist.append_left ?_ _;refine List.Sublist.cons_cons _ (List.Sublist.cons_cons _ ?_);exact List.Sublist.append_left (List.sublist_cons_self _ _) _
  have h3:=tok_ins (X:=toks P++Tok.bd x.key::A.map Tok.row) (a:=a) (b:=b) (Z:=B.map Tok.row++(R.map Tok.row++toks Q)) (by simpa using h2);simpa [z54] using h3
 ·simp only[List.mem_append,List.mem_cons] at hz;rcases hz with hz|rfl|rfl|hz
  ·exact h.nok z (by simp[hz])
  ·exact h.nok ⟨x,A++a::b::B⟩ (by simp)
  ·exact bad_setK (h.nok ⟨y,R⟩ (by simp)) hb
  ·exact h.nok z (by simp[hz])
 ·have:=h.ids;simpa [z54] using this
theorem Wd.left {P Q:List Hd}{x y:Nd}{A B R:List Rw}{a b:Rw}(h:Wd (P++⟨x,R⟩::⟨y,A++a::b::B⟩::Q)):Wd (P++⟨x,R++(A++[a])⟩::⟨z54 y b.key,b::B⟩::Q):=by
 have ht:z6q (P++⟨x,R++(A++[a])⟩::⟨z54 y b.key,b::B⟩::Q)=z6q (P++⟨x,R⟩::⟨y,A++a::b::B⟩::Q):=by simp[z6q]
 have hb:okKey b.key=true:=by
  have:=h.ok b (by simp[z6q]);simp only[okRw,Bool.and_eq_true] at this;exact this.1
 refine⟨?_,by rw[ht];exact h.tot,by rw[ht];exact h.ok,by have:=h.len;simp at this ⊢;omega,fun z hz=> ?_,?_⟩
 ·have h1:=h.tk;simp only[z5q,z7b,List.map_append,List.map_cons,List.append_assoc,List.cons_append,List.map_nil,List.nil_append] at h1 ⊢
  have h2:(toks P++Tok.bd x.key::(R.map Tok.row++(A.map Tok.row++Tok.row a::Tok.row b::(B.map Tok.row++toks Q)))).Pairwise Tok.rel:=by
   refine h1.sublist ?_;refine List.Sublist.append_left ?_ _;refine List.Sublist.cons_cons _ ?_;exact List.Sublist.append_left (List.sublist_cons_self _ _) _
  have h3:=tok_ins (X:=toks P++Tok.bd x.key::(R.map Tok.row++A.map Tok.row)) (a:=a) (b:=b) (Z:=B.map Tok.row++toks Q) (by simpa using h2);simpa [z54] using h3
 ·simp only[List.mem_append,List.mem_cons] at hz;rcases hz with hz|rfl|rfl|hz
  ·exact h.nok z (by simp[hz])
  ·exact h.nok ⟨x,R⟩ (by simp)
  ·exact bad_setK (h.nok ⟨y,A++a::b::B⟩ (by simp)) hb
  ·exact h.nok z (by simp[hz])
 ·have:=h.ids;simpa [z54] using this
theorem Wd.merge {P Q:List Hd}{x y:Nd}{A B:List Rw}(h:Wd (P++⟨x,A⟩::⟨y,B⟩::Q))(z:Nd)(hz:(z.id=x.id∨z.id=y.id)∧z.key=x.key∧badN z=false):Wd (P++⟨z,A++B⟩::Q):=by
 have ht:z6q (P++⟨z,A++B⟩::Q)=z6q (P++⟨x,A⟩::⟨y,B⟩::Q):=by simp[z6q]
 refine⟨?_,by rw[ht];exact h.tot,by rw[ht];exact h.ok,by have:=h.len;simp at this ⊢;omega,fun u hu=> ?_,?_⟩
 ·have h1:=h.tk;simp only[z5q,z7b,List.map_append,List.append_assoc] at h1 ⊢;rw[hz.2.1];refine h1.sublist ?_;refine List.Sublist.append_left ?_ _;refine List.Sublist.cons_cons _ ?_;exact List.Sublist.append_left (List.sublist_cons_self _ _) _
 ·simp only[List.mem_append,List.mem_cons] at hu;rcases hu with hu|rfl|hu
  ·exact h.nok u (by simp[hu])
  ·exact hz.2.2
  ·exact h.nok u (by simp[hu])
 ·have h1:=h.ids;simp only[List.map_append,List.map_cons] at h1 ⊢;rcases hz.1 with e|e
  ·rw[e];refine h1.sublist (List.Sublist.append_left (List.Sublist.cons_cons _ (List.sublist_cons_self _ _)) _)
  ·rw[e];exact h1.sublist (List.Sublist.append_left (List.sublist_cons_self _ _) _)
theorem Wd.ins {P Q:List Hd}{x z:Nd}{A B:List Rw}{a b:Rw}(h:Wd (P++⟨x,A++a::b::B⟩::Q))(hl:P.length+Q.length+2≤64)(hz:badN z=false)(hi:∀u∈P++⟨x,A++a::b::B⟩::Q,u.nd.id≠z.id):Wd (P++⟨x,A++[a]⟩::⟨z54 z b.key,b::B⟩::Q):=by
 have ht:z6q (P++⟨x,A++[a]⟩::⟨z54 z b.key,b::B⟩::Q)=z6q (P++⟨x,A++a::b::B⟩::Q):=by simp[z6q]
 have hb:okKey b.key=true:=by
  have:=h.ok b (by simp[z6q]);simp only[okRw,Bool.and_eq_true] at this;exact this.1
 refine⟨?_,by rw[ht];exact h.tot,by rw[ht];exact h.ok,by simp;omega,fun u hu=> ?_,?_⟩
 ·have h1:=h.tk;simp only[z5q,z7b,List.map_append,List.map_cons,List.append_assoc,List.cons_append,List.map_nil,List.nil_append] at h1 ⊢;have h3:=tok_ins (X:=toks P++Tok.bd x.key::A.map Tok.row) (a:=a) (b:=b) (Z:=B.map Tok.row++toks Q) (by simpa using h1);simpa [z54] using h3
 ·simp only[List.mem_append,List.mem_cons] at hu;rcases hu with hu|rfl|rfl|hu
  ·exact h.nok u (by simp[hu])
  ·exact h.nok ⟨x,A++a::b::B⟩ (by simp)
  ·exact bad_setK hz hb
  ·exact h.nok u (by simp[hu])
 ·have h1:=h.ids;simp only[List.map_append,List.map_cons,z54] at h1 ⊢
  have h2:z.id∉P.map (·.nd.id)++x.id::Q.map (·.nd.id):=fun hm=>by
   simp only[List.mem_append,List.mem_map,List.mem_cons] at hm;rcases hm with⟨u,hu,e⟩|e|⟨u,hu,e⟩
   ·exact hi u (by simp[hu]) e
   ·exact hi ⟨x,A++a::b::B⟩ (by simp) e.symm
   ·exact hi u (by simp[hu]) e
  have h3:(P.map (·.nd.id)++x.id::z.id::Q.map (·.nd.id)).Perm (z.id::(P.map (·.nd.id)++x.id::Q.map (·.nd.id))):=by
   rw[show P.map (·.nd.id)++x.id::z.id::Q.map (·.nd.id)=(P.map (·.nd.id)++[x.id])++z.id::Q.map (·.nd.id) by simp];refine List.perm_middle.trans ?_;simp
  exact h3.nodup_iff.2 (List.nodup_cons.2 ⟨h2,h1⟩)
end Go.Proofs

namespace Go.Proofs
open Go.Sk
theorem tabL_take {l:List Hm}{i:Nat}(h:i<l.length):z6q (vls (l.take (i+1)))=z6q (vls (l.take i))++(hm l i).full.drop (hm l i).off:=by
 rw[List.take_succ_eq_append_getElem h,vls,List.map_append,tabL_append,hm_lt h];simp[vls,z6q,Hm.v,Hm.rows]
theorem tabL_take_le (l:List Hm)(i:Nat):(z6q (vls (l.take i))).length≤(z6q (vls l)).length:=by
 conv=>rhs;rw[←List.take_append_drop i l]
 rw[vls,vls,List.map_append,tabL_append];simp
def hmOk (l:List Hm):Prop:=∀i,i<l.length→(hm l i).off≤(hm l i).full.length
end Go.Proofs

namespace Go.Proofs
open Go.Sk
theorem row_not2 (t:List Rw)(i:Nat):(!okKey (ro t i).key||decide ((64:Int)<((ro t i).val.size:Int))||(decide (0<i) && !sLt (ro t (i-1)).key (ro t i).key))= !rowB t i:=by
 rw[←row_not,okRw,Bool.not_and]
 congr 2
 rw[←decide_not];exact decide_eq_decide.2 (by omega)
theorem MvQm.s {a:Prop}(h:a:=by simp[SV.wkL,SV.wk,z1i,z1b,Sk.get,Sk.find,Sk.one,zb.eq_1,zb.eq_2,zb.eq_3,zo,z1k,z1g,SV.renL,SV.ren,Obj.lt_row,SV.ltL,SV.lt,z7c,z3q,zw,z25,Obj.own.eq_1,Obj.own.eq_2,Obj.own.eq_3,Obj.own.eq_4,z1e,zn,zr,z1w,nds,Nd.sv,z19,z2h,Rg.sv]):a:=h
theorem MvQm.t {s e:SV}{H g:AH}(q:AfQ s e H g:=by constructor<;>(simp only[z1x,after,z57,id,z2q,reduceCtorEq,Nat.reduceEqDiff,zc5,zc6,z5u,z2p,zw,Sk.one,Obj.own.eq_1,Obj.own.eq_2,Obj.own.eq_3,Obj.own.eq_4,Obj.ren.eq_1,Obj.ren.eq_2,Obj.ren_blk,Row.ren,SV.ren,SV.renL,↓reduceIte,Nat.reduceLT,Nat.reduceAdd,Nat.reduceSub,Tryz.tyInt,Tryz.szInt,Tryz.tyStr,Tryz.tyU32,Tryz.tyNode,Tryz.szNode,Tryz.zNode,Tryz.tyNodes,Tryz.szNodes,z1e,zn,nds,Nd.sv,Tryz.tyRow,Tryz.szRow,Tryz.zRow,Tryz.tyRows,Tryz.szRows,Tryz.tyErr,Tryz.tyRg,Tryz.szRg,Tryz.zRg,Rg.sv,z79,z4b,z6m];exact rfl)):AfQ s e H g:=q
theorem MvQm.c1 {P:Program}{f:FuncId}{args args0:List SV}{H0 H Y g:AH}{X e:SV}{dr:Bool}{W:List Nat}{k:SV→AH→Prop}(hF:ze P f args0 H0 fun s H1=>s=X∧H1=Y)(ρ:Nat→Nat)(h:k e g)(q:CaQ args args0 ρ H0 H dr W:=by constructor<;>exact MvQm.s)(r:CaR ρ H0 H:=by exact⟨rfl,rfl⟩)(b:AfQ (X.ren (z57 H0.nxt H.nxt ρ)) e (after H0.nxt ρ H0 H Y) g:=by exact MvQm.t):z4u P f args H dr W k:=c1S hF ρ h q r b
theorem MvQm.g {X:Cx}{fr:Fr}{H:AH}{fr1:Fr}{H1:AH}(ρ:Nat→Nat)(q:GvQ X ρ fr H fr1 H1:=by constructor<;>exact MvQm.s)(r:GvR X ρ H1:=by exact⟨rfl,rfl,Nat.le_of_ble_eq_true rfl,rfl⟩):z2v X ρ fr H fr1 H1:=gvS ρ q r
theorem zc7:type_of%(And.intro @List.length_append.{0} @List.length_singleton.{0}):=And.intro @List.length_append.{0} @List.length_singleton.{0}
theorem z60 {a:Prop}(h:a:=by simp[SV.wkL,SV.wk,z1i,z1b,Sk.get,Sk.find,Sk.one,zb.eq_1,zb.eq_2,zb.eq_3,zo,z1k,z1g,SV.renL,SV.ren,Obj.lt_row,SV.ltL,SV.lt,z7c,z3q,zw,z25,Obj.own.eq_1,Obj.own.eq_2,Obj.own.eq_3,Obj.own.eq_4,z1e,zn,zr,z1w,nds,Nd.sv,z19,z2h,Rg.sv,zc7]):a:=h
theorem z3r {X:Cx}{fr:Fr}{H:AH}{fr1:Fr}{H1:AH}(ρ:Nat→Nat)(q:GvQ X ρ fr H fr1 H1:=by constructor<;>exact z60)(r:GvR X ρ H1:=by exact⟨rfl,rfl,Nat.le_of_ble_eq_true rfl,rfl⟩):z2v X ρ fr H fr1 H1:=gvS ρ q r
theorem z3y {a c d:Prop}(r:a→c)(h:d)(e:Sd a d:=by simp only[stp,isQ,z4q,Sk.get,Sk.put,z24,zt,↓reduceIte,reduceCtorEq,Nat.reduceEqDiff,zc2,zc3,implies_true,forall_const,zc5,qop,grdK,zc4,List.getElem?_cons_zero,beq_self_eq_true,zc1,z13,cond_true,cond_false,z3x,Sk.find,Sk.one,z17,z1u,Kd.agg,Nat.reduceBEq,ite_self,Nat.zero_add,Nat.reduceAdd,Nat.reduceMul,Nat.reduceSub,Nat.reduceLT,Nat.reduceLeDiff,Nat.zero_le,ne_eq,Int.reduceToNat,exists_eq',spl,z29,SV.cells,SV.scalar,binK,z5o,z5n,intK,z2x,strK,z37,z5m,z3u,unK,z5p,z5i,z39,z3c,z5c,z3d,z3e,optK,z3g,bndK,z36,z38,z55,z3k,lenK,z1a.len,zq.n,z50,mmK,z1y,eop,z5s,srcK,z1f,z44,z3o,capK,z5t,z2c,z2q,z30,boxK,z2d,z3m,z31,updF,mkK,z5a,z1a.ofKd,zq.ofKd,z5b,z1a.add,z1a.okKd,zq.put,zq.okKd,zq.okP,z3f,z1a.has,zq.get,zq.z,Tryz.tyInt,Tryz.szInt,Tryz.tyStr,Tryz.tyU32,Tryz.tyNode,Tryz.szNode,Tryz.zNode,Tryz.tyNodes,Tryz.szNodes,z1e,zn,nds,Nd.sv,Tryz.tyRow,Tryz.szRow,Tryz.zRow,Tryz.tyRows,Tryz.szRows,z8p,Tryz.tyErr,Tryz.tyRg,Tryz.szRg,Tryz.zRg,Rg.sv,z79];(repeat(with_reducible apply Sd.and;exact z7));exact Sd.rfl):c:=r (e.f h)
theorem MvQm.rg {X:Cx}{Q:Exit→Fr→AH→Prop}{fr fr1:Fr}{H H1:AH}{l:List Code}{id:Nat}{ops:List Oper}(keep:List Nat)(h:Cs X l Q fr1 H1)(hd:z2b X.n ops=true:=by exact rfl)(e:∀K:Fr→AH→Prop,K fr1 H1→z5v X.P X.wrap X.m0 ops.toArray ops fr H (fun fr H=>K (prune keep fr) H):=by(intro K hK;(repeat(refine z3y z5 ?_));exact za (z8 hK))):Cs X (.region id ops.toArray false::l) Q fr H:=rgS keep h hd e
theorem z4f {X:Cx}{Q:Exit→Fr→AH→Prop}{fr fr1:Fr}{H H1:AH}{l:List Code}{id:Nat}{ops:List Oper}{y:Code}(keep:List Nat)(h:Cs X (y::l) Q fr1 H1)(hd:z2b X.n ops=true:=by exact rfl)(e:∀K:Fr→AH→Prop,K fr1 H1→z5v X.P X.wrap X.m0 ops.toArray ops fr H (fun fr H=>K (prune keep fr) H):=by(intro K hK;(repeat(refine z3y z5 ?_));exact za (z8 hK))):Cs X (.seq (.region id ops.toArray false) y::l) Q fr H:=Cs.seq (rgS keep h hd e)
theorem tblR0_spec (t:List Rw)(n:Nat)(hn:t.length=n)(hx:n≤1000000):
  ze Tryz.prog 58 [.slc false 0 0 0 n] ⟨1,[(0,Sk.one (.row ⟨false,false,45,2,n,rws t⟩))]⟩ (fun s H1=>s= .bool (tblB t)∧H1=⟨1,[]⟩):=by
 subst hn;refine ze.ofC false 41 [.tmp 2] Tryz.func58 rfl rfl Tryz.ntmps58 Tryz.results58 rfl ?_;intro w0 own0 β0 Q hQ hQn;simp only[z1n];refine z4f [0] ?_;refine Cs.seq ?_;refine z4f [0,7] ?_;refine Cs.cond _ rfl ?_ ?_
 ·intro h7;replace h7:=z6 h7;refine z4f [2] ?_;refine Cs.ret ?_;refine hQ _ _ ?_;refine zm.mk (H':=⟨1,[]⟩) (.inl rfl) ?_;refine z26 ?_;refine⟨MvQm.s,(MvQm.g id),MvQm.s,?_⟩;rw[show tblB t=false by rw[tblB,decide_eq_false (by omega),Bool.false_and]];exact⟨rfl,by trivial⟩
 ·intro h7;replace h7:=z6 h7;refine Cs.skip ?_;refine Cs.seq ?_;refine z4f [0,8,9,10] ?_;refine Cs.block ?_;intro Q0 hN0 hX0 hR0 hE0;refine Cs.loop (σ:=Nat) (fun i=>i≤t.length∧∀q,q<i→rowB t q=true) (fun i=>t.length-i) (fun i=>[(0,.slc false 0 0 0 t.length),(8,.slc false 0 0 0 t.length),(9,.int .i64 t.length),(10,.int .i64 i)]) (fun i=>⟨1,[(0,Sk.one (.row ⟨false,false,45,2,t.length,rws t⟩))]⟩) 0 ⟨Nat.zero_le _,fun q h=>by omega⟩ (ρ:=id) (MvQm.g id) ?_;rintro i hi QL1 hL1 hRL1 hEL1;refine z4f [0,8,9,10,11] ?_;refine Cs.seq ?_;refine Cs.cond _ rfl ?_ ?_
  ·intro h11;replace h11:=z6 h11;obtain⟨hi1,hi2⟩:=hi;refine Cs.skip ?_;refine Cs.seq ?_;refine Cs.block ?_;intro Q1 hN1 hX1 hR1 hE1;refine z4f [0,3,4,8,9,10] ?_;refine Cs.seq ?_;refine Cs.regTree [0,8,9,10,39] (.op 0 (.op 1 (.op 2 (.op 3 (.op 4 (.op 5 (.op 6 (.op 7 (.op 8 (.op 9 (.op 10 (.op 11 (.op 12 (.op 13 (.op 14 (.op 15 (.op 16 (.op 17 (.op 18 (.op 20 (.two 19 21 (.op 21 (.op 22 (.op 23 (.op 24 .done)))) (.op 19 (.op 22 (.op 23 (.op 24 .done))))))))))))))))))))))))) [[],[0],[0,1],[0,1,2],[0,1,2,3],[0,1,2,3,4],[0,1,2,3,4,5],[0,1,2,3,4,5,6],[0,1,2,3,4,5,6,7],[0,1,2,3,4,5,6,7,8],[0,1,2,3,4,5,6,7,8,9],[0,1,2,3,4,5,6,7,8,9,10],[0,1,2,3,4,5,6,7,8,9,10,11],[0,1,2,3,4,5,6,7,8,9,10,11,12],[0,1,2,3,4,5,6,7,8,9,10,11,12,13],[0,1,2,3,4,5,6,7,8,9,10,11,12,13],[0,1,2,3,4,5,6,7,8,9,10,11,12,13,15],[0,1,2,3,4,5,6,7,8,9,10,11,12,13,14,15,16],[0,1,2,3,4,5,6,7,8,9,10,11,12,13,14,15,16,17],[0,1,2,3,4,5,6,7,8,9,10,11,12,13,14,15,16,17,18],[0,1,2,3,4,5,6,7,8,9,10,11,12,13],[0,1,2,3,4,5,6,7,8,9,10,11,12,13,20],[0,1,2,3,4,5,6,7,8,9,10,11,12,13,14,15,16,17,18,19,20,21],[0,1,2,3,4,5,6,7,8,9,10,11,12,13,14,15,16,17,18,19,20,21,22],[0,1,2,3,4,5,6,7,8,9,10,11,12,13,14,15,16,17,18,19,20,21,22,23]] [[],[],[],[],[],[],[],[],[],[],[],[],[],[],[],[],[],[],[],[],[],[],[],[],[]] [[],[],[],[],[],[],[],[],[],[],[],[],[],[],[],[],[],[],[],[],[],[],[],[],[]] Tryz.mo rfl rfl (by kernel_rfl) (by kernel_rfl) (by kernel_rfl) rfl (by kernel_rfl) ?_
   intro K hK hG
   have hk6:∀B:Bool,B= !rowB t i→K [(0,.slc false 0 0 0 t.length),(8,.slc false 0 0 0 t.length),(9,.int .i64 t.length),(10,.int .i64 i),(39,.bool B)] ⟨2,[(0,Sk.one (.row ⟨false,false,45,2,t.length,rws t⟩))]⟩:=by
    intro B hB;subst hB;refine hK _ _ ?_;clear hG hK K;refine Cs.cond _ rfl ?_ ?_
    ·intro h39;have hB:rowB t i=false:=by simpa using h39
     refine z4f [2] ?_;refine Cs.ret ?_;refine hR1 _ _ ?_;refine hRL1 _ _ ?_;refine hR0 _ _ ?_;refine hQ _ _ ?_;refine zm.mk (H':=⟨1,[]⟩) (.inl rfl) ?_;refine z26 ?_;refine⟨MvQm.s,(MvQm.g id),MvQm.s,?_⟩
     rw[show tblB t=false by
      rw[tblB,Bool.and_eq_false_iff]
      right
      rw[←Bool.not_eq_true,allB_iff]
      intro h;have:=h i (by omega);rw[hB] at this;cases this]
     exact⟨rfl,by trivial⟩
    ·intro h39;have hB:rowB t i=true:=by simpa using h39
     refine Cs.skip ?_;refine Cs.nil ?_;refine hN1 _ _ ?_;refine MvQm.rg [0,8,9,10] ?_;refine Cs.nil ?_;refine hL1 _ _ ?_;rw[show(i:Int)+1=((i+1:Nat):Int) from by omega];refine⟨i+1,⟨⟨by omega,fun q hq=> ?_⟩,by omega⟩,id,(MvQm.g id)⟩
     by_cases e:q=i
     ·subst e;exact hB
     ·exact hi2 q (by omega)
   refine z3y (z9 _ [] [] [] rfl rfl rfl rfl) ?_;refine z3y (z9 _ [] [] [] rfl rfl rfl rfl) ?_;refine z3y (z9 _ [] [] [] rfl rfl rfl rfl) ?_;refine MvQm.c1 (z7y (ro t i).key) (id) ?_;refine z3y (z9 _ [] [] [] rfl rfl rfl rfl) ?_;refine z3y (z9 _ [] [] [] rfl rfl rfl rfl) ?_;refine z3y (z9 _ [] [] [] rfl rfl rfl rfl) ?_;refine z3y (z9 _ [] [] [] rfl rfl rfl rfl) ?_;refine z3y (z9 _ [] [] [] rfl rfl rfl rfl) ?_;refine z3y (z9 _ [] [] [] rfl rfl rfl rfl) ?_;refine z3y (z9 _ [] [] [] rfl rfl rfl rfl) ?_;refine z3y (z9 _ [] [] [] rfl rfl rfl rfl) ?_;refine z3y (z9 _ [] [] [] rfl rfl rfl rfl) ?_;refine z3y (z9 _ [] [] [] rfl rfl rfl rfl) ?_;refine z3y (z9 _ [] [] [] rfl rfl rfl rfl) ?_;refine z3y (z9 _ [] [] [] rfl rfl rfl rfl) ?_;refine z3y (z9 _ [] [] [] rfl rfl rfl rfl) ?_;refine z3y (z9 _ [] [] [] rfl rfl rfl rfl) ?_;refine z3y (z9 _ [] [] [] rfl rfl rfl rfl) ?_;refine z3y (z9 _ [] [] [] rfl rfl rfl rfl) ?_;refine z3y (z9 _ [] [] [] rfl rfl rfl rfl) ?_;refine z70 ?_ ?_
   ·skip
    refine z3y (z9 _ [] [] [] rfl rfl rfl rfl) ?_;refine z3y (z9 _ [] [] [] rfl rfl rfl rfl) ?_;refine z3y (z9 _ [] [] [] rfl rfl rfl rfl) ?_;refine z3y (z9 _ [] [] [] rfl rfl rfl rfl) ?_;refine z3y (z9 _ [] [] [] rfl rfl rfl rfl) ?_;refine z12 ?_;refine z8 ?_;refine hG _ _ _ _ id (MvQm.g id) (hk6 (!okKey (ro t i).key||decide ((64:Int)<((ro t i).val.size:Int))||(decide (0<i) && !sLt (ro t (i-1)).key (ro t i).key)) ?_);clear hk6 hG hK K;exact row_not2 t i
   ·skip
    refine z3y (z9 _ [] [] [] rfl rfl rfl rfl) ?_;refine z3y (z9 _ [] [] [] rfl rfl rfl rfl) ?_;refine z3y (z9 _ [] [] [] rfl rfl rfl rfl) ?_;refine z3y (z9 _ [] [] [] rfl rfl rfl rfl) ?_;refine z3y (z9 _ [] [] [] rfl rfl rfl rfl) ?_;refine z12 ?_;refine z8 ?_;refine hG _ _ _ _ id (MvQm.g id) (hk6 (!okKey (ro t i).key||decide ((64:Int)<((ro t i).val.size:Int))||(decide (0<i) && !sLt (ro t (i-1)).key (ro t i).key)) ?_);clear hk6 hG hK K;exact row_not2 t i
  ·intro h11;replace h11:=z6 h11;obtain⟨hi1,hi2⟩:=hi;refine Cs.exit ?_;refine hEL1 _ _ _ ?_;refine hX0 _ _ ?_;refine z4f [2] ?_;refine Cs.ret ?_;refine hQ _ _ ?_;refine zm.mk (H':=⟨1,[]⟩) (.inl rfl) ?_;refine z26 ?_;refine⟨MvQm.s,(MvQm.g id),MvQm.s,?_⟩
   rw[show tblB t=true by
    rw[tblB,Bool.and_eq_true,decide_eq_true_eq,allB_iff]
    exact⟨by omega,fun q hq=>hi2 q (by omega)⟩]
   exact⟨rfl,by trivial⟩
def slT (r:Rg)(t:List Rw):List Rw:=t.filter fun x=>zk r x.key
theorem ro_take1 {t:List Rw}{i:Nat}(h:i<t.length):t.take (i+1)=t.take i++[ro t i]:=by
 rw[List.take_succ_eq_append_getElem h,ro_lt h]
theorem slT_next {r:Rg}{t:List Rw}{i:Nat}(h:i<t.length):slT r (t.take (i+1))=if zk r (ro t i).key=true then slT r (t.take i)++[⟨(ro t i).key,(ro t i).val⟩] else slT r (t.take i):=by
 rw[ro_take1 h,slT,List.filter_append]
 split
 ·rename_i g;rw[List.filter_cons_of_pos (by exact g)];rfl
 ·rename_i g;rw[List.filter_cons_of_neg (by exact g),List.filter_nil,List.append_nil];rfl
theorem slT_le (r:Rg)(t:List Rw)(i:Nat):(slT r (t.take i)).length≤i:=Nat.le_trans (List.length_filter_le _ _) (by rw[List.length_take];omega)
theorem slT_le' (r:Rg)(t:List Rw):(slT r t).length≤t.length:=List.length_filter_le _ _
theorem within_all (r:Rg)(t:List Rw):decide ((slT r t).length=t.length)=t.all fun x=>zk r x.key:=by
 induction t with
 |nil=>rfl
 |cons x t ih=>
  rw[List.all_cons,←ih,slT]
  cases h:zk r x.key with
  |true=>rw[List.filter_cons_of_pos (by exact h),Bool.true_and,List.length_cons,List.length_cons];exact decide_eq_decide.2 (by show _↔(t.filter _).length=_;omega)
  |false=>
   rw[List.filter_cons_of_neg (by simp[h]),Bool.false_and];have:=slT_le' r t;rw[slT] at this;exact decide_eq_false (by rw[List.length_cons];omega)
theorem sliceP0_spec (t:List Rw)(r:Rg)(n:Nat)(hn:t.length=n)(hx:n≤1000000):
  ze Tryz.prog 52 [.slc false 0 0 0 n,.agg r.sv] ⟨1,[(0,Sk.one (.row ⟨false,false,45,2,n,rws t⟩))]⟩ (fun s H1=>s= .slc true 1 0 0 (slT r t).length∧H1=⟨2,[(1,Sk.one (.row ⟨true,false,45,2,(slT r t).length,rws (slT r t)⟩))]⟩):=by
 subst hn;refine ze.ofC false 24 [.tmp 4] Tryz.func52 rfl rfl Tryz.ntmps52 Tryz.results52 rfl ?_;intro w0 own0 β0 Q hQ hQn;simp only[z1n];refine z4f [0,3] ?_;refine z4f [0,3,5] ?_;refine Cs.seq ?_;refine z4f [3,5,8,9,10] ?_;refine Cs.nilO 5 45 2 (rws (slT r (t.take 0))) rfl ?_;dsimp only;refine Cs.block ?_;intro Q0 hN0 hX0 hR0 hE0;refine Cs.loop (σ:=Nat×List Rw) (fun σ=>σ.1≤t.length∧σ.2=slT r (t.take σ.1)) (fun σ=>t.length-σ.1) (fun σ=>[(3,.ptr 1 0 0 0),(5,.slc true 2 0 0 σ.2.length),(8,.slc false 0 0 0 t.length),(9,.int .i64 t.length),(10,.int .i64 σ.1)]) (fun σ=>⟨3,[(2,Sk.one (.row ⟨true,false,45,2,σ.2.length,rws σ.2⟩)),(1,Sk.one (.row ⟨true,true,57,4,1,fun _=>r.sv⟩)),(0,Sk.one (.row ⟨false,false,45,2,t.length,rws t⟩))]⟩) (0,[]) ⟨Nat.zero_le _,rfl⟩ (ρ:=id) (MvQm.g id) ?_;rintro⟨i,out⟩ hi QL1 hL1 hRL1 hEL1;refine z4f [3,5,8,9,10,11] ?_;refine Cs.seq ?_;refine Cs.cond _ rfl ?_ ?_
 ·intro h11;replace h11:=z6 h11;obtain⟨hi1,hi2⟩:=hi;dsimp only at hi1 hi2;have hol:out.length≤i:=by rw[hi2];exact slT_le r t i
  refine Cs.skip ?_;refine Cs.seq ?_;refine Cs.block ?_;intro Q1 hN1 hX1 hR1 hE1;refine z4f [3,5,7,8,9,10] ?_;refine sg [3,5,7,8,9,10,17] rfl ?_;intro K hK;iterate 3 (refine z3y z5 ?_)
  refine z3y z5 ?_;refine MvQm.c1 (contains_spec2 r (ro t i).key) (id) ?_;refine za (z8 (hK _ _ ?_));clear hK K;refine Cs.cond _ rfl ?_ ?_
  ·intro h17
   refine MvQm.rg [3,5,8,9,10] ?_;refine Cs.nil ?_;refine hN1 _ _ ?_;refine MvQm.rg [3,5,8,9,10] ?_;refine Cs.nil ?_;refine hL1 _ _ ?_;rw[app_rws,show(i:Int)+1=((i+1:Nat):Int) from by omega];exact⟨(i+1,out++[⟨(ro t i).key,(ro t i).val⟩]),⟨⟨by dsimp only;omega,by dsimp only;rw[slT_next (by omega),if_pos h17,hi2]⟩,by dsimp only;omega⟩,fun q=>if q=2 then 5 else q,(z3r (fun q=>if q=2 then 5 else q))⟩
  ·intro h17
   refine Cs.skip ?_;refine Cs.nil ?_;refine hN1 _ _ ?_;refine MvQm.rg [3,5,8,9,10] ?_;refine Cs.nil ?_;refine hL1 _ _ ?_;rw[show(i:Int)+1=((i+1:Nat):Int) from by omega];exact⟨(i+1,out),⟨⟨by dsimp only;omega,by dsimp only;rw[slT_next (by omega),if_neg (by rw[h17];decide),hi2]⟩,by dsimp only;omega⟩,id,(MvQm.g id)⟩
 ·intro h11;replace h11:=z6 h11;obtain⟨hi1,hi2⟩:=hi;dsimp only at hi1 hi2;refine Cs.exit ?_;refine hEL1 _ _ _ ?_;refine hX0 _ _ ?_;refine z4f [4] ?_;refine Cs.ret ?_;refine hQ _ _ ?_;have hin:i=t.length:=by omega
  rw[show slT r t=out by rw[hi2,hin,List.take_length]];refine zm.mkR (fun q=>if q=1 then 2 else q) (.slc true 1 0 0 out.length) (⟨2,[(1,Sk.one (.row ⟨true,false,45,2,out.length,rws out⟩))]⟩) (.inl rfl) ?_;refine z26 ?_;refine⟨MvQm.s,MvQm.s,(MvQm.g (fun q=>if q=1 then 2 else q)),MvQm.s,?_⟩
  first|trivial|exact⟨rfl,trivial⟩
theorem sliceR0_spec (t:List Rw)(r:Rg)(n:Nat)(hn:t.length=n)(hx:n≤1000000):
  ze Tryz.prog 18 [.slc false 0 0 0 n,.agg r.sv] ⟨1,[(0,Sk.one (.row ⟨false,false,45,2,n,rws t⟩))]⟩ (fun s H1=>s= .slc true 1 0 0 (slT r t).length∧H1=⟨2,[(1,Sk.one (.row ⟨true,false,45,2,(slT r t).length,rws (slT r t)⟩))]⟩):=by
 subst hn;refine ze.ofC false 24 [.tmp 4] Tryz.func18 rfl rfl Tryz.ntmps18 Tryz.results18 rfl ?_;intro w0 own0 β0 Q hQ hQn;simp only[z1n];refine z4f [0,3] ?_;refine z4f [0,3,5] ?_;refine Cs.seq ?_;refine z4f [3,5,8,9,10] ?_;refine Cs.nilO 5 45 2 (rws (slT r (t.take 0))) rfl ?_;dsimp only;refine Cs.block ?_;intro Q0 hN0 hX0 hR0 hE0;refine Cs.loop (σ:=Nat×List Rw) (fun σ=>σ.1≤t.length∧σ.2=slT r (t.take σ.1)) (fun σ=>t.length-σ.1) (fun σ=>[(3,.ptr 1 0 0 0),(5,.slc true 2 0 0 σ.2.length),(8,.slc false 0 0 0 t.length),(9,.int .i64 t.length),(10,.int .i64 σ.1)]) (fun σ=>⟨3,[(2,Sk.one (.row ⟨true,false,45,2,σ.2.length,rws σ.2⟩)),(1,Sk.one (.row ⟨true,true,57,4,1,fun _=>r.sv⟩)),(0,Sk.one (.row ⟨false,false,45,2,t.length,rws t⟩))]⟩) (0,[]) ⟨Nat.zero_le _,rfl⟩ (ρ:=id) (MvQm.g id) ?_;rintro⟨i,out⟩ hi QL1 hL1 hRL1 hEL1;refine z4f [3,5,8,9,10,11] ?_;refine Cs.seq ?_;refine Cs.cond _ rfl ?_ ?_
 ·intro h11;replace h11:=z6 h11;obtain⟨hi1,hi2⟩:=hi;dsimp only at hi1 hi2;have hol:out.length≤i:=by rw[hi2];exact slT_le r t i
  refine Cs.skip ?_;refine Cs.seq ?_;refine Cs.block ?_;intro Q1 hN1 hX1 hR1 hE1;refine z4f [3,5,7,8,9,10] ?_;refine sg [3,5,7,8,9,10,17] rfl ?_;intro K hK;iterate 3 (refine z3y z5 ?_)
  refine z3y z5 ?_;refine MvQm.c1 (refContains1_spec r (ro t i).key) (id) ?_;refine za (z8 (hK _ _ ?_));clear hK K;refine Cs.cond _ rfl ?_ ?_
  ·intro h17
   refine MvQm.rg [3,5,8,9,10] ?_;refine Cs.nil ?_;refine hN1 _ _ ?_;refine MvQm.rg [3,5,8,9,10] ?_;refine Cs.nil ?_;refine hL1 _ _ ?_;rw[app_rws,show(i:Int)+1=((i+1:Nat):Int) from by omega];exact⟨(i+1,out++[⟨(ro t i).key,(ro t i).val⟩]),⟨⟨by dsimp only;omega,by dsimp only;rw[slT_next (by omega),if_pos h17,hi2]⟩,by dsimp only;omega⟩,fun q=>if q=2 then 5 else q,(z3r (fun q=>if q=2 then 5 else q))⟩
  ·intro h17
   refine Cs.skip ?_;refine Cs.nil ?_;refine hN1 _ _ ?_;refine MvQm.rg [3,5,8,9,10] ?_;refine Cs.nil ?_;refine hL1 _ _ ?_;rw[show(i:Int)+1=((i+1:Nat):Int) from by omega];exact⟨(i+1,out),⟨⟨by dsimp only;omega,by dsimp only;rw[slT_next (by omega),if_neg (by rw[h17];decide),hi2]⟩,by dsimp only;omega⟩,id,(MvQm.g id)⟩
 ·intro h11;replace h11:=z6 h11;obtain⟨hi1,hi2⟩:=hi;dsimp only at hi1 hi2;refine Cs.exit ?_;refine hEL1 _ _ _ ?_;refine hX0 _ _ ?_;refine z4f [4] ?_;refine Cs.ret ?_;refine hQ _ _ ?_;have hin:i=t.length:=by omega
  rw[show slT r t=out by rw[hi2,hin,List.take_length]];refine zm.mkR (fun q=>if q=1 then 2 else q) (.slc true 1 0 0 out.length) (⟨2,[(1,Sk.one (.row ⟨true,false,45,2,out.length,rws out⟩))]⟩) (.inl rfl) ?_;refine z26 ?_;refine⟨MvQm.s,MvQm.s,(MvQm.g (fun q=>if q=1 then 2 else q)),MvQm.s,?_⟩
  first|trivial|exact⟨rfl,trivial⟩
theorem withinR0_spec (t:List Rw)(r:Rg)(n:Nat)(hn:t.length=n)(hx:n≤1000000):
  ze Tryz.prog 59 [.slc false 0 0 0 n,.agg r.sv] ⟨1,[(0,Sk.one (.row ⟨false,false,45,2,n,rws t⟩))]⟩ (fun s H1=>s= .bool (t.all fun x=>zk r x.key)∧H1=⟨1,[]⟩):=by
 subst hn;refine ze.ofC false 19 [.tmp 4] Tryz.func59 rfl rfl Tryz.ntmps59 Tryz.results59 rfl ?_;intro w0 own0 β0 Q hQ hQn;simp only[z1n];refine z4f [0,3] ?_;refine Cs.seq ?_;refine z4f [3,7,8,9] ?_;refine Cs.block ?_;intro Q0 hN0 hX0 hR0 hE0;refine Cs.loop (σ:=Nat) (fun i=>i≤t.length∧∀q,q<i→zk r (ro t q).key=true) (fun i=>t.length-i) (fun i=>[(3,.ptr 1 0 0 0),(7,.slc false 0 0 0 t.length),(8,.int .i64 t.length),(9,.int .i64 i)]) (fun i=>⟨2,[(1,Sk.one (.row ⟨true,true,57,4,1,fun _=>r.sv⟩)),(0,Sk.one (.row ⟨false,false,45,2,t.length,rws t⟩))]⟩) 0 ⟨Nat.zero_le _,fun q h=>by omega⟩ (ρ:=id) (MvQm.g id) ?_;rintro i hi QL1 hL1 hRL1 hEL1;refine z4f [3,7,8,9,10] ?_;refine Cs.seq ?_;refine Cs.cond _ rfl ?_ ?_
 ·intro h10;replace h10:=z6 h10;obtain⟨hi1,hi2⟩:=hi;refine Cs.skip ?_;refine Cs.seq ?_;refine Cs.block ?_;intro Q1 hN1 hX1 hR1 hE1;refine z4f [3,6,7,8,9] ?_;refine sg [3,7,8,9,17] rfl ?_;intro K hK;iterate 3 (refine z3y z5 ?_)
  refine z3y z5 ?_;refine MvQm.c1 (refContains1_spec r (ro t i).key) (id) ?_;refine z3y z5 ?_;refine za (z8 (hK _ _ ?_));clear hK K;refine Cs.cond _ rfl ?_ ?_
  ·intro h17;have hB:zk r (ro t i).key=false:=by simpa using h17
   refine z4f [4] ?_;refine Cs.ret ?_;refine hR1 _ _ ?_;refine hRL1 _ _ ?_;refine hR0 _ _ ?_;refine hQ _ _ ?_;refine zm.mk (H':=⟨1,[]⟩) (.inl rfl) ?_;refine z26 ?_;refine⟨MvQm.s,(MvQm.g id),MvQm.s,?_⟩
   rw[show(t.all fun x=>zk r x.key)=false by
    rw[←Bool.not_eq_true,List.all_eq_true]
    intro h;have:=h _ (ro_mem (l:=t) (i:=i) (by omega));rw[hB] at this;cases this]
   exact⟨rfl,by trivial⟩
  ·intro h17;have hB:zk r (ro t i).key=true:=by simpa using h17
   refine Cs.skip ?_;refine Cs.nil ?_;refine hN1 _ _ ?_;refine MvQm.rg [3,7,8,9] ?_;refine Cs.nil ?_;refine hL1 _ _ ?_;rw[show(i:Int)+1=((i+1:Nat):Int) from by omega];refine⟨i+1,⟨⟨by omega,fun q hq=> ?_⟩,by omega⟩,id,(MvQm.g id)⟩
   by_cases e:q=i
   ·subst e;exact hB
   ·exact hi2 q (by omega)
 ·intro h10;replace h10:=z6 h10;obtain⟨hi1,hi2⟩:=hi;refine Cs.exit ?_;refine hEL1 _ _ _ ?_;refine hX0 _ _ ?_;refine z4f [4] ?_;refine Cs.ret ?_;refine hQ _ _ ?_;refine zm.mk (H':=⟨1,[]⟩) (.inl rfl) ?_;refine z26 ?_;refine⟨MvQm.s,(MvQm.g id),MvQm.s,?_⟩
  rw[show(t.all fun x=>zk r x.key)=true by
   rw[List.all_eq_true];intro x hx;obtain⟨q,hq,rfl⟩:=List.getElem_of_mem hx
   rw[←ro_lt hq];exact hi2 q (by omega)]
  exact⟨rfl,by trivial⟩
end Go.Proofs

namespace Go.Proofs
open Go.Sk
theorem hmG {f:Go.FuncId}{ar:List SV}{R:SV→AH→Prop}(l:List Hm)(j m o n:Nat)(hj:j<m)(ho:o+n≤(hm l j).full.length)
  (h:ze Tryz.prog f (.slc false 0 0 0 n::ar) ⟨1,[(0,Sk.one (.row ⟨false,false,45,2,n,rws ((hm l j).full.drop o)⟩))]⟩ R)
  (h1:shL 0 o ar ar) (h2:SV.ltL 1 ar) (h3:∀π:Pn,SV.renPL π ar=ar)
  (hR:∀s H',R s H'→s.ren (shM 0 H'.nxt)=s∧∀x∈H'.os,x.1≠0∧∀k,k<x.2.1→zb (shM 0 H'.nxt) (x.2.2 k) (x.2.2 k)):
  ze Tryz.prog f (.slc false 0 (j+1) o n::ar) ⟨1,[(0,(m+1,fam false 45 2 (hmF false l)))]⟩
   (fun s H'=> ∃s0 H0',R s0 H0'∧s=s0.renP (memP (fun id k=>if id=0 then(0,j+1) else(id,k)) 1)∧H'=⟨H0'.nxt,renPOs (memP (fun id k=>if id=0 then(0,j+1) else(id,k)) 1) H0'.os⟩):=by
 have g1:=h.shift 0 o (os1:=[(0,Sk.one (.row ⟨false,false,45,2,(hm l j).full.length,rws (hm l j).full⟩))]) (args1:= .slc false 0 0 o n::ar) (by show 0<1;decide) ⟨by simp[shA],h1⟩
  (by simp only[HSh,Sk.one,rowSh,and_true,if_true,true_and];refine⟨ho,fun i _=>⟨?_,z19 _ _ _⟩⟩;rw[rws,rws,ro_drop]) hR
 have g2:=g1.mem (fun id k=>if id=0 then(0,j+1) else(id,k)) (os1:=[(0,(m+1,fam false 45 2 (hmF false l)))])
  (by
   refine⟨⟨Nat.zero_lt_one,fun k=>rfl,fun k hk=>⟨Obj.lt_row.2 fun q _=>z2h _ _ q,?_⟩⟩,trivial⟩;simp only[if_true,Sk.find];refine⟨by omega,?_⟩;rw[z17]
   exact⟨fun h=>(by cases h),rfl,Nat.le_refl _,fun q _=>(z7g _ _ q).symm⟩)
  ⟨by simp[SV.lt],h2⟩ (by intro id k hid;simp only;split<;>simp_all) (by
   intro x hx k;simp only[List.mem_singleton] at hx;subst hx
   exact z18 false _ _ l k)
 have e:SV.renPL (fun id k=>if id=0 then(0,j+1) else(id,k)) (.slc false 0 0 o n::ar)= .slc false 0 (j+1) o n::ar:=by
  rw[SV.renPL,h3];rfl
 rw[e] at g2;exact g2
theorem hmB {f:Go.FuncId}{ar:List SV}{B:Bool}(l:List Hm)(j m o n:Nat)(hj:j<m)(ho:o+n≤(hm l j).full.length)
  (h:ze Tryz.prog f (.slc false 0 0 0 n::ar) ⟨1,[(0,Sk.one (.row ⟨false,false,45,2,n,rws ((hm l j).full.drop o)⟩))]⟩ (fun s H1=>s= .bool B∧H1=⟨1,[]⟩))
  (h1:shL 0 o ar ar) (h2:SV.ltL 1 ar) (h3:∀π:Pn,SV.renPL π ar=ar):
  ze Tryz.prog f (.slc false 0 (j+1) o n::ar) ⟨1,[(0,(m+1,fam false 45 2 (hmF false l)))]⟩ (fun s H1=>s= .bool B∧H1=⟨1,[]⟩):=by
 refine(hmG l j m o n hj ho h h1 h2 h3 ?_).imp ?_
 ·rintro s H' ⟨rfl,rfl⟩;exact⟨rfl,fun x hx=>(by cases hx)⟩
 ·rintro s H' ⟨s0,H0',⟨rfl,rfl⟩,rfl,rfl⟩;exact⟨rfl,rfl⟩
theorem hmS {f:Go.FuncId}{ar:List SV}{out:List Rw}(l:List Hm)(j m o n:Nat)(hj:j<m)(ho:o+n≤(hm l j).full.length)
  (h:ze Tryz.prog f (.slc false 0 0 0 n::ar) ⟨1,[(0,Sk.one (.row ⟨false,false,45,2,n,rws ((hm l j).full.drop o)⟩))]⟩ (fun s H1=>s= .slc true 1 0 0 out.length∧H1=⟨2,[(1,Sk.one (.row ⟨true,false,45,2,out.length,rws out⟩))]⟩))
  (h1:shL 0 o ar ar) (h2:SV.ltL 1 ar) (h3:∀π:Pn,SV.renPL π ar=ar):
  ze Tryz.prog f (.slc false 0 (j+1) o n::ar) ⟨1,[(0,(m+1,fam false 45 2 (hmF false l)))]⟩ (fun s H1=>s= .slc true 1 0 0 out.length∧H1=⟨2,[(1,Sk.one (.row ⟨true,false,45,2,out.length,rws out⟩))]⟩):=by
 refine(hmG l j m o n hj ho h h1 h2 h3 ?_).imp ?_
 ·rintro s H' ⟨rfl,rfl⟩;refine⟨rfl,fun x hx=> ?_⟩;simp only[List.mem_singleton] at hx;subst hx;exact⟨Nat.one_ne_zero,fun k _=>⟨fun h=>⟨h,rfl⟩,rfl,Nat.le_refl _,fun q _=>(z19 _ _ q).symm⟩⟩
 ·rintro s H' ⟨s0,H0',⟨rfl,rfl⟩,rfl,rfl⟩;refine⟨rfl,?_⟩;simp only[renPOs,List.map_cons,List.map_nil,Sk.one,Obj.renP,AH.mk.injEq,List.cons.injEq,Prod.mk.injEq,true_and,and_true]
  funext k
  simp only[z7g]
theorem hmArg (l:List Hm)(j:Nat)(h:(hm l j).off≤(hm l j).full.length):(hm l j).off+(hm l j).n≤(hm l j).full.length:=by rw[Hm.n];omega
theorem tblP_spec (l:List Hm)(j m:Nat)(hj:j<m)(ho:(hm l j).off≤(hm l j).full.length)(hx:(hm l j).full.length≤1000000):
  ze Tryz.prog 51 [.slc false 0 (j+1) (hm l j).off (hm l j).n] ⟨1,[(0,(m+1,fam false 45 2 (hmF false l)))]⟩ (fun s H1=>s= .bool (tblB (hm l j).rows)∧H1=⟨1,[]⟩):=
 hmB l j m _ _ hj (hmArg l j ho) (tblP0_spec _ _ ((hm l j).n_eq.symm) (by rw[Hm.n];omega)) trivial trivial fun _=>rfl
theorem tblR_spec (l:List Hm)(j m:Nat)(hj:j<m)(ho:(hm l j).off≤(hm l j).full.length)(hx:(hm l j).full.length≤1000000):
  ze Tryz.prog 58 [.slc false 0 (j+1) (hm l j).off (hm l j).n] ⟨1,[(0,(m+1,fam false 45 2 (hmF false l)))]⟩ (fun s H1=>s= .bool (tblB (hm l j).rows)∧H1=⟨1,[]⟩):=
 hmB l j m _ _ hj (hmArg l j ho) (tblR0_spec _ _ ((hm l j).n_eq.symm) (by rw[Hm.n];omega)) trivial trivial fun _=>rfl
theorem rg_shL (r:Rg)(o:Nat):shL 0 o [.agg r.sv] [.agg r.sv]:=⟨⟨rfl,fun z=>by simp[Rg.sv,SV.ren,SV.renL]⟩,trivial⟩
theorem rg_ltL (r:Rg):SV.ltL 1 [.agg r.sv]:=by simp[SV.ltL,SV.lt,Rg.sv]
theorem rg_renP (r:Rg)(π:Pn):SV.renPL π [.agg r.sv]=[.agg r.sv]:=by simp[SV.renPL,SV.renP,Rg.sv]
theorem withinR_spec (l:List Hm)(j m:Nat)(r:Rg)(hj:j<m)(ho:(hm l j).off≤(hm l j).full.length)(hx:(hm l j).full.length≤1000000):
  ze Tryz.prog 59 [.slc false 0 (j+1) (hm l j).off (hm l j).n,.agg r.sv] ⟨1,[(0,(m+1,fam false 45 2 (hmF false l)))]⟩ (fun s H1=>s= .bool ((hm l j).rows.all fun x=>zk r x.key)∧H1=⟨1,[]⟩):=
 hmB l j m _ _ hj (hmArg l j ho) (withinR0_spec _ r _ ((hm l j).n_eq.symm) (by rw[Hm.n];omega)) (rg_shL r _) (rg_ltL r) (rg_renP r)
theorem sliceP_spec (l:List Hm)(j m:Nat)(r:Rg)(hj:j<m)(ho:(hm l j).off≤(hm l j).full.length)(hx:(hm l j).full.length≤1000000):
  ze Tryz.prog 52 [.slc false 0 (j+1) (hm l j).off (hm l j).n,.agg r.sv] ⟨1,[(0,(m+1,fam false 45 2 (hmF false l)))]⟩ (fun s H1=>s= .slc true 1 0 0 (slT r (hm l j).rows).length∧H1=⟨2,[(1,Sk.one (.row ⟨true,false,45,2,(slT r (hm l j).rows).length,rws (slT r (hm l j).rows)⟩))]⟩):=
 hmS l j m _ _ hj (hmArg l j ho) (sliceP0_spec _ r _ ((hm l j).n_eq.symm) (by rw[Hm.n];omega)) (rg_shL r _) (rg_ltL r) (rg_renP r)
end Go.Proofs

namespace Go.Proofs
open Go.Sk
def kEmp:ByteArray:=⟨#[]⟩
def e0 (P:List Hd)(n:Nd):Nd:=match P with
 |[]=>z54 n kEmp
 |_::_=>n
theorem z8i (P Q:List Hd)(n:Nd)(r:List Rw):fstL (P++⟨n,r⟩::Q)=fstL P++⟨e0 P n,r⟩::Q:=by
 cases P<;>rfl
theorem setK_e0 (P:List Hd)(n:Nd)(k:ByteArray):z54 (e0 P n) k=z54 n k:=by cases P<;>rfl
theorem e0_setK (P:List Hd)(y x:Nd):e0 P (z54 y x.key)=z54 y (e0 P x).key:=by cases P<;>rfl
theorem z5k (P Q:List Hd)(x:Hd):hd (P++x::Q) P.length=x:=by simp[hd,List.getD]
theorem z8j (P Q:List Hd)(x y:Hd):hd (P++x::y::Q) (P.length+1)=y:=by simp[hd,List.getD]
theorem set_mid {α:Type}(P Q:List α)(x y:α):(P++x::Q).set P.length y=P++y::Q:=by simp
theorem set_mid1 {α:Type}(P Q:List α)(x y z:α):(P++x::y::Q).set (P.length+1) z=P++x::z::Q:=by
 rw[List.set_append_right _ _ (by omega),show P.length+1-P.length=1 by omega];rfl
theorem split1 {l:List Hd}{a:Nat}(h:a<l.length):∃P x Q,l=P++x::Q∧P.length=a:=
 ⟨l.take a,l[a],l.drop (a+1),by rw[←List.drop_eq_getElem_cons h,List.take_append_drop],by rw[List.length_take];omega⟩
theorem split2 {l:List Hd}{a:Nat}(h:a+1<l.length):∃P x y Q,l=P++x::y::Q∧P.length=a:=by
 obtain⟨P,x,Q,rfl,hP⟩:=split1 (show a<l.length by omega)
 cases Q with
 |nil=>simp at h;omega
 |cons y Q=>exact⟨P,x,y,Q,rfl,hP⟩
theorem cut_rows {r:List Rw}{n:Nat}(h0:0<n)(h1:n<r.length):∃A a b B,r=A++a::b::B∧r.take n=A++[a]∧r.drop n=b::B∧ro r n=b:=by
 refine⟨r.take (n-1),r[n-1],r[n],r.drop (n+1),?_,?_,?_,ro_lt h1⟩
 ·have e1:r[n]::r.drop (n+1)=r.drop n:=(List.drop_eq_getElem_cons h1).symm
  have e2:r[n-1]::r.drop n=r.drop (n-1):=by
   have:=List.drop_eq_getElem_cons (show n-1<r.length by omega);rw[show n-1+1=n by omega] at this;exact this.symm
  rw[e1,e2,List.take_append_drop]
 ·have:=List.take_succ_eq_append_getElem (show n-1<r.length by omega);rw[show n-1+1=n by omega] at this;exact this
 ·exact List.drop_eq_getElem_cons h1
theorem Wd.shiR {l:List Hd}(h:Wd (fstL l)){a c:Nat}(ha:a+1<l.length)(h0:0<c)(h1:c<(hd l a).rows.length):Wd (fstL (shiR l a c)):=by
 obtain⟨P,⟨x,r⟩,⟨y,R⟩,Q,rfl,rfl⟩:=split2 ha;rw[z5k] at h1;rw[Go.Proofs.shiR,z5k,z8j,set_mid,set_mid1];dsimp only at h1 ⊢;obtain⟨A,a,b,B,e1,e2,e3,e4⟩:=cut_rows (r:=r) (n:=r.length-c) (by omega) (by omega);rw[e2,e3,e4,z8i];rw[z8i,e1] at h;exact h.right
theorem Wd.shiL {l:List Hd}(h:Wd (fstL l)){a c:Nat}(ha:a+1<l.length)(h0:0<c)(h1:c<(hd l (a+1)).rows.length):Wd (fstL (shiL l (a+1) c)):=by
 obtain⟨P,⟨x,R⟩,⟨y,r⟩,Q,rfl,rfl⟩:=split2 ha;rw[z8j] at h1;rw[Go.Proofs.shiL,show P.length+1-1=P.length by omega,z5k,z8j,set_mid,set_mid1];dsimp only at h1 ⊢;obtain⟨A,a,b,B,e1,e2,e3,e4⟩:=cut_rows (r:=r) (n:=c) h0 h1;rw[e2,e3,e4,z8i];rw[z8i,e1] at h;exact h.left
theorem outH_run {x:List Hd}{a k:Nat}{node:Hd}{m:Nat}:∀d,(∀j,m≤j→j<m+d→j≠a∧j≠k)→m+d≤x.length→outH x a k node (m+d)=outH x a k node m++(x.drop m).take d
 |0,_,_=>by simp
 |d+1,h,hl=>by
  obtain⟨h1,h2⟩:=h (m+d) (by omega) (by omega);have hlt:d<(x.drop m).length:=by rw[List.length_drop];omega
  rw[show m+(d+1)=(m+d)+1 by omega,outH,if_neg h1,if_neg h2,List.append_nil,outH_run d (fun j j1 j2=>h j j1 (by omega)) (by omega),List.append_assoc,List.take_succ_eq_append_getElem hlt,hd_lt (show m+d<x.length by omega)];simp
theorem outH_lt (P1 P2 Q:List Hd)(v u node:Hd):outH (P1++v::(P2++u::Q)) P1.length (P1.length+1+P2.length) node (P1++v::(P2++u::Q)).length=P1++(P2++u::node::Q):=by
 have hlen:(P1++v::(P2++u::Q)).length=P1.length+1+P2.length+1+Q.length:=by simp;omega
 obtain⟨x,hx⟩:∃x,P1++v::(P2++u::Q)=x:=⟨_,rfl⟩;have r1:=outH_run (x:=x) (a:=P1.length) (k:=P1.length+1+P2.length) (node:=node) (m:=0) P1.length (fun j _ h=>⟨by omega,by omega⟩) (by rw[←hx,hlen];omega);have r2:=outH_run (x:=x) (a:=P1.length) (k:=P1.length+1+P2.length) (node:=node) (m:=P1.length+1) P2.length (fun j _ h=>⟨by omega,by omega⟩) (by rw[←hx,hlen];omega);have r3:=outH_run (x:=x) (a:=P1.length) (k:=P1.length+1+P2.length) (node:=node) (m:=P1.length+1+P2.length+1) Q.length (fun j _ h=>⟨by omega,by omega⟩) (by rw[←hx,hlen];omega);rw[Nat.zero_add] at r1;have hu:hd x (P1.length+1+P2.length)=u:=by rw[←hx,show P1++v::(P2++u::Q)=(P1++v::P2)++u::Q by simp,show P1.length+1+P2.length=(P1++v::P2).length by simp;omega,z5k]
 have d1:(x.drop 0).take P1.length=P1:=by rw[←hx];simp
 have d2:(x.drop (P1.length+1)).take P2.length=P2:=by rw[←hx,show P1++v::(P2++u::Q)=(P1++[v])++(P2++u::Q) by simp,show P1.length+1=(P1++[v]).length by simp,List.drop_left,List.take_left]
 have d3:(x.drop (P1.length+1+P2.length+1)).take Q.length=Q:=by rw[←hx,show P1++v::(P2++u::Q)=(P1++v::P2++[u])++Q by simp,show P1.length+1+P2.length+1=(P1++v::P2++[u]).length by simp;omega,List.drop_left,List.take_length]
 rw[hx] at hlen ⊢;rw[hlen,r3,d3,outH,if_neg (by omega),if_pos rfl,hu,r2,d2,outH,if_pos rfl,if_neg (by omega),r1,d1];simp[outH]
theorem outH_gt (P Q1 Q2:List Hd)(u v node:Hd):outH (P++u::(Q1++v::Q2)) (P.length+1+Q1.length) P.length node (P++u::(Q1++v::Q2)).length=P++u::node::(Q1++Q2):=by
 have hlen:(P++u::(Q1++v::Q2)).length=P.length+1+Q1.length+1+Q2.length:=by simp;omega
 obtain⟨x,hx⟩:∃x,P++u::(Q1++v::Q2)=x:=⟨_,rfl⟩;have r1:=outH_run (x:=x) (a:=P.length+1+Q1.length) (k:=P.length) (node:=node) (m:=0) P.length (fun j _ h=>⟨by omega,by omega⟩) (by rw[←hx,hlen];omega);have r2:=outH_run (x:=x) (a:=P.length+1+Q1.length) (k:=P.length) (node:=node) (m:=P.length+1) Q1.length (fun j _ h=>⟨by omega,by omega⟩) (by rw[←hx,hlen];omega);have r3:=outH_run (x:=x) (a:=P.length+1+Q1.length) (k:=P.length) (node:=node) (m:=P.length+1+Q1.length+1) Q2.length (fun j _ h=>⟨by omega,by omega⟩) (by rw[←hx,hlen];omega);rw[Nat.zero_add] at r1;have hu:hd x P.length=u:=by rw[←hx,z5k]
 have d1:(x.drop 0).take P.length=P:=by rw[←hx];simp
 have d2:(x.drop (P.length+1)).take Q1.length=Q1:=by rw[←hx,show P++u::(Q1++v::Q2)=(P++[u])++(Q1++v::Q2) by simp,show P.length+1=(P++[u]).length by simp,List.drop_left,List.take_left]
 have d3:(x.drop (P.length+1+Q1.length+1)).take Q2.length=Q2:=by rw[←hx,show P++u::(Q1++v::Q2)=(P++u::Q1++[v])++Q2 by simp,show P.length+1+Q1.length+1=(P++u::Q1++[v]).length by simp;omega,List.drop_left,List.take_length]
 rw[hx] at hlen ⊢;rw[hlen,r3,d3,outH,if_pos rfl,if_neg (by omega),r2,d2,outH,if_neg (by omega),if_pos rfl,hu,r1,d1];simp[outH]
theorem mrg_lt (P Q:List Hd)(x y:Hd):z7n (P++x::y::Q) P.length (P.length+1)=P++x::⟨z54 y.nd x.nd.key,x.rows++y.rows⟩::Q:=by
 rw[z7n,if_pos (by omega),z5k,z8j,set_mid1]
theorem mrg_gt (P Q:List Hd)(x y:Hd):z7n (P++y::x::Q) (P.length+1) P.length=P++⟨y.nd,y.rows++x.rows⟩::x::Q:=by
 rw[z7n,if_neg (by omega),z5k,z8j,set_mid]
theorem mrg_len (l:List Hd)(a b:Nat):(z7n l a b).length=l.length:=by rw[z7n];split<;>simp
theorem movH_eq {l:List Hd}{a b k c:Nat}:movH l a b k c=outH ((z7n l a b).set k ⟨(hd (z7n l a b) k).nd,(hd (z7n l a b) k).rows.take ((hd (z7n l a b) k).rows.length-c)⟩) a k ⟨z54 (hd l a).nd (ro (hd (z7n l a b) k).rows ((hd (z7n l a b) k).rows.length-c)).key,(hd (z7n l a b) k).rows.drop ((hd (z7n l a b) k).rows.length-c)⟩ ((z7n l a b).set k ⟨(hd (z7n l a b) k).nd,(hd (z7n l a b) k).rows.take ((hd (z7n l a b) k).rows.length-c)⟩).length:=by
 rw[List.length_set,mrg_len,movH]
theorem mov_gt {l:List Hd}{b c:Nat}{P Q1 Q2:List Hd}{u v w:Hd}(hm:z7n l (P.length+1+Q1.length) b=P++u::(Q1++v::Q2))(hw:hd l (P.length+1+Q1.length)=w)(h0:0<c)(h1:c<u.rows.length):
  ∃A a B bb,u.rows=A++a::bb::B∧movH l (P.length+1+Q1.length) b P.length c=P++⟨u.nd,A++[a]⟩::⟨z54 w.nd bb.key,bb::B⟩::(Q1++Q2):=by
 obtain⟨A,a,bb,B,e1,e2,e3,e4⟩:=cut_rows (r:=u.rows) (n:=u.rows.length-c) (by omega) (by omega);refine⟨A,a,B,bb,e1,?_⟩;rw[movH_eq,hm,z5k,set_mid,e2,e3,e4,hw];exact outH_gt P Q1 Q2 ⟨u.nd,A++[a]⟩ v _
theorem mov_lt {l:List Hd}{b c:Nat}{P1 P2 Q:List Hd}{u v w:Hd}(hm:z7n l P1.length b=P1++v::(P2++u::Q))(hw:hd l P1.length=w)(h0:0<c)(h1:c<u.rows.length):
  ∃A a B bb,u.rows=A++a::bb::B∧movH l P1.length b (P1.length+1+P2.length) c=P1++(P2++⟨u.nd,A++[a]⟩::⟨z54 w.nd bb.key,bb::B⟩::Q):=by
 obtain⟨A,a,bb,B,e1,e2,e3,e4⟩:=cut_rows (r:=u.rows) (n:=u.rows.length-c) (by omega) (by omega);refine⟨A,a,B,bb,e1,?_⟩;have hk:P1.length+1+P2.length=(P1++v::P2).length:=by simp;omega
 have hx:P1++v::(P2++u::Q)=(P1++v::P2)++u::Q:=by simp
 have h2:=outH_lt P1 P2 Q v ⟨u.nd,A++[a]⟩ ⟨z54 w.nd bb.key,bb::B⟩;rw[movH_eq,hm,hx,hk,z5k,set_mid,e2,e3,e4,hw,←hk,show(P1++v::P2)++(⟨u.nd,A++[a]⟩:Hd)::Q=P1++v::(P2++⟨u.nd,A++[a]⟩::Q) by simp];exact h2
theorem fstL_mids (P Q:List Hd)(x:Hd):fstL (P++x::Q)=fstL P++⟨e0 P x.nd,x.rows⟩::Q:=z8i P Q x.nd x.rows
theorem Wd.fresh {P Q:List Hd}{x y:Hd}(h:Wd (P++x::y::Q)):(∀u∈P++Q,u.nd.id≠x.nd.id∧u.nd.id≠y.nd.id)∧x.nd.id≠y.nd.id:=by
 have h1:=h.ids;simp only[List.map_append,List.map_cons] at h1;have h2:=List.nodup_append.1 h1;have h3:=List.nodup_cons.1 h2.2.1;have h4:=List.nodup_cons.1 h3.2;refine⟨fun u hu=> ?_,fun e=>h3.1 (by rw[e];simp)⟩;rcases List.mem_append.1 hu with hu|hu
 ·exact⟨h2.2.2 _ (List.mem_map_of_mem hu) _ (by simp),h2.2.2 _ (List.mem_map_of_mem hu) _ (by simp)⟩
 ·exact⟨fun e=>h3.1 (by simp only[List.mem_cons,List.mem_map];exact .inr ⟨u,hu,e⟩),fun e=>h4.1 (by rw[List.mem_map];exact⟨u,hu,e⟩)⟩
end Go.Proofs

namespace Go.Proofs
open Go.Sk
structure Kp (l l':List Hd):Prop where
 wd:Wd (fstL l')
 tab:z6q l'=z6q l
 len:l'.length=l.length
 has:∀h∈l,∃h'∈l',h'.nd.id=h.nd.id∧h'.nd.word=h.nd.word
theorem bad_key2 {x y:Nd}(hy:badN y=false)(hx:badN x=false):badN (z54 y x.key)=false:=bad_setK hy (bad_key hx)
theorem Wd.ins2 {P Q:List Hd}{x z:Nd}{r A B:List Rw}{a b:Rw}(h:Wd (P++⟨x,r⟩::Q))(e:r=A++a::b::B)(hl:P.length+Q.length+2≤64)(hz:badN z=false)(hi:∀u∈P++⟨x,r⟩::Q,u.nd.id≠z.id):Wd (P++⟨x,A++[a]⟩::⟨z54 z b.key,b::B⟩::Q):=by
 subst e;exact h.ins hl hz hi
theorem Kp.movR1 {P Q1 Q:List Hd}{u x y:Hd}{c:Nat}(h:Wd (fstL (P++u::(Q1++x::y::Q))))(h0:0<c)(h1:c<u.rows.length):Kp (P++u::(Q1++x::y::Q)) (movH (P++u::(Q1++x::y::Q)) (P.length+1+Q1.length) (P.length+1+Q1.length+1) P.length c):=by
 have hP:P++u::(Q1++x::y::Q)=(P++u::Q1)++x::y::Q:=by simp
 have hl:P.length+1+Q1.length=(P++u::Q1).length:=by simp;omega
 have hm:z7n (P++u::(Q1++x::y::Q)) (P.length+1+Q1.length) (P.length+1+Q1.length+1)=P++u::(Q1++x::⟨z54 y.nd x.nd.key,x.rows++y.rows⟩::Q):=by
  rw[hP,hl,mrg_lt];simp
 have hw:hd (P++u::(Q1++x::y::Q)) (P.length+1+Q1.length)=x:=by rw[hP,hl,z5k]
 obtain⟨A,a,B,bb,e1,e2⟩:=mov_gt hm hw h0 h1;rw[e2];rw[fstL_mids] at h;have hF:fstL P++⟨e0 P u.nd,u.rows⟩::(Q1++x::y::Q)=(fstL P++⟨e0 P u.nd,u.rows⟩::Q1)++x::y::Q:=by simp
 rw[hF] at h;obtain⟨f1,f2⟩:=h.fresh;have hlen:=h.len;have g:=h.merge (z:=z54 y.nd x.nd.key) ⟨.inr rfl,rfl,bad_key2 (h.nok y (by simp)) (h.nok x (by simp))⟩;rw[show(fstL P++⟨e0 P u.nd,u.rows⟩::Q1)++(⟨z54 y.nd x.nd.key,x.rows++y.rows⟩:Hd)::Q=fstL P++⟨e0 P u.nd,u.rows⟩::(Q1++⟨z54 y.nd x.nd.key,x.rows++y.rows⟩::Q) by simp] at g;refine⟨?_,?_,?_,fun k hk=> ?_⟩
 ·rw[z8i];refine g.ins2 e1 (by simp[z7e] at hlen ⊢;omega) (h.nok x (by simp)) fun v hv=> ?_;simp only[List.mem_append,List.mem_cons] at hv;rcases hv with hv|rfl|hv|rfl|hv
  ·exact(f1 v (by simp[hv])).1
  ·exact(f1 ⟨e0 P u.nd,u.rows⟩ (by simp)).1
  ·exact(f1 v (by simp[hv])).1
  ·exact fun e=>f2 e.symm
  ·exact(f1 v (by simp[hv])).1
 ·simp[z6q,e1]
 ·simp;omega
 ·simp only[List.mem_append,List.mem_cons] at hk;rcases hk with hk|rfl|hk|rfl|rfl|hk
  ·exact⟨k,by simp[hk],rfl,rfl⟩
  ·exact⟨⟨k.nd,A++[a]⟩,by simp,rfl,rfl⟩
  ·exact⟨k,by simp[hk],rfl,rfl⟩
  ·exact⟨⟨z54 k.nd bb.key,bb::B⟩,by simp,rfl,rfl⟩
  ·exact⟨⟨z54 k.nd x.nd.key,x.rows++k.rows⟩,by simp,rfl,rfl⟩
  ·exact⟨k,by simp[hk],rfl,rfl⟩
theorem Kp.movR2 {P Q:List Hd}{x y:Hd}{c:Nat}(h:Wd (fstL (P++x::y::Q)))(h0:0<c)(h1:c<(x.rows++y.rows).length):Kp (P++x::y::Q) (movH (P++x::y::Q) P.length (P.length+1) (P.length+1) c):=by
 have hm:z7n (P++x::y::Q) P.length (P.length+1)=P++x::([]++⟨z54 y.nd x.nd.key,x.rows++y.rows⟩::Q):=by rw[mrg_lt];rfl
 have hw:hd (P++x::y::Q) P.length=x:=z5k ..;obtain⟨A,a,B,bb,e1,e2⟩:=mov_lt hm hw h0 h1;rw[show movH (P++x::y::Q) P.length (P.length+1) (P.length+1) c=_ from e2];rw[fstL_mids] at h;obtain⟨f1,f2⟩:=h.fresh;have hlen:=h.len;have g:=h.merge (z:=z54 y.nd (e0 P x.nd).key) ⟨.inr rfl,rfl,bad_key2 (h.nok y (by simp)) (h.nok ⟨e0 P x.nd,x.rows⟩ (by simp))⟩;refine⟨?_,?_,?_,fun k hk=> ?_⟩
 ·rw[List.nil_append,z8i,e0_setK,←setK_e0 P x.nd];refine g.ins2 e1 (by simp[z7e] at hlen ⊢;omega) (h.nok ⟨e0 P x.nd,x.rows⟩ (by simp)) fun v hv=> ?_;simp only[List.mem_append,List.mem_cons] at hv;rcases hv with hv|rfl|hv
  ·exact(f1 v (by simp[hv])).1
  ·exact fun e=>f2 e.symm
  ·exact(f1 v (by simp[hv])).1
 ·have:z6q (P++x::y::Q)=z6q P++((x.rows++y.rows)++z6q Q):=by simp[z6q]
  rw[this];have e3:x.rows++y.rows=A++a::bb::B:=e1;rw[e3];simp[z6q]
 ·simp
 ·simp only[List.mem_append,List.mem_cons] at hk;rcases hk with hk|rfl|rfl|hk
  ·exact⟨k,by simp[hk],rfl,rfl⟩
  ·exact⟨⟨z54 k.nd bb.key,bb::B⟩,by simp,rfl,rfl⟩
  ·exact⟨⟨z54 k.nd x.nd.key,A++[a]⟩,by simp,rfl,rfl⟩
  ·exact⟨k,by simp[hk],rfl,rfl⟩
theorem Kp.movR3 {P P2 Q:List Hd}{x y u:Hd}{c:Nat}(h:Wd (fstL (P++x::y::(P2++u::Q))))(h0:0<c)(h1:c<u.rows.length):Kp (P++x::y::(P2++u::Q)) (movH (P++x::y::(P2++u::Q)) P.length (P.length+1) (P.length+1+(P2.length+1)) c):=by
 have hm:z7n (P++x::y::(P2++u::Q)) P.length (P.length+1)=P++x::((⟨z54 y.nd x.nd.key,x.rows++y.rows⟩::P2)++u::Q):=by rw[mrg_lt];rfl
 have hw:hd (P++x::y::(P2++u::Q)) P.length=x:=z5k ..;obtain⟨A,a,B,bb,e1,e2⟩:=mov_lt hm hw h0 h1;rw[show P2.length+1=((⟨z54 y.nd x.nd.key,x.rows++y.rows⟩:Hd)::P2).length from rfl,e2];rw[fstL_mids] at h;obtain⟨f1,f2⟩:=h.fresh;have hlen:=h.len;have g:=h.merge (z:=z54 y.nd (e0 P x.nd).key) ⟨.inr rfl,rfl,bad_key2 (h.nok y (by simp)) (h.nok ⟨e0 P x.nd,x.rows⟩ (by simp))⟩;rw[show fstL P++(⟨z54 y.nd (e0 P x.nd).key,x.rows++y.rows⟩:Hd)::(P2++u::Q)=(fstL P++⟨z54 y.nd (e0 P x.nd).key,x.rows++y.rows⟩::P2)++u::Q by simp] at g;refine⟨?_,?_,?_,fun k hk=> ?_⟩
 ·rw[List.cons_append,z8i,e0_setK,←setK_e0 P x.nd,show fstL P++(⟨z54 y.nd (e0 P x.nd).key,x.rows++y.rows⟩:Hd)::(P2++⟨u.nd,A++[a]⟩::⟨z54 (e0 P x.nd) bb.key,bb::B⟩::Q)=(fstL P++⟨z54 y.nd (e0 P x.nd).key,x.rows++y.rows⟩::P2)++⟨u.nd,A++[a]⟩::⟨z54 (e0 P x.nd) bb.key,bb::B⟩::Q by simp];refine g.ins2 e1 (by simp[z7e] at hlen ⊢;omega) (h.nok ⟨e0 P x.nd,x.rows⟩ (by simp)) fun v hv=> ?_;simp only[List.mem_append,List.mem_cons] at hv;rcases hv with(hv|rfl|hv)|rfl|hv
  ·exact(f1 v (by simp[hv])).1
  ·exact fun e=>f2 e.symm
  ·exact(f1 v (by simp[hv])).1
  ·exact(f1 u (by simp)).1
  ·exact(f1 v (by simp[hv])).1
 ·simp[z6q,e1]
 ·simp;omega
 ·simp only[List.mem_append,List.mem_cons] at hk;rcases hk with hk|rfl|rfl|hk|rfl|hk
  ·exact⟨k,by simp[hk],rfl,rfl⟩
  ·exact⟨⟨z54 k.nd bb.key,bb::B⟩,by simp,rfl,rfl⟩
  ·exact⟨⟨z54 k.nd x.nd.key,x.rows++k.rows⟩,by simp,rfl,rfl⟩
  ·exact⟨k,by simp[hk],rfl,rfl⟩
  ·exact⟨⟨k.nd,A++[a]⟩,by simp,rfl,rfl⟩
  ·exact⟨k,by simp[hk],rfl,rfl⟩
theorem Kp.movL1 {P Q1 Q:List Hd}{u x y:Hd}{c:Nat}(h:Wd (fstL (P++u::(Q1++y::x::Q))))(h0:0<c)(h1:c<u.rows.length):Kp (P++u::(Q1++y::x::Q)) (movH (P++u::(Q1++y::x::Q)) (P.length+1+(Q1.length+1)) (P.length+1+Q1.length) P.length c):=by
 have hP:P++u::(Q1++y::x::Q)=(P++u::Q1)++y::x::Q:=by simp
 have hl:P.length+1+Q1.length=(P++u::Q1).length:=by simp;omega
 have hm:z7n (P++u::(Q1++y::x::Q)) (P.length+1+(Q1.length+1)) (P.length+1+Q1.length)=P++u::((Q1++[⟨y.nd,y.rows++x.rows⟩])++x::Q):=by
  rw[hP,show P.length+1+(Q1.length+1)=P.length+1+Q1.length+1 by omega,hl,mrg_gt];simp
 have hw:hd (P++u::(Q1++y::x::Q)) (P.length+1+(Q1.length+1))=x:=by
  rw[hP,show P.length+1+(Q1.length+1)=P.length+1+Q1.length+1 by omega,hl,z8j]
 have hq:Q1.length+1=(Q1++[(⟨y.nd,y.rows++x.rows⟩:Hd)]).length:=by simp
 rw[hq] at hm hw ⊢;obtain⟨A,a,B,bb,e1,e2⟩:=mov_gt hm hw h0 h1;rw[e2];rw[fstL_mids] at h;have hF:fstL P++⟨e0 P u.nd,u.rows⟩::(Q1++y::x::Q)=(fstL P++⟨e0 P u.nd,u.rows⟩::Q1)++y::x::Q:=by simp
 rw[hF] at h;obtain⟨f1,f2⟩:=h.fresh;have hlen:=h.len;have g:=h.merge (z:=y.nd) ⟨.inl rfl,rfl,h.nok y (by simp)⟩;rw[show(fstL P++⟨e0 P u.nd,u.rows⟩::Q1)++(⟨y.nd,y.rows++x.rows⟩:Hd)::Q=fstL P++⟨e0 P u.nd,u.rows⟩::((Q1++[⟨y.nd,y.rows++x.rows⟩])++Q) by simp] at g;refine⟨?_,?_,?_,fun k hk=> ?_⟩
 ·rw[z8i];refine g.ins2 e1 (by simp[z7e] at hlen ⊢;omega) (h.nok x (by simp)) fun v hv=> ?_;simp only[List.mem_append,List.mem_cons,List.not_mem_nil,or_false] at hv;rcases hv with hv|rfl|(hv|rfl)|hv
  ·exact(f1 v (by simp[hv])).2
  ·exact(f1 ⟨e0 P u.nd,u.rows⟩ (by simp)).2
  ·exact(f1 v (by simp[hv])).2
  ·exact f2
  ·exact(f1 v (by simp[hv])).2
 ·simp[z6q,e1]
 ·simp;omega
 ·simp only[List.mem_append,List.mem_cons] at hk;rcases hk with hk|rfl|hk|rfl|rfl|hk
  ·exact⟨k,by simp[hk],rfl,rfl⟩
  ·exact⟨⟨k.nd,A++[a]⟩,by simp,rfl,rfl⟩
  ·exact⟨k,by simp[hk],rfl,rfl⟩
  ·exact⟨⟨k.nd,k.rows++x.rows⟩,by simp,rfl,rfl⟩
  ·exact⟨⟨z54 k.nd bb.key,bb::B⟩,by simp,rfl,rfl⟩
  ·exact⟨k,by simp[hk],rfl,rfl⟩
theorem Kp.movL2 {P Q:List Hd}{x y:Hd}{c:Nat}(h:Wd (fstL (P++y::x::Q)))(h0:0<c)(h1:c<(y.rows++x.rows).length):Kp (P++y::x::Q) (movH (P++y::x::Q) (P.length+1) P.length P.length c):=by
 have hm:z7n (P++y::x::Q) (P.length+1+([]:List Hd).length) P.length=P++(⟨y.nd,y.rows++x.rows⟩:Hd)::([]++x::Q):=by
  rw[show P.length+1+([]:List Hd).length=P.length+1 from rfl,mrg_gt];rfl
 have hw:hd (P++y::x::Q) (P.length+1+([]:List Hd).length)=x:=z8j ..;obtain⟨A,a,B,bb,e1,e2⟩:=mov_gt hm hw h0 h1;rw[show P.length+1=P.length+1+([]:List Hd).length from rfl,e2];rw[fstL_mids] at h;obtain⟨f1,f2⟩:=h.fresh;have hlen:=h.len;have g:=h.merge (z:=e0 P y.nd) ⟨.inl rfl,rfl,h.nok ⟨e0 P y.nd,y.rows⟩ (by simp)⟩;refine⟨?_,?_,?_,fun k hk=> ?_⟩
 ·rw[List.nil_append,z8i];refine g.ins2 e1 (by simp[z7e] at hlen ⊢;omega) (h.nok x (by simp)) fun v hv=> ?_;simp only[List.mem_append,List.mem_cons] at hv;rcases hv with hv|rfl|hv
  ·exact(f1 v (by simp[hv])).2
  ·exact f2
  ·exact(f1 v (by simp[hv])).2
 ·have:z6q (P++y::x::Q)=z6q P++((y.rows++x.rows)++z6q Q):=by simp[z6q]
  rw[this];have e3:y.rows++x.rows=A++a::bb::B:=e1;rw[e3];simp[z6q]
 ·simp
 ·simp only[List.mem_append,List.mem_cons] at hk;rcases hk with hk|rfl|rfl|hk
  ·exact⟨k,by simp[hk],rfl,rfl⟩
  ·exact⟨⟨k.nd,A++[a]⟩,by simp,rfl,rfl⟩
  ·exact⟨⟨z54 k.nd bb.key,bb::B⟩,by simp,rfl,rfl⟩
  ·exact⟨k,by simp[hk],rfl,rfl⟩
theorem Kp.movL3 {P P2 Q:List Hd}{x y u:Hd}{c:Nat}(h:Wd (fstL (P++y::x::(P2++u::Q))))(h0:0<c)(h1:c<u.rows.length):Kp (P++y::x::(P2++u::Q)) (movH (P++y::x::(P2++u::Q)) (P.length+1) P.length (P.length+1+1+P2.length) c):=by
 have hl:P.length+1=(P++[(⟨y.nd,y.rows++x.rows⟩:Hd)]).length:=by simp
 have hm:z7n (P++y::x::(P2++u::Q)) (P++[(⟨y.nd,y.rows++x.rows⟩:Hd)]).length P.length=(P++[(⟨y.nd,y.rows++x.rows⟩:Hd)])++x::(P2++u::Q):=by rw[←hl,mrg_gt];simp
 have hw:hd (P++y::x::(P2++u::Q)) (P++[(⟨y.nd,y.rows++x.rows⟩:Hd)]).length=x:=by rw[←hl];exact z8j ..
 obtain⟨A,a,B,bb,e1,e2⟩:=mov_lt hm hw h0 h1;rw[hl,e2];rw[fstL_mids] at h;obtain⟨f1,f2⟩:=h.fresh;have hlen:=h.len;have g:=h.merge (z:=e0 P y.nd) ⟨.inl rfl,rfl,h.nok ⟨e0 P y.nd,y.rows⟩ (by simp)⟩;rw[show fstL P++(⟨e0 P y.nd,y.rows++x.rows⟩:Hd)::(P2++u::Q)=(fstL P++⟨e0 P y.nd,y.rows++x.rows⟩::P2)++u::Q by simp] at g;refine⟨?_,?_,?_,fun k hk=> ?_⟩
 ·rw[List.append_assoc,List.singleton_append,z8i,show fstL P++(⟨e0 P y.nd,y.rows++x.rows⟩:Hd)::(P2++⟨u.nd,A++[a]⟩::⟨z54 x.nd bb.key,bb::B⟩::Q)=(fstL P++⟨e0 P y.nd,y.rows++x.rows⟩::P2)++⟨u.nd,A++[a]⟩::⟨z54 x.nd bb.key,bb::B⟩::Q by simp];refine g.ins2 e1 (by simp[z7e] at hlen ⊢;omega) (h.nok x (by simp)) fun v hv=> ?_;simp only[List.mem_append,List.mem_cons] at hv;rcases hv with(hv|rfl|hv)|rfl|hv
  ·exact(f1 v (by simp[hv])).2
  ·exact f2
  ·exact(f1 v (by simp[hv])).2
  ·exact(f1 u (by simp)).2
  ·exact(f1 v (by simp[hv])).2
 ·simp[z6q,e1]
 ·simp;omega
 ·simp only[List.mem_append,List.mem_cons] at hk;rcases hk with hk|rfl|rfl|hk|rfl|hk
  ·exact⟨k,by simp[hk],rfl,rfl⟩
  ·exact⟨⟨k.nd,k.rows++x.rows⟩,by simp,rfl,rfl⟩
  ·exact⟨⟨z54 k.nd bb.key,bb::B⟩,by simp,rfl,rfl⟩
  ·exact⟨k,by simp[hk],rfl,rfl⟩
  ·exact⟨⟨k.nd,A++[a]⟩,by simp,rfl,rfl⟩
  ·exact⟨k,by simp[hk],rfl,rfl⟩
end Go.Proofs

namespace Go.Proofs
open Go.Sk
theorem fstL_set_tab (l:List Hd):z6q (fstL l)=z6q l:=by cases l<;>rfl
theorem Kp.shiR {l:List Hd}(h:Wd (fstL l)){a c:Nat}(ha:a+1<l.length)(h0:0<c)(h1:c<(hd l a).rows.length):Kp l (Go.Proofs.shiR l a c):=by
 have hw:=h.shiR ha h0 h1;refine⟨hw,?_,by simp[Go.Proofs.shiR],?_⟩
 ·obtain⟨P,⟨x,r⟩,⟨y,R⟩,Q,rfl,rfl⟩:=split2 ha;rw[Go.Proofs.shiR,z5k,z8j,set_mid,set_mid1];have:r.take (r.length-c)++r.drop (r.length-c)=r:=List.take_append_drop _ _;simp only[tabL_append,tabL_cons,List.append_assoc];rw[←List.append_assoc (r.take _),this]
 ·obtain⟨P,⟨x,r⟩,⟨y,R⟩,Q,rfl,rfl⟩:=split2 ha;rw[Go.Proofs.shiR,z5k,z8j,set_mid,set_mid1];intro k hk;simp only[List.mem_append,List.mem_cons] at hk;rcases hk with hk|rfl|rfl|hk
  ·exact⟨k,by simp[hk],rfl,rfl⟩
  ·exact⟨⟨x,r.take (r.length-c)⟩,by simp,rfl,rfl⟩
  ·exact⟨⟨z54 y (ro r (r.length-c)).key,r.drop (r.length-c)++R⟩,by simp,rfl,rfl⟩
  ·exact⟨k,by simp[hk],rfl,rfl⟩
theorem Kp.shiL {l:List Hd}(h:Wd (fstL l)){a c:Nat}(ha:a+1<l.length)(h0:0<c)(h1:c<(hd l (a+1)).rows.length):Kp l (Go.Proofs.shiL l (a+1) c):=by
 have hw:=h.shiL ha h0 h1;refine⟨hw,?_,by simp[Go.Proofs.shiL],?_⟩
 ·obtain⟨P,⟨x,R⟩,⟨y,r⟩,Q,rfl,rfl⟩:=split2 ha;rw[Go.Proofs.shiL,show P.length+1-1=P.length by omega,z5k,z8j,set_mid,set_mid1];have:r.take c++r.drop c=r:=List.take_append_drop _ _;simp only[tabL_append,tabL_cons,List.append_assoc];rw[←List.append_assoc (r.take _),this]
 ·obtain⟨P,⟨x,R⟩,⟨y,r⟩,Q,rfl,rfl⟩:=split2 ha;rw[Go.Proofs.shiL,show P.length+1-1=P.length by omega,z5k,z8j,set_mid,set_mid1];intro k hk;simp only[List.mem_append,List.mem_cons] at hk;rcases hk with hk|rfl|rfl|hk
  ·exact⟨k,by simp[hk],rfl,rfl⟩
  ·exact⟨⟨x,R++r.take c⟩,by simp,rfl,rfl⟩
  ·exact⟨⟨z54 y (ro r c).key,r.drop c⟩,by simp,rfl,rfl⟩
  ·exact⟨k,by simp[hk],rfl,rfl⟩
theorem hd_set (l:List Hd)(i j:Nat)(x:Hd)(h:i<l.length):hd (l.set i x) j=if j=i then x else hd l j:=by
 by_cases e:j=i
 ·subst e;rw[if_pos rfl,hd_lt (by simpa using h)];simp
 ·rw[if_neg e,hd,hd,List.getD_eq_getElem?_getD,List.getElem?_set_ne (Ne.symm e),List.getD_eq_getElem?_getD]
theorem mrg_rows {l:List Hd}{a b k:Nat}(hb:b<l.length):(hd (z7n l a b) k).rows=if k=b then(if a<b then(hd l a).rows++(hd l b).rows else(hd l b).rows++(hd l a).rows) else(hd l k).rows:=by
 rw[z7n]
 split
 ·rw[hd_set _ _ _ _ hb];split<;>rfl
 ·rw[hd_set _ _ _ _ hb];split<;>rfl
theorem Kp.mov {l:List Hd}(h:Wd (fstL l)){a b k c:Nat}(ha:a<l.length)(hb:b<l.length)(hab:a+1=b∨b+1=a)(hk:k<l.length)(hka:k≠a)(h0:0<c)(h1:c<(hd (z7n l a b) k).rows.length):Kp l (movH l a b k c):=by
 rw[mrg_rows hb] at h1;rcases hab with rfl|rfl
 ·obtain⟨P,x,y,Q,rfl,rfl⟩:=split2 hb
  by_cases e1:k<P.length
  ·obtain⟨P',u,Q1,rfl,rfl⟩:=split1 e1;have e:(P'++u::Q1).length=P'.length+1+Q1.length:=by simp;omega
   rw[if_neg (by omega),show(P'++u::Q1)++x::y::Q=P'++u::(Q1++x::y::Q) by simp,z5k] at h1;rw[show(P'++u::Q1)++x::y::Q=P'++u::(Q1++x::y::Q) by simp] at h ⊢;rw[e];exact Kp.movR1 h h0 h1
  ·by_cases e2:k=P.length+1
   ·subst e2;rw[if_pos rfl,if_pos (by omega),z5k,z8j] at h1;exact Kp.movR2 h h0 h1
   ·rw[if_neg e2] at h1;have hk2:k-(P.length+2)<Q.length:=by simp at hk;omega
    obtain⟨P2,u,Q',rfl,hl⟩:=split1 hk2;have ek:k=P.length+1+(P2.length+1):=by omega
    have hu:hd (P++x::y::(P2++u::Q')) k=u:=by
     rw[ek,show P++x::y::(P2++u::Q')=(P++x::y::P2)++u::Q' by simp,show P.length+1+(P2.length+1)=(P++x::y::P2).length by simp;omega,z5k]
    rw[hu] at h1;rw[ek];exact Kp.movR3 h h0 h1
 ·obtain⟨P,y,x,Q,rfl,rfl⟩:=split2 ha
  by_cases e1:k<P.length
  ·obtain⟨P',u,Q1,rfl,rfl⟩:=split1 e1;have e:(P'++u::Q1).length=P'.length+1+Q1.length:=by simp;omega
   rw[if_neg (by omega),show(P'++u::Q1)++y::x::Q=P'++u::(Q1++y::x::Q) by simp,z5k] at h1;rw[show(P'++u::Q1)++y::x::Q=P'++u::(Q1++y::x::Q) by simp] at h ⊢;rw[e];exact Kp.movL1 h h0 h1
  ·by_cases e2:k=P.length
   ·subst e2;rw[if_pos rfl,if_neg (by omega),z5k,z8j] at h1;exact Kp.movL2 h h0 h1
   ·rw[if_neg e2] at h1;have hk2:k-(P.length+2)<Q.length:=by simp at hk;omega
    obtain⟨P2,u,Q',rfl,hl⟩:=split1 hk2;have ek:k=P.length+1+1+P2.length:=by omega
    have hu:hd (P++y::x::(P2++u::Q')) k=u:=by
     rw[ek,show P++y::x::(P2++u::Q')=(P++y::x::P2)++u::Q' by simp,show P.length+1+1+P2.length=(P++y::x::P2).length by simp;omega,z5k]
    rw[hu] at h1;rw[ek];exact Kp.movL3 h h0 h1
theorem Kp.refl {l:List Hd}(h:Wd (fstL l)):Kp l l:=⟨h,rfl,rfl,fun k hk=>⟨k,hk,rfl,rfl⟩⟩
theorem Kp.fst {l l':List Hd}(h:Kp l l'):Kp l (fstL l'):=by
 refine⟨?_,by rw[fstL_set_tab];exact h.tab,by rw[z7e];exact h.len,fun k hk=> ?_⟩
 ·have:fstL (fstL l')=fstL l':=by cases l'<;>rfl
  rw[this];exact h.wd
 ·obtain⟨k',hk',e1,e2⟩:=h.has k hk
  cases l' with
  |nil=>cases hk'
  |cons u t=>
   rcases List.mem_cons.1 hk' with rfl|hk'
   ·exact⟨_,List.mem_cons_self ..,e1,e2⟩
   ·exact⟨k',List.mem_cons_of_mem _ hk',e1,e2⟩
theorem Wd.keys {l:List Hd}(h:Wd l){i j:Nat}(hij:i<j)(hj:j<l.length):sLt (hd l i).nd.key (hd l j).nd.key=true:=by
 obtain⟨P,x,Q,rfl,rfl⟩:=split1 (show i<l.length by omega);have hj2:j-(P.length+1)<Q.length:=by simp at hj;omega
 obtain⟨P2,y,Q2,rfl,hl⟩:=split1 hj2
 have hy:hd (P++x::(P2++y::Q2)) j=y:=by
  rw[show P++x::(P2++y::Q2)=(P++x::P2)++y::Q2 by simp,show j=(P++x::P2).length by simp;omega,z5k]
 rw[z5k,hy];have h1:=h.tk;rw[z5q,z7b,z5q,z7b] at h1;have h2:=(List.pairwise_append.1 h1).2.1;exact(List.pairwise_cons.1 h2).1 (.bd y.nd.key) (by simp)
theorem Wd.above {l:List Hd}(h:Wd l){i:Nat}(hi:i<l.length){r:Rw}(hr:r∈(hd l i).rows):sLt r.key (hd l i).nd.key=false:=by
 obtain⟨P,x,Q,rfl,rfl⟩:=split1 hi;rw[z5k] at hr ⊢;have h1:=h.tk;rw[z5q,z7b] at h1;have h2:=(List.pairwise_append.1 h1).2.1;exact(List.pairwise_cons.1 h2).1 (.row r) (by simp[hr])
theorem Wd.below {l:List Hd}(h:Wd l){i j:Nat}(hij:i<j)(hj:j<l.length){r:Rw}(hr:r∈(hd l i).rows):sLt r.key (hd l j).nd.key=true:=by
 obtain⟨P,x,Q,rfl,rfl⟩:=split1 (show i<l.length by omega);have hj2:j-(P.length+1)<Q.length:=by simp at hj;omega
 obtain⟨P2,y,Q2,rfl,hl⟩:=split1 hj2
 have hy:hd (P++x::(P2++y::Q2)) j=y:=by
  rw[show P++x::(P2++y::Q2)=(P++x::P2)++y::Q2 by simp,show j=(P++x::P2).length by simp;omega,z5k]
 rw[z5k] at hr;rw[hy];have h1:=h.tk;rw[z5q,z7b,z5q,z7b] at h1;have h2:=(List.pairwise_append.1 h1).2.1;have h3:=(List.pairwise_cons.1 h2).2;exact(List.pairwise_append.1 h3).2.2 (.row r) (by simp[hr]) (.bd y.nd.key) (by simp)
theorem Wd.rows {l:List Hd}(h:Wd l){i:Nat}(hi:i<l.length):(hd l i).rows.Pairwise (fun a b=>sLt a.key b.key=true):=by
 obtain⟨P,x,Q,rfl,rfl⟩:=split1 hi;rw[z5k];have h1:=h.tk;rw[z5q,z7b] at h1;have h2:=(List.pairwise_append.1 h1).2.1;have h3:=(List.pairwise_append.1 (List.pairwise_cons.1 h2).2).1;exact List.pairwise_map.1 h3
theorem Wd.good {l:List Hd}(h:Wd l):z3n (z89 l)=0:=by
 rw[good_iff,z6j];refine⟨h.len,fun x hx=> ?_,?_⟩
 ·obtain⟨k,hk,rfl⟩:=List.mem_map.1 hx;exact h.nok k hk
 ·rw[z89,List.pairwise_map,List.pairwise_iff_getElem];intro i j hi hj hij;have h1:=h.keys hij hj;rw[hd_lt hi,hd_lt hj] at h1;have h2:=List.pairwise_iff_getElem.1 h.ids i j (by simpa using hi) (by simpa using hj) hij;simp only[List.getElem_map] at h2;simp only[twinN,sEq_iff,Bool.or_eq_false_iff,decide_eq_false_iff_not];exact⟨h2,sLt_ne h1⟩
theorem tab_mem {l:List Hd}{i:Nat}(hi:i<l.length){r:Rw}(hr:r∈(hd l i).rows):r∈z6q l:=List.mem_flatMap.2 ⟨_,hd_mem hi,hr⟩
theorem rows_le (l:List Hd){i:Nat}(hi:i<l.length):(hd l i).rows.length≤(z6q l).length:=by
 obtain⟨P,x,Q,rfl,rfl⟩:=split1 hi;rw[z5k,tabL_append,tabL_cons];simp;omega
end Go.Proofs

namespace Go.Proofs
open Go.Sk
theorem rkI_at {xs:List Nd}(hg:z3n xs=0){i:Nat}(hi:i<xs.length):rkI xs (nd (srtN xs) i).id=i:=by
 rw[rkI,if_pos hg];rcases findI_cases (srtN xs) (nd (srtN xs) i).id with⟨_,h⟩|⟨j,h1,h2,h3,_⟩
 ·exact absurd rfl (h i (by rw[z82];exact hi))
 ·have:=(asc_srtN hg).ids j i h2 (by rw[z82];exact hi) h3;subst this;exact h1
theorem ivN_at {xs:List Nd}(hg:z3n xs=0){i:Nat}(hi:i<xs.length):ivN xs (nd (srtN xs) i).id=ivL (srtN xs) i:=by
 rw[ivN,rkI_at hg hi,if_neg (by omega)];rfl
end Go.Proofs

namespace Go.Proofs
open Go.Sk
def hdB (l:List Hd)(i:Nat):Bool:=(decide (i=0)||sLt (hd l (i-1)).nd.key (hd l i).nd.key) && decide (0≤rkI (z89 l) (hd l i).nd.id) && tblB (hd l i).rows && (hd l i).rows.all fun r=>zk (ivN (z89 l) (hd l i).nd.id) r.key
def vldB (l:List Hd):Bool:=z3n (z89 l)==0 && decide ((z6q l).length≤1024) && allB l.length (hdB l)
theorem toks_mk:∀{l:List Hd},(∀i j,i<j→j<l.length→sLt (hd l i).nd.key (hd l j).nd.key=true)→(∀i,i<l.length→∀r∈(hd l i).rows,sLt r.key (hd l i).nd.key=false)→(∀i j,i<j→j<l.length→∀r∈(hd l i).rows,sLt r.key (hd l j).nd.key=true)→(∀i,i<l.length→(hd l i).rows.Pairwise fun a b=>sLt a.key b.key=true)→(toks l).Pairwise Tok.rel
 |[],_,_,_,_=>List.Pairwise.nil
 |h::t,h1,h2,h3,h4=>by
  have s0:hd (h::t) 0=h:=rfl;have s1:∀i,hd (h::t) (i+1)=hd t i:=fun i=>by simp[hd]
  have ih:(toks t).Pairwise Tok.rel:=toks_mk (fun i j hij hj=>by have:=h1 (i+1) (j+1) (by omega) (by simpa using hj);rwa [s1,s1] at this)
   (fun i hi r hr=>by have:=h2 (i+1) (by simpa using hi) r (by rw[s1];exact hr);rwa [s1] at this)
   (fun i j hij hj r hr=>by have:=h3 (i+1) (j+1) (by omega) (by simpa using hj) r (by rw[s1];exact hr);rwa [s1] at this)
   (fun i hi=>by have:=h4 (i+1) (by simpa using hi);rwa [s1] at this)
  have hin:∀u∈toks t,∃j,j<t.length∧(u= .bd (hd t j).nd.key∨∃r∈(hd t j).rows,u= .row r):=fun u hu=>by
   obtain⟨x,hx,hu⟩:=List.mem_flatMap.1 hu;obtain⟨j,hj,rfl⟩:=List.getElem_of_mem hx;refine⟨j,hj,?_⟩;rw[hd_lt hj];simp only[tok1,List.mem_cons,List.mem_map] at hu;rcases hu with rfl|⟨r,hr,rfl⟩
   ·exact .inl rfl
   ·exact .inr ⟨r,hr,rfl⟩
  have b1:∀j,j<t.length→sLt h.nd.key (hd t j).nd.key=true:=fun j hj=>by have:=h1 0 (j+1) (by omega) (by simpa using hj);rwa [s0,s1] at this
  have b3:∀j,j<t.length→∀r∈h.rows,sLt r.key (hd t j).nd.key=true:=fun j hj r hr=>by have:=h3 0 (j+1) (by omega) (by simpa using hj) r hr;rwa [s1] at this
  have b2:∀j,j<t.length→∀r∈(hd t j).rows,sLt r.key (hd t j).nd.key=false:=fun j hj r hr=>by have:=h2 (j+1) (by simpa using hj) r (by rw[s1];exact hr);rwa [s1] at this
  rw[z7b,List.pairwise_cons,List.pairwise_append];refine⟨fun u hu=> ?_,List.pairwise_map.2 (h4 0 (by simp)),ih,fun u hu v hv=> ?_⟩
  ·rcases List.mem_append.1 hu with hu|hu
   ·obtain⟨r,hr,rfl⟩:=List.mem_map.1 hu;exact h2 0 (by simp) r hr
   ·obtain⟨j,hj,rfl|⟨r,hr,rfl⟩⟩:=hin u hu
    ·exact b1 j hj
    ·have:=kLt_le (b1 j hj) (b2 j hj r hr);exact kLt_asym this
  ·obtain⟨r,hr,rfl⟩:=List.mem_map.1 hu;obtain⟨j,hj,rfl|⟨r',hr',rfl⟩⟩:=hin v hv
   ·exact b3 j hj r hr
   ·exact kLt_le (b3 j hj r hr) (b2 j hj r' hr')
theorem tblB_iff {t:List Rw}:tblB t=true↔t.length≤1024∧(∀r∈t,okRw r=true)∧t.Pairwise fun a b=>sLt a.key b.key=true:=by
 simp only[tblB,Bool.and_eq_true,decide_eq_true_eq,allB_iff,rowB,Bool.or_eq_true]
 constructor
 ·rintro⟨h1,h2⟩;refine⟨h1,fun r hr=> ?_,?_⟩
  ·obtain⟨i,hi,rfl⟩:=List.getElem_of_mem hr;have:=(h2 i hi).1;rwa [ro_lt hi] at this
  ·rw[List.pairwise_iff_getElem]
   have key:∀d i,i+d+1<t.length→sLt (ro t i).key (ro t (i+d+1)).key=true:=by
    intro d
    induction d with
    |zero=>
     intro i hi;have:=(h2 (i+1) hi).2.resolve_left (by omega);exact this
    |succ d ih=>
     intro i hi;have:=(h2 (i+(d+1)+1) hi).2.resolve_left (by omega);exact kLt_trans (ih i (by omega)) this
   intro i j hi hj hij;have:=key (j-i-1) i (by omega);rw[show i+(j-i-1)+1=j by omega,ro_lt hi,ro_lt hj] at this;exact this
 ·rintro⟨h1,h2,h3⟩;refine⟨h1,fun i hi=>⟨h2 _ (ro_mem hi),?_⟩⟩
  by_cases e:i=0
  ·exact .inl e
  ·refine .inr ?_;rw[ro_lt hi,ro_lt (show i-1<t.length by omega)];exact List.pairwise_iff_getElem.1 h3 (i-1) i (by omega) hi (by omega)
theorem srt_keys {s:List Nd}(h:∀i j,i<j→j<s.length→sLt (nd s i).key (nd s j).key=true):srtN s=s:=by
 refine srt_sub (List.Sublist.refl s) (List.pairwise_iff_getElem.2 fun i j hi hj hij=> ?_);have:=h i j hij hj;rwa [z6b hi,z6b hj] at this
theorem rk_keys {l:List Hd}(hg:z3n (z89 l)=0)(h:∀i j,i<j→j<l.length→sLt (hd l i).nd.key (hd l j).nd.key=true){i:Nat}(hi:i<l.length):rkI (z89 l) (hd l i).nd.id=i∧ivN (z89 l) (hd l i).nd.id=ivL (z89 l) i∧Asc (z89 l):=by
 have hs:srtN (z89 l)=z89 l:=srt_keys fun i j hij hj=>by
  rw[z6j] at hj;rw[nd_ndsL (by omega),nd_ndsL hj];exact h i j hij hj
 have h1:=rkI_at hg (i:=i) (by rw[z6j];exact hi);have h2:=ivN_at hg (i:=i) (by rw[z6j];exact hi);have h3:=asc_srtN hg;rw[hs] at h1 h2 h3;rw[nd_ndsL hi] at h1 h2;exact⟨h1,h2,h3⟩
theorem fst_hd {l:List Hd}{i:Nat}:(hd (fstL l) i).rows=(hd l i).rows∧(hd (fstL l) i).nd.id=(hd l i).nd.id∧(hd (fstL l) i).nd.word=(hd l i).nd.word∧(0<i→(hd (fstL l) i).nd=(hd l i).nd):=by
 cases l with
 |nil=>exact⟨rfl,rfl,rfl,fun _=>rfl⟩
 |cons a t=>
  cases i with
  |zero=>exact⟨rfl,rfl,rfl,fun h=>absurd h (by omega)⟩
  |succ i=>exact⟨rfl,rfl,rfl,fun _=>rfl⟩
theorem fst_key {l:List Hd}(h:0<l.length):(hd (fstL l) 0).nd.key=kEmp:=by
 cases l with
 |nil=>simp at h
 |cons a t=>rfl
theorem vld_wd {l:List Hd}(h:vldB l=true):Wd (fstL l)∧∀i j,i<j→j<l.length→sLt (hd l i).nd.key (hd l j).nd.key=true:=by
 simp only[vldB,Bool.and_eq_true,beq_iff_eq,decide_eq_true_eq,allB_iff,hdB,Bool.or_eq_true,List.all_eq_true] at h;obtain⟨⟨hg,ht⟩,hh⟩:=h
 have hk:∀i j,i<j→j<l.length→sLt (hd l i).nd.key (hd l j).nd.key=true:=by
  have key:∀d i,i+d+1<l.length→sLt (hd l i).nd.key (hd l (i+d+1)).nd.key=true:=by
   intro d
   induction d with
   |zero=>
    intro i hi;exact(hh (i+1) hi).1.1.1.resolve_left (by omega)
   |succ d ih=>
    intro i hi;exact kLt_trans (ih i (by omega)) ((hh (i+(d+1)+1) hi).1.1.1.resolve_left (by omega))
  intro i j hij hj;have:=key (j-i-1) i (by omega);rwa [show i+(j-i-1)+1=j by omega] at this
 refine⟨?_,hk⟩;have hg2:=(good_iff _).1 hg
 have hb:∀i,i<l.length→∀r∈(hd l i).rows,(0<i→sLt r.key (hd l i).nd.key=false)∧(∀j,i<j→j<l.length→sLt r.key (hd l j).nd.key=true):=fun i hi r hr=>by
  obtain⟨_,e2,ha⟩:=rk_keys hg hk hi;have hc:=(hh i hi).2 r hr;rw[e2,zk,ivL_lo,ivL_hi,z6j] at hc;simp only[Bool.and_eq_true,decide_eq_true_eq] at hc;obtain⟨⟨⟨_,_⟩,c3⟩,c4⟩:=hc;refine⟨fun h0=> ?_,fun j hij hj=> ?_⟩
  ·rw[if_pos h0,cmp_le,nd_ndsL hi] at c3;exact c3
  ·rw[if_pos (by omega),cmp_neg,nd_ndsL (by omega)] at c4
   by_cases e:i+1=j
   ·rw[←e];exact c4
   ·exact kLt_trans c4 (hk (i+1) j (by omega) hj)
 have hrow:∀i,i<l.length→∀r∈(hd l i).rows,okRw r=true:=fun i hi=>(tblB_iff.1 (hh i hi).1.2).2.1;refine⟨toks_mk (fun i j hij hj=> ?_) (fun i hi r hr=> ?_) (fun i j hij hj r hr=> ?_) (fun i hi=> ?_),by rw[fstL_set_tab];exact ht,fun r hr=> ?_,?_,fun x hx=> ?_,?_⟩
 ·rw[z7e] at hj;rw[(fst_hd (l:=l) (i:=j)).2.2.2 (by omega)]
  by_cases e:i=0
  ·subst e;rw[fst_key (by omega)];exact emp_sLt fun e2=>by have:=hk 0 j hij hj;rw[show(hd l j).nd.key=emp from e2,sLt_emp] at this;cases this
  ·rw[(fst_hd (l:=l) (i:=i)).2.2.2 (by omega)];exact hk i j hij hj
 ·rw[z7e] at hi;rw[fst_hd.1] at hr
  by_cases e:i=0
  ·subst e;rw[fst_key (by omega)];exact sLt_emp _
  ·rw[(fst_hd (l:=l) (i:=i)).2.2.2 (by omega)];exact(hb i hi r hr).1 (by omega)
 ·rw[z7e] at hj;rw[fst_hd.1] at hr;rw[(fst_hd (l:=l) (i:=j)).2.2.2 (by omega)];exact(hb i (by omega) r hr).2 j hij hj
 ·rw[z7e] at hi;rw[fst_hd.1];exact(tblB_iff.1 (hh i hi).1.2).2.2
 ·rw[fstL_set_tab] at hr;obtain⟨x,hx,hr⟩:=List.mem_flatMap.1 hr;obtain⟨i,hi,rfl⟩:=List.getElem_of_mem hx;exact hrow i hi r (by rw[hd_lt hi];exact hr)
 ·rw[z7e];have:=hg2.1;rwa [z6j] at this
 ·cases l with
  |nil=>cases hx
  |cons a t=>
   rcases List.mem_cons.1 hx with rfl|hx
   ·have:=hg2.2.1 a.nd (by simp[z89]);exact bad_setK (k:=⟨#[]⟩) this okKey_emp
   ·exact hg2.2.1 x.nd (by simp only[z89,List.map_cons,List.mem_cons,List.mem_map];exact .inr ⟨x,hx,rfl⟩)
 ·have:(fstL l).map (·.nd.id)=(z89 l).map (·.id):=by cases l<;>simp[fstL,z89]
  rw[this,List.nodup_iff_pairwise_ne,List.pairwise_map];exact hg2.2.2.imp fun h=>(twinN_false h).1
theorem wd_vld {l:List Hd}(h:Wd l):vldB l=true:=by
 have hg:=h.good;have hk:∀i j,i<j→j<l.length→sLt (hd l i).nd.key (hd l j).nd.key=true:=fun i j hij hj=>h.keys hij hj;simp only[vldB,Bool.and_eq_true,beq_iff_eq,decide_eq_true_eq,allB_iff,hdB,Bool.or_eq_true,List.all_eq_true];refine⟨⟨hg,h.tot⟩,fun i hi=> ?_⟩;obtain⟨e1,e2,ha⟩:=rk_keys hg hk hi;refine⟨⟨⟨?_,by omega⟩,tblB_iff.2 ⟨by have:=rows_le l hi;have:=h.tot;omega,fun r hr=>h.ok r (tab_mem hi hr),h.rows hi⟩⟩,fun r hr=> ?_⟩
 ·by_cases e:i=0
  ·exact .inl e
  ·exact .inr (hk (i-1) i (by omega) hi)
 ·have hok:okKey r.key=true:=by
   have:=h.ok r (tab_mem hi hr);simp only[okRw,Bool.and_eq_true] at this;exact this.1
  rw[e2,zk,iv_full ha (by rw[z6j];exact hi),hok,ivL_lo,ivL_hi,z6j];simp only[Bool.not_false,Bool.true_and,Bool.and_eq_true,decide_eq_true_eq];refine⟨?_,?_⟩
  ·rw[cmp_le]
   split
   ·rw[nd_ndsL hi];exact h.above hi hr
   ·exact sLt_emp _
  ·split
   ·rename_i c;rw[cmp_neg,nd_ndsL c];exact h.below (by omega) c hr
   ·rw[cmp_top];omega
end Go.Proofs
