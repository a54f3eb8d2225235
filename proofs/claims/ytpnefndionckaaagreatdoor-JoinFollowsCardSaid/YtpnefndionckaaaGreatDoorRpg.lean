/-
  Walks and plain facts, joined: part 7 of 18.
  Conditions: those that each statement names.
-/
import Derived.Test.YtpnefndionckaaaGreatDoorRpf
import Derived.Test.YtpnefndionckaaaGreatDoorRpc
import Derived.Test.YtpnefndionckaaaGreatDoorRpd
set_option linter.unusedSimpArgs false
set_option linter.unusedVariables false
set_option linter.defProp false
set_option maxRecDepth 4000
set_option maxHeartbeats 8000000
namespace Go.Proofs
open Tryz
open Go.Sk
section
def prs_put' (l:List Pr)(k:Nat)(c:Pr)(h:k<l.length):(fun i=>if i=k then [SV.int .i64 c.kind,.int .i64 c.cell,.int .i64 c.phase,.int .i64 c.pred,.int .i64 c.succ,.int .i64 c.next,.bool c.res] else [SV.int .i64 (pr l i).kind,.int .i64 (pr l i).cell,.int .i64 (pr l i).phase,.int .i64 (pr l i).pred,.int .i64 (pr l i).succ,.int .i64 (pr l i).next,.bool (pr l i).res])=prs (l.set k c):=by
 funext i
 simp only[prs]
 split
 ·rename_i e;subst e;rw[z3q h];rfl
 rename_i e;rw[z2l (Qt e)];rfl
def Vld.rts {cs:List Cl}{ps:List Pr}(h:Vld cs ps):Rts cs:=⟨h.two,by have:=h.big;omega,fun i hi=>(h.cell i hi).2.1⟩
noncomputable def lsH (r:List Cl×List Pr):AH:=⟨4,[(3,z2p r.2),(2,z2c r.1)]⟩
def lsS (r:List Cl×List Pr):SV:= .agg [.slc true 2 0 0 r.1.length,.slc true 3 0 0 r.2.length]
open LlHm (gxE axE exE)
open LlBm (oxE)
open D0 (sdE)
def start_spec (cs:List Cl)(ps:List Pr)(n m:Nat)(hn:cs.length=n)(hm:ps.length=m)(hx:n<=9223372036854775807)(hy:m<=9223372036854775807)(p kind cell:Int):
  zj prog 101 [.agg [.slc false 0 0 0 n,.slc false 1 0 0 m],.int .i64 p,.int .i64 kind,.int .i64 cell] ⟨2,[(0,z4l cs),(1,z5b ps)]⟩
   (fun s H1=>s= .tup [lsS (z2o cs ps p kind cell),.int .i64 (z2t cs ps p kind cell)]/\H1=lsH (z2o cs ps p kind cell)):=by
 subst hn hm;refine Zf false 73 [.cell 8 85,.tmp 9] func101 ntmps101 results101 fun w0 own0 β0 Q hQ hQn=> ?_;refine Zrs [1,2,3,4,8] (z6 ?_);refine z8 fun Q0 hN0 hX0 hR0 hE0=> ?_;refine sg [1,2,3,4,8,11] rfl ?_;intro K hK;refine Zo Zl ?_;refine Zd Zl (valid_specK cs ps cs.length ps.length rfl rfl hx hy) (id) ?_;refine Zkl hK ?_;clear hK K;refine Zcm ?_ ?_
 ·intro h11;refine Zrs [8,9] ?_;refine z2g 3 0 117 5 (z1x []) rfl rfl rfl rfl rfl rfl rfl rfl (by dsimp only;omega) (by simp[SV.ltL,SV.lt]) ?_;dsimp only;refine z2g 3 1 110 7 (prs []) rfl rfl rfl rfl rfl rfl rfl rfl (by dsimp only;omega) (by simp[SV.ltL,SV.lt]) ?_;simp only[setO,↓reduceIte,Nat.reduceEqDiff,Nat.reduceAdd,Qf,Qe,reduceCtorEq,uQ,rO,rI,rV];refine zb (hR0 _ _ (hQ _ _ ?_));have he:z2t cs ps p kind cell=1:=by rw[z2t,qe h11]
  rw[z2o,he,qc (by omega)];unfold lsH lsS;refine Zor (fun q=>if q=2 then 4 else if q=3 then 5 else q) (.tup [.agg [.slc true 2 0 0 ([]:List Cl).length,.slc true 3 0 0 ([]:List Pr).length],.int .i64 1]) (⟨4,[(3,z2p []),(2,z2c [])]⟩) ?_
  all_goals(first|trivial|exact⟨rfl,trivial⟩)
 intro h11;have hv:z1y cs ps=true:=by simpa using h11
 have hV:=z4g hv;obtain⟨hV1,hV2,hV3,hV4,hV5,hV6,hV7,hV8⟩:=hV;refine Zrs [1,2,3,4,8,16] ?_;refine Zcm ?_ ?_
 ·intro h16;refine Zrs [8,9] ?_;refine z2g 3 0 117 5 (z1x []) rfl rfl rfl rfl rfl rfl rfl rfl (by dsimp only;omega) (by simp[SV.ltL,SV.lt]) ?_;dsimp only;refine z2g 3 1 110 7 (prs []) rfl rfl rfl rfl rfl rfl rfl rfl (by dsimp only;omega) (by simp[SV.ltL,SV.lt]) ?_;simp only[setO,↓reduceIte,Nat.reduceEqDiff,Nat.reduceAdd,Qf,Qe,reduceCtorEq,uQ,rO,rI,rV];refine zb (hR0 _ _ (hQ _ _ ?_));have he:z2t cs ps p kind cell=2:=by rw[z2t,qc (by rw[h11];exact qh),qe h16]
  rw[z2o,he,qc (by omega)];unfold lsH lsS;refine Zor (fun q=>if q=2 then 4 else if q=3 then 5 else q) (.tup [.agg [.slc true 2 0 0 ([]:List Cl).length,.slc true 3 0 0 ([]:List Pr).length],.int .i64 2]) (⟨4,[(3,z2p []),(2,z2c [])]⟩) ?_
  all_goals(first|trivial|exact⟨rfl,trivial⟩)
 intro h16;have hpr:0<=p/\p<ps.length:=by replace h16:=Znb h16;omega
 refine Zrs [1,2,3,4,8,27] ?_;refine Zcm ?_ ?_
 ·intro h27;refine Zrs [8,9] ?_;refine z2g 3 0 117 5 (z1x []) rfl rfl rfl rfl rfl rfl rfl rfl (by dsimp only;omega) (by simp[SV.ltL,SV.lt]) ?_;dsimp only;refine z2g 3 1 110 7 (prs []) rfl rfl rfl rfl rfl rfl rfl rfl (by dsimp only;omega) (by simp[SV.ltL,SV.lt]) ?_;simp only[setO,↓reduceIte,Nat.reduceEqDiff,Nat.reduceAdd,Qf,Qe,reduceCtorEq,uQ,rO,rI,rV];refine zb (hR0 _ _ (hQ _ _ ?_));have he:z2t cs ps p kind cell=6:=by rw[z2t,qc (by rw[h11];exact qh),qc (by rw[h16];exact qh),qe h27]
  rw[z2o,he,qc (by omega)];unfold lsH lsS;refine Zor (fun q=>if q=2 then 4 else if q=3 then 5 else q) (.tup [.agg [.slc true 2 0 0 ([]:List Cl).length,.slc true 3 0 0 ([]:List Pr).length],.int .i64 6]) (⟨4,[(3,z2p []),(2,z2c [])]⟩) ?_
  all_goals(first|trivial|exact⟨rfl,trivial⟩)
 intro h27;have hcr:2<=cell/\cell<cs.length:=by replace h27:=Znb h27;omega
 refine Zrs [1,2,3,4,8,38] ?_;refine Zcm ?_ ?_
 ·intro h38;rw[kindBad_eq] at h38;refine Zrs [8,9] ?_;refine z2g 3 0 117 5 (z1x []) rfl rfl rfl rfl rfl rfl rfl rfl (by dsimp only;omega) (by simp[SV.ltL,SV.lt]) ?_;dsimp only;refine z2g 3 1 110 7 (prs []) rfl rfl rfl rfl rfl rfl rfl rfl (by dsimp only;omega) (by simp[SV.ltL,SV.lt]) ?_;simp only[setO,↓reduceIte,Nat.reduceEqDiff,Nat.reduceAdd,Qf,Qe,reduceCtorEq,uQ,rO,rI,rV];refine zb (hR0 _ _ (hQ _ _ ?_));have he:z2t cs ps p kind cell=1:=by rw[z2t,qc (by rw[h11];exact qh),qc (by rw[h16];exact qh),qc (by rw[h27];exact qh),qe h38]
  rw[z2o,he,qc (by omega)];unfold lsH lsS;refine Zor (fun q=>if q=2 then 4 else if q=3 then 5 else q) (.tup [.agg [.slc true 2 0 0 ([]:List Cl).length,.slc true 3 0 0 ([]:List Pr).length],.int .i64 1]) (⟨4,[(3,z2p []),(2,z2c [])]⟩) ?_
  all_goals(first|trivial|exact⟨rfl,trivial⟩)
 intro h38;rw[kindBad_eq] at h38;refine sg [1,2,3,4,8,50] rfl ?_;intro K hK;iterate 5 (refine Zo Zl ?_)
 refine Zd Zl (active_spec (pr ps p.toNat)) (id) ?_;refine Zkl hK ?_;clear hK K;refine Zcm ?_ ?_
 ·intro h50;refine Zrs [8,9] ?_;refine z2g 3 0 117 5 (z1x []) rfl rfl rfl rfl rfl rfl rfl rfl (by dsimp only;omega) (by simp[SV.ltL,SV.lt]) ?_;dsimp only;refine z2g 3 1 110 7 (prs []) rfl rfl rfl rfl rfl rfl rfl rfl (by dsimp only;omega) (by simp[SV.ltL,SV.lt]) ?_;simp only[setO,↓reduceIte,Nat.reduceEqDiff,Nat.reduceAdd,Qf,Qe,reduceCtorEq,uQ,rO,rI,rV];refine zb (hR0 _ _ (hQ _ _ ?_));have he:z2t cs ps p kind cell=7:=by rw[z2t,qc (by rw[h11];exact qh),qc (by rw[h16];exact qh),qc (by rw[h27];exact qh),qc (by rw[h38];exact qh),qe h50]
  rw[z2o,he,qc (by omega)];unfold lsH lsS;refine Zor (fun q=>if q=2 then 4 else if q=3 then 5 else q) (.tup [.agg [.slc true 2 0 0 ([]:List Cl).length,.slc true 3 0 0 ([]:List Pr).length],.int .i64 7]) (⟨4,[(3,z2p []),(2,z2c [])]⟩) ?_
  all_goals(first|trivial|exact⟨rfl,trivial⟩)
 intro h50;refine z7 (za (hN0 _ _ (sg [1,2,3,4,8,10] rfl ?_)));intro K hK;refine Zo Zl ?_;refine Zd Zl (clone_specK cs ps cs.length ps.length rfl rfl (by omega) (by omega)) (id) ?_;refine Zkl hK ?_;clear hK K;refine z6 ?_;refine Zrd [8,10] [0,1,2,3,4,5,6,7,8,9,10,11,12] (ws 0 [(12,[5])]) (ws 0 [(12,[5])]) ?_;intro K hK;iterate 12 (refine Zo (Zi [] []) ?_)
 refine Zo (Zi [5] [5]) ?_;rw[prs_put' ps p.toNat ⟨kind,cell,1,0,(cl cs 0).right,0,false⟩ (by omega)];refine Zad ?_;refine zz (Zpr (hK _ _ ?_));clear hK K;refine Zrs [8,9] (zb (hQ _ _ ?_));have he:z2t cs ps p kind cell=0:=by rw[z2t,qc (by rw[h11];exact qh),qc (by rw[h16];exact qh),qc (by rw[h27];exact qh),qc (by rw[h38];exact qh),qc (by rw[h50];exact qh)]
 have hl2:=startP_length cs ps p kind cell;rw[z2o,he,qe rfl];unfold lsH lsS;dsimp only;rw[hl2];refine Zor (fun q=>if q=2 then 4 else if q=3 then 5 else q) (.tup [.agg [.slc true 2 0 0 cs.length,.slc true 3 0 0 ps.length],.int .i64 0]) (⟨4,[(3,rO 110 7 ps.length (prs (ps.set p.toNat ⟨kind,cell,1,0,(cl cs 0).right,0,false⟩))),(2,z2c cs)]⟩) ?_
 all_goals first|trivial|(simp only[z2p,z2c,startP,qy];done)|(exact⟨rfl,by simp only[z2p,z2c,startP,qy]⟩)
def refStart_spec (cs:List Cl)(ps:List Pr)(n m:Nat)(hn:cs.length=n)(hm:ps.length=m)(hx:n<=9223372036854775807)(hy:m<=9223372036854775807)(p kind cell:Int):
  zj prog 104 [.agg [.slc false 0 0 0 n,.slc false 1 0 0 m],.int .i64 p,.int .i64 kind,.int .i64 cell] ⟨2,[(0,z4l cs),(1,z5b ps)]⟩
   (fun s H1=>s= .tup [lsS (z2o cs ps p kind cell),.int .i64 (z2t cs ps p kind cell)]/\H1=lsH (z2o cs ps p kind cell)):=by
 subst hn hm;refine Zf false 69 [.cell 8 85,.tmp 9] func104 ntmps104 results104 fun w0 own0 β0 Q hQ hQn=> ?_;refine Zrs [1,2,3,4,8] (z6 ?_);refine z8 fun Q0 hN0 hX0 hR0 hE0=> ?_;refine sg [1,2,3,4,8,11] rfl ?_;intro K hK;refine Zo Zl ?_;refine Zd Zl (refValid_spec cs ps cs.length ps.length rfl rfl hx hy) (id) ?_;refine Zkl hK ?_;clear hK K;refine Zcm ?_ ?_
 ·intro h11;refine Zrs [8,9] ?_;refine z2g 3 0 117 5 (z1x []) rfl rfl rfl rfl rfl rfl rfl rfl (by dsimp only;omega) (by simp[SV.ltL,SV.lt]) ?_;dsimp only;refine z2g 3 1 110 7 (prs []) rfl rfl rfl rfl rfl rfl rfl rfl (by dsimp only;omega) (by simp[SV.ltL,SV.lt]) ?_;simp only[setO,↓reduceIte,Nat.reduceEqDiff,Nat.reduceAdd,Qf,Qe,reduceCtorEq,uQ,rO,rI,rV];refine zb (hR0 _ _ (hQ _ _ ?_));have he:z2t cs ps p kind cell=1:=by rw[z2t,qe h11]
  rw[z2o,he,qc (by omega)];unfold lsH lsS;refine Zor (fun q=>if q=2 then 4 else if q=3 then 5 else q) (.tup [.agg [.slc true 2 0 0 ([]:List Cl).length,.slc true 3 0 0 ([]:List Pr).length],.int .i64 1]) (⟨4,[(3,z2p []),(2,z2c [])]⟩) ?_
  all_goals(first|trivial|exact⟨rfl,trivial⟩)
 intro h11;have hv:z1y cs ps=true:=by simpa using h11
 have hV:=z4g hv;obtain⟨hV1,hV2,hV3,hV4,hV5,hV6,hV7,hV8⟩:=hV;refine Zrs [1,2,3,4,8,16] ?_;refine Zcm ?_ ?_
 ·intro h16;refine Zrs [8,9] ?_;refine z2g 3 0 117 5 (z1x []) rfl rfl rfl rfl rfl rfl rfl rfl (by dsimp only;omega) (by simp[SV.ltL,SV.lt]) ?_;dsimp only;refine z2g 3 1 110 7 (prs []) rfl rfl rfl rfl rfl rfl rfl rfl (by dsimp only;omega) (by simp[SV.ltL,SV.lt]) ?_;simp only[setO,↓reduceIte,Nat.reduceEqDiff,Nat.reduceAdd,Qf,Qe,reduceCtorEq,uQ,rO,rI,rV];refine zb (hR0 _ _ (hQ _ _ ?_));have he:z2t cs ps p kind cell=2:=by rw[z2t,qc (by rw[h11];exact qh),qe h16]
  rw[z2o,he,qc (by omega)];unfold lsH lsS;refine Zor (fun q=>if q=2 then 4 else if q=3 then 5 else q) (.tup [.agg [.slc true 2 0 0 ([]:List Cl).length,.slc true 3 0 0 ([]:List Pr).length],.int .i64 2]) (⟨4,[(3,z2p []),(2,z2c [])]⟩) ?_
  all_goals(first|trivial|exact⟨rfl,trivial⟩)
 intro h16;have hpr:0<=p/\p<ps.length:=by replace h16:=Znb h16;omega
 refine Zrs [1,2,3,4,8,27] ?_;refine Zcm ?_ ?_
 ·intro h27;refine Zrs [8,9] ?_;refine z2g 3 0 117 5 (z1x []) rfl rfl rfl rfl rfl rfl rfl rfl (by dsimp only;omega) (by simp[SV.ltL,SV.lt]) ?_;dsimp only;refine z2g 3 1 110 7 (prs []) rfl rfl rfl rfl rfl rfl rfl rfl (by dsimp only;omega) (by simp[SV.ltL,SV.lt]) ?_;simp only[setO,↓reduceIte,Nat.reduceEqDiff,Nat.reduceAdd,Qf,Qe,reduceCtorEq,uQ,rO,rI,rV];refine zb (hR0 _ _ (hQ _ _ ?_));have he:z2t cs ps p kind cell=6:=by rw[z2t,qc (by rw[h11];exact qh),qc (by rw[h16];exact qh),qe h27]
  rw[z2o,he,qc (by omega)];unfold lsH lsS;refine Zor (fun q=>if q=2 then 4 else if q=3 then 5 else q) (.tup [.agg [.slc true 2 0 0 ([]:List Cl).length,.slc true 3 0 0 ([]:List Pr).length],.int .i64 6]) (⟨4,[(3,z2p []),(2,z2c [])]⟩) ?_
  all_goals(first|trivial|exact⟨rfl,trivial⟩)
 intro h27;have hcr:2<=cell/\cell<cs.length:=by replace h27:=Znb h27;omega
 refine Zrs [1,2,3,4,8,38] ?_;refine Zcm ?_ ?_
 ·intro h38
  change kindBad kind=true at h38
  refine Zrs [8,9] ?_;refine z2g 3 0 117 5 (z1x []) rfl rfl rfl rfl rfl rfl rfl rfl (by dsimp only;omega) (by simp[SV.ltL,SV.lt]) ?_;dsimp only;refine z2g 3 1 110 7 (prs []) rfl rfl rfl rfl rfl rfl rfl rfl (by dsimp only;omega) (by simp[SV.ltL,SV.lt]) ?_;simp only[setO,↓reduceIte,Nat.reduceEqDiff,Nat.reduceAdd,Qf,Qe,reduceCtorEq,uQ,rO,rI,rV];refine zb (hR0 _ _ (hQ _ _ ?_));have he:z2t cs ps p kind cell=1:=by rw[z2t,qc (by rw[h11];exact qh),qc (by rw[h16];exact qh),qc (by rw[h27];exact qh),qe h38]
  rw[z2o,he,qc (by omega)];unfold lsH lsS;refine Zor (fun q=>if q=2 then 4 else if q=3 then 5 else q) (.tup [.agg [.slc true 2 0 0 ([]:List Cl).length,.slc true 3 0 0 ([]:List Pr).length],.int .i64 1]) (⟨4,[(3,z2p []),(2,z2c [])]⟩) ?_
  all_goals(first|trivial|exact⟨rfl,trivial⟩)
 intro h38
 change kindBad kind=false at h38
 refine sg [1,2,3,4,8,46] rfl ?_;intro K hK;iterate 5 (refine Zo Zl ?_)
 refine Zd Zl (refActive_spec (pr ps p.toNat)) (id) ?_;refine Zkl hK ?_;clear hK K;refine Zcm ?_ ?_
 ·intro h46;refine Zrs [8,9] ?_;refine z2g 3 0 117 5 (z1x []) rfl rfl rfl rfl rfl rfl rfl rfl (by dsimp only;omega) (by simp[SV.ltL,SV.lt]) ?_;dsimp only;refine z2g 3 1 110 7 (prs []) rfl rfl rfl rfl rfl rfl rfl rfl (by dsimp only;omega) (by simp[SV.ltL,SV.lt]) ?_;simp only[setO,↓reduceIte,Nat.reduceEqDiff,Nat.reduceAdd,Qf,Qe,reduceCtorEq,uQ,rO,rI,rV];refine zb (hR0 _ _ (hQ _ _ ?_));have he:z2t cs ps p kind cell=7:=by rw[z2t,qc (by rw[h11];exact qh),qc (by rw[h16];exact qh),qc (by rw[h27];exact qh),qc (by rw[h38];exact qh),qe h46]
  rw[z2o,he,qc (by omega)];unfold lsH lsS;refine Zor (fun q=>if q=2 then 4 else if q=3 then 5 else q) (.tup [.agg [.slc true 2 0 0 ([]:List Cl).length,.slc true 3 0 0 ([]:List Pr).length],.int .i64 7]) (⟨4,[(3,z2p []),(2,z2c [])]⟩) ?_
  all_goals(first|trivial|exact⟨rfl,trivial⟩)
 intro h46;refine z7 (za (hN0 _ _ (sg [1,2,3,4,8,10] rfl ?_)));intro K hK;refine Zo Zl ?_;refine Zd Zl (copy_spec cs ps cs.length ps.length rfl rfl (by omega) (by omega)) (id) ?_;refine Zkl hK ?_;clear hK K;refine z6 ?_;refine Zrd [8,10] [0,1,2,3,4,5,6,7,8,9,10,11,12] (ws 0 [(12,[5])]) (ws 0 [(12,[5])]) ?_;intro K hK;iterate 12 (refine Zo (Zi [] []) ?_)
 refine Zo (Zi [5] [5]) ?_;rw[prs_put' ps p.toNat ⟨kind,cell,1,0,(cl cs 0).right,0,false⟩ (by omega)];refine Zad ?_;refine zz (Zpr (hK _ _ ?_));clear hK K;refine Zrs [8,9] (zb (hQ _ _ ?_));have he:z2t cs ps p kind cell=0:=by rw[z2t,qc (by rw[h11];exact qh),qc (by rw[h16];exact qh),qc (by rw[h27];exact qh),qc (by rw[h38];exact qh),qc (by rw[h46];exact qh)]
 have hl2:=startP_length cs ps p kind cell;rw[z2o,he,qe rfl];unfold lsH lsS;dsimp only;rw[hl2];refine Zor (fun q=>if q=2 then 4 else if q=3 then 5 else q) (.tup [.agg [.slc true 2 0 0 cs.length,.slc true 3 0 0 ps.length],.int .i64 0]) (⟨4,[(3,rO 110 7 ps.length (prs (ps.set p.toNat ⟨kind,cell,1,0,(cl cs 0).right,0,false⟩))),(2,z2c cs)]⟩) ?_
 all_goals first|trivial|(simp only[z2p,z2c,startP,qy];done)|(exact⟨rfl,by simp only[z2p,z2c,startP,qy]⟩)
end
section
def Tryz.zMc:z3d prog 165=some [.nils,.nils,.int .i64 0]:=by kernel_rfl
def LlLm.exE:=aj9 @zd @zf @zo @zh ec1 ec2 @zg @zp (aj8 @zq ec9 @Tryz.zMc ec3 ec4 ec10 @z1a.eq_1 @zu.eq_1)
def LlLm.axE:=aj9 @zd @zf @zo @zh ec1 ec2 @zg @zp (aj9 @zq ec9 @Tryz.zMc ec3 ec4 ec10 @z1a.eq_1 @zu.eq_1 (aj3 @z2j @pAt_ren @renL_ite))
open LlHm (gxE)
open LlLm (axE exE)
open LlBm (oxE)
open D0 (sdE)
def refStepL_spec (cs:List Cl)(ps:List Pr)(n m:Nat)(hn:cs.length=n)(hm:ps.length=m)(hx:n<=9223372036854775807)(hy:m<=9223372036854775807)(p:Int):
  zj prog 69 [.agg [.slc false 0 0 0 n,.slc false 1 0 0 m],.int .i64 p] ⟨2,[(0,z4l cs),(1,z5b ps)]⟩
   (fun s H1=>s= .tup [lsS (stepR cs ps p),.bool (z5u cs ps p)]/\H1=lsH (stepR cs ps p)):=by
 subst hn hm;refine Zf false 39 [.cell 4 85,.tmp 5] func69 ntmps69 results69 fun w0 own0 β0 Q hQ hQn=> ?_;refine Zrs [1,2,4] (z6 ?_);refine sg [1,2,4,9] rfl ?_;intro K hK;refine Zo Zl ?_;refine Zd Zl (refValid_spec cs ps cs.length ps.length rfl rfl hx hy) (id) ?_;refine Zkl hK ?_;clear hK K;refine Zcm ?_ ?_
 ·intro h9;have hv:z1y cs ps=false:=by simpa using h9
  refine Zrs [4,5] ?_;refine z2g 3 0 117 5 (z1x []) rfl rfl rfl rfl rfl rfl rfl rfl (by dsimp only;omega) (by simp[SV.ltL,SV.lt]) ?_;dsimp only;refine z2g 3 1 110 7 (prs []) rfl rfl rfl rfl rfl rfl rfl rfl (by dsimp only;omega) (by simp[SV.ltL,SV.lt]) ?_;simp only[setO,↓reduceIte,Nat.reduceEqDiff,Nat.reduceAdd,Qf,Qe,reduceCtorEq,uQ,rO,rI,rV];refine zb (hQ _ _ ?_);rw[stepR,z5u,hv];unfold lsH lsS;refine Zor (fun q=>if q=2 then 4 else if q=3 then 5 else q) (.tup [.agg [.slc true 2 0 0 ([]:List Cl).length,.slc true 3 0 0 ([]:List Pr).length],.bool false]) (⟨4,[(3,z2p []),(2,z2c [])]⟩) ?_
  all_goals(first|trivial|exact⟨rfl,trivial⟩|exact⟨rfl,rfl⟩)
 intro h9;have hv:z1y cs ps=true:=by simpa using h9
 have hV:=z4g hv;obtain⟨hV1,hV2,hV3,hV4,hV5,hV6,hV7,hV8⟩:=hV;refine z7 (sg [1,2,4,6] rfl ?_);intro K hK;refine Zo Zl ?_;refine Zd Zl (copy_spec cs ps cs.length ps.length rfl rfl (by omega) (by omega)) (id) ?_;refine Zkl hK ?_;clear hK K;refine z6 (sg [1,2,4,6,30] rfl ?_);intro K hK
 have hk4:∀B:Bool,B= !(goesB ps p && z42 (pr ps p.toNat))->K [(1,.int .i64 p),(2,.ptr 2 0 0 0),(4,.ptr 3 0 0 0),(6,.ptr 6 0 0 0),(30,.bool B)] ⟨7,[(6,lsOwn 4 cs.length 5 ps.length),(5,rO 110 7 ps.length (prs ps)),(4,rO 117 5 cs.length (z1x cs)),(3,rV 85 2 1 (fun _=>[.nils,.nils])),(2,z43 0 cs.length 1 ps.length),(0,z4l cs),(1,z5b ps)]⟩:=by
  intro B hB;subst hB;refine hK _ _ ?_;clear hK K;refine Zcm ?_ ?_
  ·intro h30
   have hg:(goesB ps p && z1v cs (pr ps p.toNat))=false:=by
    have h1:(goesB ps p && z42 (pr ps p.toNat))=false:=by rw[qn] at h30;exact h30
    cases hs:z1v cs (pr ps p.toNat) with
    |false=>simp
    |true=>rw[step_act hs,Jh] at h1;rw[h1];rfl
   refine Zrs [4,5] (zb (hQ _ _ ?_));rw[stepR,z5u,hv,hg];unfold lsH lsS;refine Zor (fun q=>if q=2 then 4 else if q=3 then 5 else q) (.tup [.agg [.slc true 2 0 0 cs.length,.slc true 3 0 0 ps.length],.bool false]) (⟨4,[(3,z2p ps),(2,z2c cs)]⟩) ?_
   all_goals(first|trivial|exact⟨rfl,trivial⟩|exact⟨rfl,rfl⟩)
  intro h30;have hga:(goesB ps p && z42 (pr ps p.toNat))=true:=by rw[qr] at h30;exact h30
  have hgp:0<=p/\p<ps.length:=by
   have:=(JE.1 hga).1;simp only[goesB,qt,qj,qk,qC,qn,qr,qm,qg,qD,qH,Qi,ne_eq,QB,QA,qO,qF] at this;omega
  have hph:1<=(pr ps p.toNat).phase/\(pr ps p.toNat).phase<=13:=by
   have h1:=z5z.1 (JE.1 hga).2;have h2:=hV7 p.toNat (by omega);simp only[z2b,qm] at h2;omega
  refine z7 (z6 (sg [2,4,6,35] rfl ?_));intro K hK;iterate 3 (refine Zo Zl ?_)
  have hst:=refStep_spec cs ps p.toNat (pr ps p.toNat) cs.length ps.length rfl (by omega) (by omega) (by omega) (by omega) (hV6 p.toNat (by omega)) (rt_in (z4g hv) (hV6 p.toNat (by omega)).cell.1 (hV6 p.toNat (by omega)).cell.2) hph;rw[pAt_self,show((p.toNat:Nat):Int)=p by omega] at hst;refine Zc1 (hst) (fun q=>q+4) ?_;rw[prs_put' ps p.toNat (z1d cs (pr ps p.toNat)) (by omega)];refine Zkl hK ?_;clear hK K;refine Zcm ?_ ?_
  ·intro h35
   have hg:(goesB ps p && z1v cs (pr ps p.toNat))=false:=by
    have h1:z1v cs (pr ps p.toNat)=false:=by simpa using h35
    rw[h1,Qq]
   refine sg [4,5] rfl ?_;intro K hK;refine Zo Zl ?_;refine Zd Zl (copy_spec cs ps cs.length ps.length rfl rfl (by omega) (by omega)) (id) ?_;refine Zkl hK ?_;clear hK K;refine zb (hQ _ _ ?_);rw[stepR,z5u,hv,hg];unfold lsH lsS;refine Zor (fun q=>if q=2 then 7 else if q=3 then 8 else q) (.tup [.agg [.slc true 2 0 0 cs.length,.slc true 3 0 0 ps.length],.bool false]) (⟨4,[(3,z2p ps),(2,z2c cs)]⟩) ?_
   all_goals(first|trivial|exact⟨rfl,trivial⟩|exact⟨rfl,rfl⟩)
  intro h35
  have hg:(goesB ps p && z1v cs (pr ps p.toNat))=true:=by
   have h1:z1v cs (pr ps p.toNat)=true:=by simpa using h35
   rw[h1,(JE.1 hga).1];rfl
  refine z7 (Zrs [4,5] (zb (hQ _ _ ?_)));have hl1:=stepC_length cs p.toNat (pr ps p.toNat);rw[stepR,z5u,hv,hg];unfold lsH lsS;simp only[qS,qz,Ql,q9,Jg,hl1,qy,z2p,z2c];refine Zor (fun q=>if q=2 then 4 else if q=3 then 5 else q) (.tup [.agg [.slc true 2 0 0 cs.length,.slc true 3 0 0 ps.length],.bool true]) (⟨4,[(3,rO 110 7 ps.length (prs (ps.set p.toNat (z1d cs (pr ps p.toNat))))),(2,rO 117 5 cs.length (z1x (z1c cs p.toNat (pr ps p.toNat))))]⟩) ?_
  all_goals(first|trivial|exact⟨rfl,trivial⟩|exact⟨rfl,rfl⟩)
 iterate 15 (refine Zo Zl ?_)
 refine z13 ?_;refine z1b rfl rfl ?_;refine Zgr ?_
 first|refine z15 ?_ ?_|refine(fun(h1:false=true->_) (h2:false=false->_)=>qi h1 fun _=>h2 rfl) ?_ ?_|refine qi ?_ ?_
 ·intro hg15
  first
   |(simp at hg15;done)
   |skip
    try replace hg15:=Znb hg15
    refine Zo id ?_;refine Zc1 (refActive_spec (pr ps p.toNat)) (id) ?_;refine Zo Zl ?_
    try with_reducible refine qi (by clear hk4 hV5 hV6 hV7 hV8;simp_all;done) ?_
    refine Zad ?_;refine Zo Zl ?_
    try with_reducible refine qi (by clear hk4 hV5 hV6 hV7 hV8;simp_all;done) ?_
    refine Zad ?_;refine zr ?_;refine Zpr ?_;refine hk4 _ ?_;clear hk4 hV5 hV6 hV7 hV8
    first|(simp_all[goesB];done)|(simp_all[goesB];rfl)
 intro hg15;refine⟨.bool false,?_⟩
 first
  |(simp at hg15;done)
  |skip
   try replace hg15:=Znb hg15
   refine Zo Zl ?_
   try with_reducible refine qi (by clear hk4 hV5 hV6 hV7 hV8;simp_all;done) ?_
   refine Zad ?_;refine Zo Zl ?_
   try with_reducible refine qi (by clear hk4 hV5 hV6 hV7 hV8;simp_all;done) ?_
   refine Zad ?_;refine zr ?_;refine Zpr ?_;refine hk4 _ ?_;clear hk4 hV5 hV6 hV7 hV8
   first|(simp_all[goesB];done)|(simp_all[goesB];rfl)
def stepL_spec (cs:List Cl)(ps:List Pr)(n m:Nat)(hn:cs.length=n)(hm:ps.length=m)(hx:n<=9223372036854775807)(hy:m<=9223372036854775807)(p:Int):
  zj prog 106 [.agg [.slc false 0 0 0 n,.slc false 1 0 0 m],.int .i64 p] ⟨2,[(0,z4l cs),(1,z5b ps)]⟩
   (fun s H1=>s= .tup [lsS (stepR cs ps p),.bool (z5u cs ps p)]/\H1=lsH (stepR cs ps p)):=by
 subst hn hm;refine Zf false 32 [.cell 4 85,.tmp 5] func106 ntmps106 results106 fun w0 own0 β0 Q hQ hQn=> ?_;refine Zrs [1,2,4] (z6 ?_);refine sg [1,2,4,9] rfl ?_;intro K hK;refine Zo Zl ?_;refine Zd Zl (valid_specK cs ps cs.length ps.length rfl rfl hx hy) (id) ?_;refine Zkl hK ?_;clear hK K;refine Zcm ?_ ?_
 ·intro h9;have hv:z1y cs ps=false:=by simpa using h9
  refine Zrs [4,5] ?_;refine z2g 3 0 117 5 (z1x []) rfl rfl rfl rfl rfl rfl rfl rfl (by dsimp only;omega) (by simp[SV.ltL,SV.lt]) ?_;dsimp only;refine z2g 3 1 110 7 (prs []) rfl rfl rfl rfl rfl rfl rfl rfl (by dsimp only;omega) (by simp[SV.ltL,SV.lt]) ?_;simp only[setO,↓reduceIte,Nat.reduceEqDiff,Nat.reduceAdd,Qf,Qe,reduceCtorEq,uQ,rO,rI,rV];refine zb (hQ _ _ ?_);rw[stepR,z5u,hv];unfold lsH lsS;refine Zor (fun q=>if q=2 then 4 else if q=3 then 5 else q) (.tup [.agg [.slc true 2 0 0 ([]:List Cl).length,.slc true 3 0 0 ([]:List Pr).length],.bool false]) (⟨4,[(3,z2p []),(2,z2c [])]⟩) ?_
  all_goals(first|trivial|exact⟨rfl,trivial⟩|exact⟨rfl,rfl⟩)
 intro h9;have hv:z1y cs ps=true:=by simpa using h9
 have hV:=z4g hv;obtain⟨hV1,hV2,hV3,hV4,hV5,hV6,hV7,hV8⟩:=hV;refine z7 (sg [1,2,4,6] rfl ?_);intro K hK;refine Zo Zl ?_;refine Zd Zl (clone_specK cs ps cs.length ps.length rfl rfl (by omega) (by omega)) (id) ?_;refine Zkl hK ?_;clear hK K;refine z6 (sg [2,4,6,28] rfl ?_);intro K hK
 have hk4:∀(B:Bool) (r:List Cl×List Pr) (os:List (Nat×Nat×(Nat->Sk.Obj))),B= !(goesB ps p && z1v cs (pr ps p.toNat))->(B=false->r=(z1c cs p.toNat (pr ps p.toNat),ps.set p.toNat (z1d cs (pr ps p.toNat))))->(os=[(6,lsOwn 4 cs.length 5 ps.length),(5,rO 110 7 ps.length (prs r.2)),(4,rO 117 5 cs.length (z1x r.1)),(3,rV 85 2 1 (fun _=>[.nils,.nils])),(2,z43 0 cs.length 1 ps.length),(0,z4l cs),(1,z5b ps)]\/os=[(5,rO 110 7 ps.length (prs r.2)),(4,rO 117 5 cs.length (z1x r.1)),(6,lsOwn 4 cs.length 5 ps.length),(3,rV 85 2 1 (fun _=>[.nils,.nils])),(2,z43 0 cs.length 1 ps.length),(0,z4l cs),(1,z5b ps)])->K [(2,.ptr 2 0 0 0),(4,.ptr 3 0 0 0),(6,.ptr 6 0 0 0),(28,.bool B)] ⟨7,os⟩:=by
  intro B r os hB hr hos;subst hB;refine hK _ _ ?_;clear hK K;refine Cs.give (H':=⟨7,[(6,lsOwn 4 cs.length 5 ps.length),(5,rO 110 7 ps.length (prs r.2)),(4,rO 117 5 cs.length (z1x r.1)),(3,rV 85 2 1 (fun _=>[.nils,.nils])),(2,z43 0 cs.length 1 ps.length),(0,z4l cs),(1,z5b ps)]⟩) (fr':=[(2,.ptr 2 0 0 0),(4,.ptr 3 0 0 0),(6,.ptr 6 0 0 0),(28,.bool !(goesB ps p && z1v cs (pr ps p.toNat)))]) id (by rcases hos with rfl|rfl<;>exact(Zg id)) ?_;refine Zcm ?_ ?_
  ·intro h28;have hg:(goesB ps p && z1v cs (pr ps p.toNat))=false:=by rw[qn] at h28;exact h28
   refine sg [4,5] rfl ?_;intro K hK;refine Zo Zl ?_;refine Zd Zl (clone_specK cs ps cs.length ps.length rfl rfl (by omega) (by omega)) (id) ?_;refine Zkl hK ?_;clear hK K;refine zb (hQ _ _ ?_);rw[stepR,z5u,hv,hg];unfold lsH lsS;refine Zor (fun q=>if q=2 then 7 else if q=3 then 8 else q) (.tup [.agg [.slc true 2 0 0 cs.length,.slc true 3 0 0 ps.length],.bool false]) (⟨4,[(3,z2p ps),(2,z2c cs)]⟩) ?_
   all_goals(first|trivial|exact⟨rfl,trivial⟩|exact⟨rfl,rfl⟩)
  intro h28;have hg:(goesB ps p && z1v cs (pr ps p.toNat))=true:=by rw[qr] at h28;exact h28
  have hr2:=hr h28;subst hr2;refine z7 (Zrs [4,5] (zb (hQ _ _ ?_)));have hl1:=stepC_length cs p.toNat (pr ps p.toNat);rw[stepR,z5u,hv,hg];unfold lsH lsS;simp only[qS,qz,Ql,q9,Jg,hl1,qy,z2p,z2c];refine Zor (fun q=>if q=2 then 4 else if q=3 then 5 else q) (.tup [.agg [.slc true 2 0 0 cs.length,.slc true 3 0 0 ps.length],.bool true]) (⟨4,[(3,rO 110 7 ps.length (prs (ps.set p.toNat (z1d cs (pr ps p.toNat))))),(2,rO 117 5 cs.length (z1x (z1c cs p.toNat (pr ps p.toNat))))]⟩) ?_
  all_goals(first|trivial|exact⟨rfl,trivial⟩|exact⟨rfl,rfl⟩)
 iterate 13 (refine Zo Zl ?_)
 refine z13 ?_;refine z1b rfl rfl ?_;refine Zgr ?_
 first|refine z15 ?_ ?_|refine(fun(h1:false=true->_) (h2:false=false->_)=>qi h1 fun _=>h2 rfl) ?_ ?_|refine qi ?_ ?_
 ·intro hg13
  first
   |(simp at hg13;done)
   |skip
    try replace hg13:=Znb hg13
    refine Zo id ?_;have hst:=step_spec cs ps p.toNat (pr ps p.toNat) cs.length ps.length rfl (by omega) (by omega) (by omega) (by omega) (hV6 p.toNat (by omega)) (rt_in (z4g hv) (hV6 p.toNat (by omega)).cell.1 (hV6 p.toNat (by omega)).cell.2);rw[pAt_self,show((p.toNat:Nat):Int)=p by omega] at hst;refine Zc1 (hst) (fun q=>q+4) ?_;rw[prs_put' ps p.toNat (z1d cs (pr ps p.toNat)) (by omega)];refine Zo Zl ?_
    try with_reducible refine qi (by clear hk4 hV5 hV6 hV7 hV8;simp_all;done) ?_
    refine Zad ?_;refine Zo Zl ?_
    try with_reducible refine qi (by clear hk4 hV5 hV6 hV7 hV8;simp_all;done) ?_
    refine Zad ?_;refine zr ?_;refine Zpr ?_;refine hk4 _ (z1c cs p.toNat (pr ps p.toNat),ps.set p.toNat (z1d cs (pr ps p.toNat))) _ ?_ (fun _=>rfl) (.inr rfl);clear hk4 hV5 hV6 hV7 hV8
    first|(simp_all[goesB];done)|(simp_all[goesB];rfl)
 intro hg13;refine⟨.bool false,?_⟩
 first
  |(simp at hg13;done)
  |skip
   try replace hg13:=Znb hg13
   refine Zo Zl ?_
   try with_reducible refine qi (by clear hk4 hV5 hV6 hV7 hV8;simp_all;done) ?_
   refine Zad ?_;refine Zo Zl ?_
   try with_reducible refine qi (by clear hk4 hV5 hV6 hV7 hV8;simp_all;done) ?_
   refine Zad ?_;refine zr ?_;refine Zpr ?_;refine hk4 _ (cs,ps) _ ?_ ?_ (.inl rfl)
   ·clear hk4 hV5 hV6 hV7 hV8
    first|(simp_all[goesB];done)|(simp_all[goesB];rfl)
   clear hk4 hV5 hV6 hV7 hV8;intro hbb
   exfalso
   simp_all
end
section
def idleB (x:Pr):Bool:=x.kind==3|| !z42 x||x.phase==1||x.phase==2
def unlB (x:Pr):Bool:=x.phase==10||x.phase==11||x.phase==12||x.phase==13
def holdL (x:Pr):List Int:=if idleB x then [] else [x.pred]++(if x.phase !=3 then [x.succ] else [])++(if unlB x && x.next !=0 then [x.next] else [])
def unlB_eq (x:Pr):unlB x=decide (10<=x.phase/\x.phase<=13):=by
 rw[qY];simp only[unlB,qt,qD,qm];omega
def holdL_has (x:Pr)(i:Int):hasB (holdL x) i=hol x i:=by
 rw[qY,hasB_iff,holdL,hol,<-unlB_eq]
 show i∈_↔(!idleB x && _)=true
 cases idleB x with
 |true=>simp
 |false=>
  cases h3:x.phase !=3<;>cases hu:unlB x<;>cases hn:x.next !=0<;>simp
  all_goals(try exact or_assoc.symm)
def holdL_len (x:Pr):(holdL x).length<=3:=by
 unfold holdL;repeat' split
 all_goals simp
def app1 (a b:Int):app (ints [a]) 1 (ints [b])=ints [a,b]:=z2d [a] [b]
def app2 (a b c:Int):app (ints [a,b]) 2 (ints [c])=ints [a,b,c]:=z2d [a,b] [c]
def LlRm.exE:=aj9 @zd @zf @zo @zh ec1 ec2 @zg @zp (aj9 @zq ec3 ec4 @clCap.eq_1 @z4d.eq_1 ec5 ec6 @z1a.eq_1 (aj5 @zu.eq_1 @z18 @z2d @app1 @app2))
def LlRm.axE:=aj9 @zd @zf @zo @zh ec1 ec2 @zg @zp (aj9 @zq ec3 ec4 @clCap.eq_1 @z4d.eq_1 ec5 ec6 @z1a.eq_1 (aj8 @zu.eq_1 @z18 @z2d @app1 @app2 @z2j @z2r @z1p))
open LlBm (gxE oxE)
open LlRm (axE exE)
open D0 (sdE)
def holds_spec (x:Pr):zj prog 153 [.agg x.sv] ⟨0,[]⟩ (fun s H1=>s= .slc true 0 0 0 (holdL x).length/\H1=⟨1,[(0,zu (holdL x))]⟩):=by
 refine Zf false 66 [.tmp 2] func153 ntmps153 results153 fun w0 own0 β0 Q hQ hQn=> ?_;refine Zrs [1] ?_;refine Zrs [1,3] (z6 ?_);refine sg [1,3,22] rfl ?_;intro K hK
 have hk2:∀B:Bool,B=idleB x->K [(1,.ptr 0 0 0 0),(3,.nils),(22,.bool B)] ⟨1,[(0,rV 110 7 1 (fun _=>x.sv))]⟩:=by
  intro B hB;subst hB;refine hK _ _ ?_;clear hK K;refine Zcm ?_ ?_
  ·intro h22;refine Zrs [2] (z2f 2 3 1 (ints []) rfl ?_);dsimp only;refine zb (hQ _ _ ?_);rw[holdL,qe h22];refine Zor (fun q=>if q=0 then 1 else q) (.slc true 0 0 0 ([]:List Int).length) (⟨1,[(0,zu [])]⟩) ?_
   all_goals(first|trivial|exact⟨rfl,trivial⟩|exact⟨rfl,rfl⟩)
  intro h22;refine z7 (z6 (z2f 3 3 1 (ints []) rfl ?_));dsimp only;refine Zrg [1,3] (z6 ?_);refine Zrs [1,3,30] ?_;refine Zcm ?_ ?_
  ·intro h30;refine Zrg [1,3] ?_;refine Zrs [1,3,4] (z6 ?_);refine Zrs [1,3,59] ?_;refine Zcm ?_ ?_
   ·intro h59;have hn:(unlB x && x.next !=0)=true:=h59;refine Zrg [3] ?_;refine Zrs [2] (zb (hQ _ _ ?_));rw[holdL,qc (by rw[h22];exact qh),qe h30,qe hn];refine Zor (fun q=>if q=0 then 7 else q) (.slc true 0 0 0 ([x.pred]++[x.succ]++[x.next]).length) (⟨1,[(0,zu ([x.pred]++[x.succ]++[x.next]))]⟩) ?_
    all_goals(first|trivial|exact⟨rfl,trivial⟩|exact⟨rfl,rfl⟩)
   intro h59;have hn:(unlB x && x.next !=0)=false:=h59;refine z7 (Zrs [2] (zb (hQ _ _ ?_)));rw[holdL,qc (by rw[h22];exact qh),qe h30,qc (by rw[hn];exact qh)];refine Zor (fun q=>if q=0 then 5 else q) (.slc true 0 0 0 ([x.pred]++[x.succ]++[]).length) (⟨1,[(0,zu ([x.pred]++[x.succ]++[]))]⟩) ?_
   all_goals(first|trivial|exact⟨rfl,trivial⟩|exact⟨rfl,rfl⟩)
  intro h30;refine z7 (Zrs [1,3,4] (z6 ?_));refine Zrs [1,3,59] ?_;refine Zcm ?_ ?_
  ·intro h59;have hn:(unlB x && x.next !=0)=true:=h59;refine Zrg [3] ?_;refine Zrs [2] (zb (hQ _ _ ?_))
   exfalso
   simp only[qt,qj,qk,qC,qn,qr,qm,qg,qD,qH,Qi,ne_eq,QB,QA,qO,qF] at h30 h59;omega
  intro h59;have hn:(unlB x && x.next !=0)=false:=h59;refine z7 (Zrs [2] (zb (hQ _ _ ?_)));rw[holdL,qc (by rw[h22];exact qh),qc (by rw[h30];exact qh),qc (by rw[hn];exact qh)];refine Zor (fun q=>if q=0 then 3 else q) (.slc true 0 0 0 ([x.pred]++[]++[]).length) (⟨1,[(0,zu ([x.pred]++[]++[]))]⟩) ?_
  all_goals(first|trivial|exact⟨rfl,trivial⟩|exact⟨rfl,rfl⟩)
 iterate 5 (refine Zo Zl ?_)
 refine z13 ?_;refine z1b rfl rfl ?_;refine Zgr ?_
 first|refine z15 ?_ ?_|refine(fun(h1:false=true->_) (h2:false=false->_)=>qi h1 fun _=>h2 rfl) ?_ ?_|refine qi ?_ ?_
 ·intro hg5
  first
   |(simp at hg5;done)
   |skip
    try replace hg5:=Znb hg5
    refine Zo id ?_;refine Zc1 (active_spec x) (id) ?_;refine Zo Zl ?_
    try with_reducible refine qi (by clear hk2;simp_all;done) ?_
    refine Zad ?_;refine Zo Zl ?_
    try with_reducible refine qi (by clear hk2;simp_all;done) ?_
    refine Zad ?_;iterate 10 (refine Zo Zl ?_)
    refine zr ?_;refine Zpr ?_;refine hk2 _ ?_;clear hk2
    first|(simp_all[idleB];done)|(simp_all[idleB];rfl)
 intro hg5;refine⟨.bool false,?_⟩
 first
  |(simp at hg5;done)
  |skip
   try replace hg5:=Znb hg5
   refine Zo Zl ?_
   try with_reducible refine qi (by clear hk2;simp_all;done) ?_
   refine Zad ?_;refine Zo Zl ?_
   try with_reducible refine qi (by clear hk2;simp_all;done) ?_
   refine Zad ?_;iterate 10 (refine Zo Zl ?_)
   refine zr ?_;refine Zpr ?_;refine hk2 _ ?_;clear hk2
   first|(simp_all[idleB];done)|(simp_all[idleB];rfl)
def lkBad (cs:List Cl)(ps:List Pr)(i q:Nat):Bool:=(lkK cs i==(q:Int)+1) !=hol (pr ps q) i
def locks_spec (cs:List Cl)(ps:List Pr)(n m:Nat)(hn:cs.length=n)(hm:ps.length=m)(hx:n<=1000)(hy:m<=8):
  zj prog 114 [.agg [.slc false 0 0 0 n,.slc false 1 0 0 m]] ⟨2,[(0,z4l cs),(1,z5b ps)]⟩ (fun s H1=>s= .bool (locksB cs ps)/\H1=⟨2,[]⟩):=by
 subst hn hm;refine Zf false 35 [.tmp 2] func114 ntmps114 results114 fun w0 own0 β0 Q hQ hQn=> ?_;refine Zrs [1] (z6 ?_);refine Zrs [1,8,9,10] ?_;refine z8 fun Q0 hN0 hX0 hR0 hE0=> ?_;refine zl (σ:=Nat) (fun i=>i<=cs.length/\∀i',i'<i->z2a ps.length (fun q=>lkBad cs ps i' q)=false) (fun i=>cs.length-i) (fun i=>[(1,.ptr 2 0 0 0),(8,.slc false 0 0 0 cs.length),(9,.int .i64 cs.length),(10,.int .i64 i)]) (fun _=>⟨3,[(2,z43 0 cs.length 1 ps.length),(0,z4l cs),(1,z5b ps)]⟩) 0 ⟨ql _,fun q h=>by omega⟩ (ρ:=id) (Zg id) ?_;rintro i hi QL1 hL1 hRL1 hEL1;refine Zrs [1,8,9,10,11] (z6 ?_);refine Zcn ?_ ?_
 ·intro h11;obtain⟨hi1,hi2⟩:=hi;have hil:i<cs.length:=by omega
  refine z7 (z6 ?_);refine z8 fun Q1 hN1 hX1 hR1 hE1=> ?_;refine Zrs [1,3,4,8,9,10] ?_;refine Zrs [1,3,4,8,9,10,16,17,18] ?_;refine z8 fun Q2 hN2 hX2 hR2 hE2=> ?_;refine zl (σ:=Nat) (fun q=>q<=ps.length/\∀q',q'<q->lkBad cs ps i q'=false) (fun q=>ps.length-q) (fun q=>[(1,.ptr 2 0 0 0),(3,.int .i64 i),(4,.ptr 3 0 0 0),(8,.slc false 0 0 0 cs.length),(9,.int .i64 cs.length),(10,.int .i64 i),(16,.slc false 1 0 0 ps.length),(17,.int .i64 ps.length),(18,.int .i64 q)]) (fun _=>⟨4,[(3,rV 117 5 1 (fun _=>(cl cs i).sv)),(2,z43 0 cs.length 1 ps.length),(0,z4l cs),(1,z5b ps)]⟩) 0 ⟨ql _,fun q h=>by omega⟩ (ρ:=id) (Zg id) ?_;rintro q hq QL2 hL2 hRL2 hEL2;refine Zrs [1,3,4,8,9,10,16,17,18,19] (z6 ?_);refine Zcn ?_ ?_
  ·intro h19;obtain⟨hq1,hq2⟩:=hq;have hql:q<ps.length:=by omega
   have hhl:=holdL_len (pr ps q);refine z7 (z6 ?_);refine z8 fun Q3 hN3 hX3 hR3 hE3=> ?_;refine Zrs [1,3,4,5,6,8,9,10,16,17,18] (z6 ?_);refine Zrd [1,3,4,8,9,10,16,17,18,32] [0,1,2,3,4,5,7,6,8,9] [] [] ?_;intro K hK;iterate 7 (refine Zo (Zi [] []) ?_)
   refine Zd (Zi [] []) (holds_spec (pr ps q)) (id) ?_;refine Zd (Zi [] []) (contains2_spec (holdL (pr ps q)) (i:Int) (holdL (pr ps q)).length rfl (by omega)) (fun _=>5) ?_;refine Zki hK ?_;clear hK K;refine Zcm ?_ ?_
   ·intro h32;have hb:lkBad cs ps i q=true:=by rw[lkBad,<-holdL_has];exact h32
    refine Zrs [2] (zb (hR3 _ _ (hRL2 _ _ (hR2 _ _ (hR1 _ _ (hRL1 _ _ (hR0 _ _ (hQ _ _ ?_))))))));refine Zob ⟨2,[]⟩ ?_;rw[locksB,z1r (p:=fun i=>z2a ps.length fun q=>(lkK cs i==(q:Int)+1) !=hol (pr ps q) i) hil (z1r hql hb)]
    first|trivial|exact⟨rfl,trivial⟩
   intro h32;have hb:lkBad cs ps i q=false:=by rw[lkBad,<-holdL_has];exact h32
   refine z7 (za (hN3 _ _ (Zrg [1,3,4,8,9,10,16,17,18] (za (hL2 _ _ ?_)))));rw[iS q];refine⟨q+1,⟨⟨by omega,fun q' hq'=> ?_⟩,by omega⟩,id,(Zg id)⟩
   by_cases e:q'=q
   ·subst e;exact hb
   exact hq2 q' (by omega)
  intro h19;obtain⟨hq1,hq2⟩:=hq;refine zk (hEL2 _ _ _ (hX2 _ _ (za (hN1 _ _ (Zrg [1,8,9,10] (za (hL1 _ _ ?_)))))));rw[iS i];refine⟨i+1,⟨⟨by omega,fun i' hi'=> ?_⟩,by omega⟩,id,(Zg id)⟩
  by_cases e:i'=i
  ·subst e;exact z1l fun q' hq'=>hq2 q' (by omega)
  exact hi2 i' (by omega)
 intro h11;obtain⟨hi1,hi2⟩:=hi;refine zk (hEL1 _ _ _ (hX0 _ _ (Zrs [2] (zb (hQ _ _ ?_)))));refine Zob ⟨2,[]⟩ ?_;rw[locksB,z1l (p:=fun i=>z2a ps.length fun q=>(lkK cs i==(q:Int)+1) !=hol (pr ps q) i) fun i' hi'=>hi2 i' (by omega)]
 first|trivial|exact⟨rfl,trivial⟩
end
section
def chkL_some {cs:List Cl}{ps:List Pr}{path:List Int}(hv:z1y cs ps=true)(h0:gn cs 0=false)(h1:gn cs 1=false)(hl:locksB cs ps=true)(hc:z4o cs 0=some path):
  chkL cs ps=(!z2a cs.length (fun i=>z5i cs ps path i) && (!freeB cs|| !z2a (path.length-1) (fun i=>z3x cs path i))):=by
 rw[chkL,hv,h0,h1,hc];simp only[hl,j6,qL]
def chkL_head {cs:List Cl}{ps:List Pr}(h:(!(z4o cs 0).isSome|| !locksB cs ps||gn cs 0||gn cs 1)=true):chkL cs ps=false:=by
 simp only[qt] at h;rw[chkL];rcases h with((h|h)|h)|h
 ·cases hc:z4o cs 0 with
  |none=>simp
  |some p=>rw[hc] at h;cases h
 ·have hl:locksB cs ps=false:=by simpa using h
  cases z4o cs 0 with
  |none=>simp
  |some p=>simp[hl]
 ·rw[h];simp
 rw[h];simp
def chkL_no {cs:List Cl}{ps:List Pr}(hv:z1y cs ps=false):chkL cs ps=false:=by rw[chkL,hv];rfl
def chainF_rng {cs:List Cl}(h:Rts cs):∀{k:Nat} {a:Int} {l:List Int},(0<=a/\a<cs.length)->z5p cs k a=some l->∀x∈l,0<=x/\x<cs.length
 |0,_,_,_,e,_,_=>by cases e
 |k+1,a,l,ha,e,x,hx=>by
  rw[z5p] at e
  split at e
  ·cases e
   have:x=a:=by simpa using hx
   rw[this];exact ha
  split at e
  ·cases hc:z5p cs k (cl cs a.toNat).right with
   |none=>rw[hc] at e;cases e
   |some m=>
    rw[hc] at e
    cases e
    rcases qv.1 hx with g|g
    ·rw[g];exact ha
    exact chainF_rng h (h.rt a.toNat (by omega)) hc x g
  cases e
def freeN (cs:List Cl)(i:Nat):Bool:= !z2a i fun j=>lkK cs j !=0
def freeN_zero (cs:List Cl):freeN cs 0=true:=rfl
def freeN_succ (cs:List Cl)(i:Nat):freeN cs (i+1)=(freeN cs i && (cl cs i).lock==0):=by
 have:lkK cs (i:Int)=(cl cs i).lock:=rfl;simp only[freeN,z2a,Jp,List.any_append,List.any_cons,List.any_nil,jl,Bool.not_or,this,bne,jF]
open LlBm (gxE oxE exE)
open LlCm (axE)
open D0 (sdE)
def check_specL (cs:List Cl)(ps:List Pr)(n m:Nat)(hn:cs.length=n)(hm:ps.length=m)(hx:n<=9223372036854775807)(hy:m<=9223372036854775807):
  zj prog 75 [.agg [.slc false 0 0 0 n,.slc false 1 0 0 m]] ⟨2,[(0,z4l cs),(1,z5b ps)]⟩ (fun s H1=>s= .bool (chkL cs ps)/\H1=⟨2,[]⟩):=by
 subst hn hm;refine Zf false 108 [.tmp 2] func75 ntmps75 results75 fun w0 own0 β0 Q hQ hQn=> ?_;refine Zrs [1] (z6 ?_);refine sg [1,13] rfl ?_;intro K hK;refine Zo Zl ?_;refine Zd Zl (valid_specK cs ps cs.length ps.length rfl rfl hx hy) (id) ?_;refine Zkl hK ?_;clear hK K;refine Zcm ?_ ?_
 ·intro h13;have hv:z1y cs ps=false:=by simpa using h13
  refine Zrs [2] (zb (hQ _ _ ?_));rw[chkL_no hv];refine Zob ⟨2,[]⟩ ?_
  all_goals(first|trivial|exact⟨rfl,trivial⟩|exact⟨rfl,rfl⟩)
 intro h13;have hv:z1y cs ps=true:=by simpa using h13
 have hV:=z4g hv;have hR:=hV.rts;obtain⟨hV1,hV2,hV3,hV4,hV5,hV6,hV7,hV8⟩:=hV;refine z7 (sg [1,3,4] rfl ?_);intro K hK;refine Zo Zl ?_;refine Zo Zl ?_;refine Zca (chain_spec cs ps cs.length ps.length rfl rfl hR) (id) ?_;rintro s0 H0 ⟨out,ho1,ho2,rfl,rfl⟩ s1 H1 hs1 hH1;obtain⟨hs2,hH2⟩:=Zaf hs1 hH1;clear hs1 hH1;subst hs2 hH2;refine Zad ?_;refine Zkl hK ?_;clear hK K;refine z6 (sg [1,3,39] rfl ?_);intro K hK
 have hk4:∀B:Bool,B=(!(z4o cs 0).isSome|| !locksB cs ps||gn cs 0||gn cs 1)->K [(1,.ptr 2 0 0 0),(3,.slc true 3 0 0 out.length),(39,.bool B)] ⟨4,[(3,zu out),(2,z43 0 cs.length 1 ps.length),(0,z4l cs),(1,z5b ps)]⟩:=by
  intro B hB;subst hB;refine hK _ _ ?_;clear hK K;refine Zcm ?_ ?_
  ·intro h39;refine Zrs [2] (zb (hQ _ _ ?_));rw[chkL_head h39];refine Zob ⟨2,[]⟩ ?_
   all_goals(first|trivial|exact⟨rfl,trivial⟩|exact⟨rfl,rfl⟩)
  intro h39;obtain⟨⟨⟨g1,gl⟩,g2⟩,g3⟩:((((!(z4o cs 0).isSome)=false/\(!locksB cs ps)=false)/\gn cs 0=false)/\gn cs 1=false):=by simpa only[qk] using h39
  obtain⟨path,hpath⟩:∃path,z4o cs 0=some path:=by
   cases hc:z4o cs 0 with
   |none=>rw[hc] at g1;cases g1
   |some p=>exact⟨p,rfl⟩
  have hop:=ho1 path hpath;subst hop;have hck:=chkL_some hv g2 g3 (by simpa using gl) hpath;have hrng:=chainF_rng hR (by omega:(0:Int)<=0/\(0:Int)<cs.length) hpath;clear ho1 hV5 hV6 hV7 hV8;refine z7 (Zrs [1,3,5] (z6 ?_));refine Zrs [1,3,5,41,42,43] ?_;refine z8 fun Q0 hN0 hX0 hR0 hE0=> ?_;refine zl (σ:=Nat) (fun i=>i<=cs.length/\∀q,q<i->z5i cs ps out q=false) (fun i=>cs.length-i) (fun i=>[(1,.ptr 2 0 0 0),(3,.slc true 3 0 0 out.length),(5,.bool (freeN cs i)),(41,.slc false 0 0 0 cs.length),(42,.int .i64 cs.length),(43,.int .i64 i)]) (fun _=>⟨4,[(3,zu out),(2,z43 0 cs.length 1 ps.length),(0,z4l cs),(1,z5b ps)]⟩) 0 ⟨ql _,fun q h=>by omega⟩ (ρ:=id) (have xE:=@freeN_zero;Zgx id) ?_;rintro i hi QL1 hL1 hRL1 hEL1;refine Zrs [1,3,5,41,42,43,44] (z6 ?_);refine Zcn ?_ ?_
  ·intro h44;obtain⟨hi1,hi2⟩:=hi;have hil:i<cs.length:=by omega
   refine z7 (z6 ?_);refine z8 fun Q1 hN1 hX1 hR1 hE1=> ?_;refine Zrs [1,3,5,6,7,41,42,43] ?_;refine sg [1,3,5,6,7,41,42,43] rfl ?_;intro K hK
   have hk10:∀B:Bool,B=freeN cs (i+1)->K [(1,.ptr 2 0 0 0),(3,.slc true 3 0 0 out.length),(5,.bool B),(6,.ptr 4 0 0 0),(7,.ptr 5 0 0 0),(41,.slc false 0 0 0 cs.length),(42,.int .i64 cs.length),(43,.int .i64 i)] ⟨6,[(5,rV 117 5 1 (fun _=>(cl cs i).sv)),(4,rV 3 1 1 (fun _=>[.int .i64 i])),(3,zu out),(2,z43 0 cs.length 1 ps.length),(0,z4l cs),(1,z5b ps)]⟩:=by
    intro B hB;subst hB;refine hK _ _ ?_;clear hK K;refine sg [1,3,5,6,7,8,41,42,43] rfl ?_;intro K hK;iterate 2 (refine Zo Zl ?_)
    refine Zd Zl (contains2_spec out i out.length rfl (by omega)) (fun _=>3) ?_;refine Zkl hK ?_;clear hK K;refine sg [1,3,5,6,7,8,9,41,42,43] rfl ?_;intro K hK;iterate 3 (refine Zo Zl ?_)
    refine Zd Zl (prContains_spec i ps ps.length 0 ps.length rfl (by omega) (by omega)) (fun q=>if q=0 then 1 else 4) ?_;simp only[QE];rw[show(z2a ps.length fun j=>insP (i:Int) (pr ps j))=leavB ps i from rfl];refine Zkl hK ?_;clear hK K;refine sg [1,3,5,41,42,43,82] rfl ?_;intro K hK
    have hk13:∀B:Bool,B=z5i cs ps out i->K [(1,.ptr 2 0 0 0),(3,.slc true 3 0 0 out.length),(5,.bool (freeN cs (i+1))),(41,.slc false 0 0 0 cs.length),(42,.int .i64 cs.length),(43,.int .i64 i),(82,.bool B)] ⟨6,[(5,rV 117 5 1 (fun _=>(cl cs i).sv)),(4,rV 3 1 1 (fun _=>[.int .i64 i])),(3,zu out),(2,z43 0 cs.length 1 ps.length),(0,z4l cs),(1,z5b ps)]⟩:=by
     intro B hB;subst hB;refine hK _ _ ?_;clear hK K;refine Zcm ?_ ?_
     ·intro h82;refine Zrs [2] (zb (hR1 _ _ (hRL1 _ _ (hR0 _ _ (hQ _ _ ?_)))));rw[hck,z1r (p:=fun i=>z5i cs ps out i) hil h82,qS,Qm];refine Zob ⟨2,[]⟩ ?_
      all_goals(first|trivial|exact⟨rfl,trivial⟩|exact⟨rfl,rfl⟩)
     intro h82;refine z7 (za (hN1 _ _ (Zrg [1,3,5,41,42,43] (za (hL1 _ _ ?_)))));rw[iS i];refine⟨i+1,⟨⟨by omega,fun q hq=> ?_⟩,by omega⟩,id,(Zg id)⟩
     by_cases e:q=i
     ·subst e;exact h82
     exact hi2 q (by omega)
    iterate 22 (refine Zo Zl ?_)
    refine zr ?_;refine Zpr ?_;refine hk13 _ ?_;rw[z5i,show gn cs (i:Int)=(cl cs i).gone from rfl]
   iterate 7 (refine Zo Zl ?_)
   refine zr ?_;refine Zpr ?_;refine hk10 _ ?_;rw[freeN_succ]
  intro h44;obtain⟨hi1,hi2⟩:=hi;have hin:i=cs.length:=by omega
  subst hin;have hall:z2a cs.length (fun i=>z5i cs ps out i)=false:=z1l fun q hq=>hi2 q (by omega);rw[hall] at hck;refine zk (hEL1 _ _ _ (hX0 _ _ (z6 (Zrs [1,3,5,10] ?_))));refine z8 fun Q2 hN2 hX2 hR2 hE2=> ?_;refine zl (σ:=Nat) (fun j=>1<=j/\(j<=out.length\/j=1)/\∀q,q+1<j->z3x cs out q=false) (fun j=>out.length-j) (fun j=>[(1,.ptr 2 0 0 0),(3,.slc true 3 0 0 out.length),(5,.bool (freeN cs cs.length)),(10,.int .i64 j)]) (fun _=>⟨4,[(3,zu out),(2,z43 0 cs.length 1 ps.length),(0,z4l cs),(1,z5b ps)]⟩) 1 ⟨qd _,.inr rfl,fun q h=>by omega⟩ (ρ:=id) (Zg id) ?_;rintro j hj QL2 hL2 hRL2 hEL2;refine z6 (sg [1,3,5,10,90] rfl ?_);intro K hK
  have hk17:(1<=j/\(j<=out.length\/j=1)/\∀q,q+1<j->z3x cs out q=false)->∀B:Bool,B=(decide (j<out.length) && freeN cs cs.length)->K [(1,.ptr 2 0 0 0),(3,.slc true 3 0 0 out.length),(5,.bool (freeN cs cs.length)),(10,.int .i64 j),(90,.bool B)] ⟨4,[(3,zu out),(2,z43 0 cs.length 1 ps.length),(0,z4l cs),(1,z5b ps)]⟩:=by
   intro hj B hB;subst hB;refine hK _ _ ?_;clear hK K;refine Zcm ?_ ?_
   ·intro h90;obtain⟨hj1,hj2,hj3⟩:=hj;obtain⟨hjl,hfr⟩:j<out.length/\freeN cs cs.length=true:=by simpa using h90
    have hr1:=hrng _ (nth_mem' hjl);have hr2:=hrng _ (nth_mem' (show j-1<out.length by omega));refine z7 (z6 ?_);refine z8 fun Q3 hN3 hX3 hR3 hE3=> ?_;refine z6 ?_;refine Zrd [1,3,5,10,107] [0,1,2,3,4,5,6,7,8,9,10,11,12,13,14] [] [] ?_;intro K hK;iterate 13 (refine Zo (Zi [] []) ?_)
    rw[show(j:Int)-1=((j-1:Nat):Int) from by omega];refine Zad ?_;refine Zki hK ?_;clear hK K;refine Zcm ?_ ?_
    ·intro h107
     have hb:z3x cs out (j-1)=true:=by
      rw[z3x,show j-1+1=j by omega];exact h107
     refine Zrs [2] (zb (hR3 _ _ (hRL2 _ _ (hR2 _ _ (hQ _ _ ?_)))));have hf:freeB cs=true:=hfr;rw[hck,z1r (p:=fun i=>z3x cs out i) (i:=j-1) (by omega) hb,hf];refine Zob ⟨2,[]⟩ ?_
     all_goals(first|trivial|exact⟨rfl,trivial⟩|exact⟨rfl,rfl⟩)
    intro h107
    have hb:z3x cs out (j-1)=false:=by
     rw[z3x,show j-1+1=j by omega];exact h107
    refine z7 (za (hN3 _ _ (Zrg [1,3,5,10] (za (hL2 _ _ ?_)))));rw[iS j];refine⟨j+1,⟨⟨by omega,.inl (by omega),fun q hq=> ?_⟩,by omega⟩,id,(Zg id)⟩
    by_cases e:q=j-1
    ·subst e;exact hb
    exact hj3 q (by omega)
   intro h90;obtain⟨hj1,hj2,hj3⟩:=hj;refine zk (hEL2 _ _ _ (hX2 _ _ (Zrs [2] (zb (hQ _ _ ?_)))))
   have hend:(!freeB cs|| !z2a (out.length-1) (fun i=>z3x cs out i))=true:=by
    have hfe:freeB cs=freeN cs cs.length:=rfl;rw[hfe]
    cases hfr:freeN cs cs.length with
    |false=>rfl
    |true=>
     rw[hfr,Jh,qg] at h90;rw[z1l fun q hq=>hj3 q (by omega)];rfl
   rw[hck,hend];refine Zob ⟨2,[]⟩ ?_
   all_goals(first|trivial|exact⟨rfl,trivial⟩|exact⟨rfl,rfl⟩)
  iterate 7 (refine Zo Zl ?_)
  refine zr ?_;refine Zpr ?_;refine hk17 hj _ ?_
  first|(simp;done)|rfl|(congr 1;simp;done)
 iterate 4 (refine Zo Zl ?_)
 refine z13 ?_;refine z1b rfl rfl ?_;refine Zgr ?_
 first|refine z15 ?_ ?_|refine(fun(h1:false=true->_) (h2:false=false->_)=>qi h1 fun _=>h2 rfl) ?_ ?_|refine qi ?_ ?_
 ·intro hg4
  first
   |(simp at hg4;done)
   |skip
    try replace hg4:=Znb hg4
    refine Zo id ?_;refine Zc1 (locks_spec cs ps cs.length ps.length rfl rfl (by omega) (by omega)) (id) ?_;refine Zo Zl ?_
    try with_reducible refine qi (by clear hk4 ho1 hV5 hV6 hV7 hV8;simp_all;done) ?_
    refine Zad ?_;refine Zo Zl ?_
    try with_reducible refine qi (by clear hk4 ho1 hV5 hV6 hV7 hV8;simp_all;done) ?_
    refine Zad ?_;iterate 14 (refine Zo Zl ?_)
    refine zr ?_;refine Zpr ?_;refine hk4 _ ?_;clear hk4 ho1 hV5 hV6 hV7 hV8
    first|(simp_all[gn];done)|(simp_all[gn];rfl)
 intro hg4;refine⟨.bool false,?_⟩
 first
  |(simp at hg4;done)
  |skip
   try replace hg4:=Znb hg4
   refine Zo Zl ?_
   try with_reducible refine qi (by clear hk4 ho1 hV5 hV6 hV7 hV8;simp_all;done) ?_
   refine Zad ?_;refine Zo Zl ?_
   try with_reducible refine qi (by clear hk4 ho1 hV5 hV6 hV7 hV8;simp_all;done) ?_
   refine Zad ?_;iterate 14 (refine Zo Zl ?_)
   refine zr ?_;refine Zpr ?_;refine hk4 _ ?_;clear hk4 ho1 hV5 hV6 hV7 hV8
   first|(simp_all[gn];done)|(simp_all[gn];rfl)
end
section
open LlBm (gxE oxE exE)
open LlCm (axE)
open D0 (sdE)
def refHolds_spec (x:Pr)(i:Int):zj prog 152 [.agg x.sv,.int .i64 i] ⟨0,[]⟩ (fun s H1=>s= .bool (hol x i)/\H1=⟨0,[]⟩):=by
 refine Zf false 61 [.tmp 4] func152 ntmps152 results152 fun w0 own0 β0 Q hQ hQn=> ?_;refine Zrs [1,2] (z6 ?_);refine sg [1,2,23] rfl ?_;intro K hK
 have hk1:∀B:Bool,B=idleB x->K [(1,.int .i64 i),(2,.ptr 0 0 0 0),(23,.bool B)] ⟨1,[(0,rV 110 7 1 (fun _=>x.sv))]⟩:=by
  intro B hB;subst hB;refine hK _ _ ?_;clear hK K;refine Zcm ?_ ?_
  ·intro h23;refine Zrs [4] (zb (hQ _ _ ?_));rw[show hol x i=false from(show(!idleB x && _)=false by rw[h23];rfl)];exact Zoc ⟨0,[]⟩
  intro h23;refine z7 (Zrs [1,2,5] ?_);refine sg [4] rfl ?_;intro K hK
  have hk4:∀B:Bool,B=hol x i->K [(4,.bool B)] ⟨1,[(0,rV 110 7 1 (fun _=>x.sv))]⟩:=by
   intro B hB;subst hB;refine hK _ _ ?_;clear hK K;refine zb (hQ _ _ ?_);exact Zoc ⟨0,[]⟩
  iterate 30 (refine Zo Zl ?_)
  refine zr ?_;refine Zpr ?_;refine hk4 _ ?_;clear hk4;rw[show hol x i=_ from(show(!idleB x && (i==x.pred||(i==x.succ && x.phase !=3)||(i==x.next && x.next !=0 && decide (10<=x.phase/\x.phase<=13))))=(i==x.pred||(i==x.succ && x.phase !=3)||(i==x.next && x.next !=0 && decide (10<=x.phase/\x.phase<=13))) by rw[h23];rfl)];rw[show decide (10<=x.phase/\x.phase<=13)=(decide (10<=x.phase) && decide (x.phase<=13)) by simp]
 iterate 15 (refine Zo Zl ?_)
 refine z13 ?_;refine z1b rfl rfl ?_;refine Zgr ?_
 first|refine z15 ?_ ?_|refine(fun(h1:false=true->_) (h2:false=false->_)=>qi h1 fun _=>h2 rfl) ?_ ?_|refine qi ?_ ?_
 ·intro hg15
  first
   |(simp at hg15;done)
   |skip
    try replace hg15:=Znb hg15
    refine Zo id ?_;refine Zc1 (refActive_spec x) (id) ?_;refine Zo Zl ?_
    try with_reducible refine qi (by clear hk1;simp_all;done) ?_
    refine Zad ?_;refine Zo Zl ?_
    try with_reducible refine qi (by clear hk1;simp_all;done) ?_
    refine Zad ?_;refine zr ?_;refine Zpr ?_;refine hk1 _ ?_;clear hk1
    first|(unfold idleB;cases x.kind==3<;>cases x.phase==1<;>cases x.phase==2<;>cases z42 x<;>rfl)|(unfold idleB;rcases hg15 with(h|h)|h<;>simp[h])
 intro hg15;refine⟨.bool false,?_⟩
 first
  |(simp at hg15;done)
  |skip
   try replace hg15:=Znb hg15
   refine Zo Zl ?_
   try with_reducible refine qi (by clear hk1;simp_all;done) ?_
   refine Zad ?_;refine Zo Zl ?_
   try with_reducible refine qi (by clear hk1;simp_all;done) ?_
   refine Zad ?_;refine zr ?_;refine Zpr ?_;refine hk1 _ ?_;clear hk1
   first|(unfold idleB;cases x.kind==3<;>cases x.phase==1<;>cases x.phase==2<;>cases z42 x<;>rfl)|(unfold idleB;rcases hg15 with(h|h)|h<;>simp[h])
def unlinking_spec (cs:List Cl)(ps:List Pr)(n m:Nat)(hn:cs.length=n)(hm:ps.length=m)(hy:m<=8)(i:Int):
  zj prog 151 [.agg [.slc false 0 0 0 n,.slc false 1 0 0 m],.int .i64 i] ⟨2,[(0,z4l cs),(1,z5b ps)]⟩ (fun s H1=>s= .bool (leavB ps i)/\H1=⟨2,[]⟩):=by
 subst hn hm;refine Zf false 30 [.tmp 4] func151 ntmps151 results151 fun w0 own0 β0 Q hQ hQn=> ?_;refine Zrs [1,2] (z6 ?_);refine Zrs [1,2,5] ?_;refine z8 fun Q0 hN0 hX0 hR0 hE0=> ?_;refine zl (σ:=Nat) (fun q=>q<=ps.length/\∀q',q'<q->((pr ps q').phase==11 && (pr ps q').cell==i)=false) (fun q=>ps.length-q) (fun q=>[(1,.int .i64 i),(2,.ptr 2 0 0 0),(5,.int .i64 q)]) (fun _=>⟨3,[(2,z43 0 cs.length 1 ps.length),(0,z4l cs),(1,z5b ps)]⟩) 0 ⟨ql _,fun q h=>by omega⟩ (ρ:=id) (Zg id) ?_;rintro q hq QL1 hL1 hRL1 hEL1;refine z6 (Zrs [1,2,5,10] ?_);refine Zcn ?_ ?_
 ·intro h10;obtain⟨hq1,hq2⟩:=hq;have hql:q<ps.length:=by omega
  refine z7 (z6 ?_);refine z8 fun Q1 hN1 hX1 hR1 hE1=> ?_;refine Zrs [1,2,5,29] ?_;refine Zcm ?_ ?_
  ·intro h29;refine Zrs [4] (zb (hR1 _ _ (hRL1 _ _ (hR0 _ _ (hQ _ _ ?_)))));rw[leavB,z1r (p:=fun q=>(pr ps q).phase==11 && (pr ps q).cell==i) hql h29];exact Zoc ⟨2,[]⟩
  intro h29;refine z7 (za (hN1 _ _ (Zrg [1,2,5] (za (hL1 _ _ ?_)))));rw[iS q];refine⟨q+1,⟨⟨by omega,fun q' hq'=> ?_⟩,by omega⟩,id,(Zg id)⟩
  by_cases e:q'=q
  ·subst e;exact h29
  exact hq2 q' (by omega)
 intro h10;obtain⟨hq1,hq2⟩:=hq;refine zk (hEL1 _ _ _ (hX0 _ _ (Zrs [4] (zb (hQ _ _ ?_)))));rw[leavB,z1l fun q' hq'=>hq2 q' (by omega)];exact Zoc ⟨2,[]⟩
def refHas_specK (xs:List Int)(v:Int)(n:Nat)(hn:xs.length=n)(hx:n<=1000000):
  zj prog 150 [.slc false 0 0 0 n,.int .i64 v] ⟨1,[(0,z1a xs)]⟩ (fun s H1=>s= .bool (hasB xs v)/\H1=⟨1,[]⟩):=by
 subst hn;refine Zf false 18 [.tmp 4] func150 ntmps150 results150 fun w0 own0 β0 Q hQ hQn=> ?_;refine Zrs [0,1] (z6 ?_);refine Zrs [0,1,5] ?_;refine z8 fun Q0 hN0 hX0 hR0 hE0=> ?_;refine zl (σ:=Nat) (fun i=>i<=xs.length/\∀q,q<i->(v==nth xs q)=false) (fun i=>xs.length-i) (fun i=>[(0,.slc false 0 0 0 xs.length),(1,.int .i64 v),(5,.int .i64 i)]) (fun _=>⟨1,[(0,z1a xs)]⟩) 0 ⟨ql _,fun q h=>by omega⟩ (ρ:=id) (Zg id) ?_;rintro i hi QL1 hL1 hRL1 hEL1;refine z6 (Zrs [0,1,5,9] ?_);refine Zcn ?_ ?_
 ·intro h9;obtain⟨hi1,hi2⟩:=hi;have hil:i<xs.length:=by omega
  refine z7 (z6 ?_);refine z8 fun Q1 hN1 hX1 hR1 hE1=> ?_;refine Zrs [0,1,5,17] ?_;refine Zcm ?_ ?_
  ·intro h17;have hb:(v==nth xs i)=true:=by rw[Bool.beq_comm];exact h17
   refine Zrs [4] (zb (hR1 _ _ (hRL1 _ _ (hR0 _ _ (hQ _ _ ?_)))));rw[hasB,z1r (p:=fun i=>v==nth xs i) hil hb];exact Zoc ⟨1,[]⟩
  intro h17;have hb:(v==nth xs i)=false:=by rw[Bool.beq_comm];exact h17
  refine z7 (za (hN1 _ _ (Zrg [0,1,5] (za (hL1 _ _ ?_)))));rw[iS i];refine⟨i+1,⟨⟨by omega,fun q hq=> ?_⟩,by omega⟩,id,(Zg id)⟩
  by_cases e:q=i
  ·subst e;exact hb
  exact hi2 q (by omega)
 intro h9;obtain⟨hi1,hi2⟩:=hi;refine zk (hEL1 _ _ _ (hX0 _ _ (Zrs [4] (zb (hQ _ _ ?_)))));rw[hasB,z1l fun q hq=>hi2 q (by omega)];exact Zoc ⟨1,[]⟩
def cellBad_ref {cs:List Cl}{ps:List Pr}{path:List Int}(h0:gn cs 0=false)(h1:gn cs 1=false)(p0:hasB path 0=true)(p1:hasB path 1=true)(i:Nat):
  (!gn cs i && !hasB path i||gn cs i && hasB path i && !leavB ps i)=z5i cs ps path i:=by
 rw[z5i]
 by_cases hi:1<(i:Int)
 ·rw[qB hi,qL]
 rcases(show i=0\/i=1 by omega) with e|e
 ·subst e;rw[show((0:Nat):Int)=0 from rfl,h0,p0];rfl
 subst e;rw[show((1:Nat):Int)=1 from rfl,h1,p1];rfl
def chainF_ends {cs:List Cl}:∀{k:Nat} {a:Int} {l:List Int},z5p cs k a=some l->a∈l/\1∈l
 |0,_,_,e=>by cases e
 |k+1,a,l,e=>by
  rw[z5p] at e
  split at e
  ·rename_i ha
   cases e
   have:a=1:=by simpa using ha
   rw[this];simp
  split at e
  ·cases hc:z5p cs k (cl cs a.toNat).right with
   |none=>rw[hc] at e;cases e
   |some m=>
    rw[hc] at e
    cases e
    exact⟨qo ..,qp _ (chainF_ends hc).2⟩
  cases e
def chkL_val {cs:List Cl}{ps:List Pr}{path:List Int}(hv:z1y cs ps=true)(h0:gn cs 0=false)(h1:gn cs 1=false)(hc:z4o cs 0=some path):
  chkL cs ps=(locksB cs ps && !z2a cs.length (fun i=>z5i cs ps path i) && (!freeB cs|| !z2a (path.length-1) (fun i=>z3x cs path i))):=by
 rw[chkL,hv,h0,h1,hc];simp only[j6,qL]
def refCheck_specL (cs:List Cl)(ps:List Pr)(n m:Nat)(hn:cs.length=n)(hm:ps.length=m)(hx:n<=9223372036854775807)(hy:m<=9223372036854775807):
  zj prog 112 [.agg [.slc false 0 0 0 n,.slc false 1 0 0 m]] ⟨2,[(0,z4l cs),(1,z5b ps)]⟩ (fun s H1=>s= .bool (chkL cs ps)/\H1=⟨2,[]⟩):=by
 subst hn hm;refine Zf false 120 [.tmp 2] func112 ntmps112 results112 fun w0 own0 β0 Q hQ hQn=> ?_;refine Zrs [1] (z6 ?_);refine sg [1,27] rfl ?_;intro K hK;refine Zo Zl ?_;refine Zd Zl (refValid_spec cs ps cs.length ps.length rfl rfl hx hy) (id) ?_;iterate 5 (refine Zo Zl ?_)
 try with_reducible refine qi (by intro hq;have:=(z4g (by simpa using hq)).two;omega) ?_
 refine Zad ?_;iterate 2 (refine Zo Zl ?_)
 try with_reducible refine qi (by intro hq;have:=(z4g (by simpa using hq)).two;omega) ?_
 refine Zad ?_;iterate 5 (refine Zo Zl ?_)
 try with_reducible refine qi (by intro hq;have:=(z4g (show z1y cs ps=true by replace hq:=Znb hq;simpa using hq.1)).two;omega) ?_
 refine Zad ?_;iterate 2 (refine Zo Zl ?_)
 try with_reducible refine qi (by intro hq;have:=(z4g (show z1y cs ps=true by replace hq:=Znb hq;simpa using hq.1)).two;omega) ?_
 refine Zad ?_;refine Zkl hK ?_;clear hK K;refine Zcm ?_ ?_
 ·intro h27;refine Zrs [2] (zb (hQ _ _ ?_))
  have hck:chkL cs ps=false:=by
   rw[chkL];have h27':((!z1y cs ps||gn cs 0)||gn cs 1)=true:=h27;simp only[qt,qn] at h27';rcases h27' with(h|h)|h<;>rw[h]<;>simp
  rw[hck];refine Zob ⟨2,[]⟩ ?_
  all_goals(first|trivial|exact⟨rfl,trivial⟩|exact⟨rfl,rfl⟩)
 intro h27;obtain⟨⟨hv,g2'⟩,g3'⟩:((z1y cs ps=true/\(cl cs 0).gone=false)/\(cl cs 1).gone=false):=by simpa only[qk,qr] using h27
 have g2:gn cs 0=false:=g2';have g3:gn cs 1=false:=g3';have hV:=z4g hv;have hR:=hV.rts;obtain⟨hV1,hV2,hV3,hV4,hV5,hV6,hV7,hV8⟩:=hV;refine z7 (sg [1,3,4] rfl ?_);intro K hK;refine Zo Zl ?_;refine Zo Zl ?_;refine Zca (refChain_spec cs ps cs.length ps.length rfl rfl hR 0 (by omega)) (id) ?_;rintro s0 H0 ⟨out,ho1,ho2,rfl,rfl⟩ s1 H1 hs1 hH1;obtain⟨hs2,hH2⟩:=Zaf hs1 hH1;clear hs1 hH1;subst hs2 hH2;refine Zad ?_;refine Zkl hK ?_;clear hK K;refine z6 (Zrs [1,3,34] ?_);refine Zcm ?_ ?_
 ·intro h34
  have hno:z4o cs 0=none:=by
   cases hc:z4o cs 0 with
   |none=>rfl
   |some p=>rw[hc] at h34;cases h34
  refine Zrs [2] (zb (hQ _ _ ?_));have hck:chkL cs ps=false:=by rw[chkL,hno,Qq]
  rw[hck];refine Zob ⟨2,[]⟩ ?_
  all_goals(first|trivial|exact⟨rfl,trivial⟩|exact⟨rfl,rfl⟩)
 intro h34
 obtain⟨path,hpath⟩:∃path,z4o cs 0=some path:=by
  cases hc:z4o cs 0 with
  |none=>rw[hc] at h34;cases h34
  |some p=>exact⟨p,rfl⟩
 have hop:=ho1 path hpath;subst hop;have hck:=chkL_val hv g2 g3 hpath;have hrng:=chainF_rng hR (by omega:(0:Int)<=0/\(0:Int)<cs.length) hpath;have hcb:=cellBad_ref (ps:=ps) g2 g3 (hasB_iff.2 (chainF_ends hpath).1) (hasB_iff.2 (chainF_ends hpath).2);clear ho1 hV5 hV6 hV7 hV8;refine z7 (Zrs [1,3,5] (z6 ?_));refine Zrs [1,3,5,6] ?_;refine z8 fun Q0 hN0 hX0 hR0 hE0=> ?_;refine zl (σ:=Nat) (fun i=>i<=cs.length/\∀q,q<i->z5i cs ps out q=false/\z2a ps.length (fun p=>lkBad cs ps q p)=false) (fun i=>cs.length-i) (fun i=>[(1,.ptr 2 0 0 0),(3,.slc true 3 0 0 out.length),(5,.bool (freeN cs i)),(6,.int .i64 i)]) (fun _=>⟨4,[(3,zu out),(2,z43 0 cs.length 1 ps.length),(0,z4l cs),(1,z5b ps)]⟩) 0 ⟨ql _,fun q h=>by omega⟩ (ρ:=id) (have xE:=@freeN_zero;Zgx id) ?_;rintro i hi QL1 hL1 hRL1 hEL1;refine z6 (Zrs [1,3,5,6,39] ?_);refine Zcn ?_ ?_
 ·intro h39;obtain⟨hi1,hi2⟩:=hi;have hil:i<cs.length:=by omega
  refine z7 (z6 ?_);refine z8 fun Q1 hN1 hX1 hR1 hE1=> ?_;refine Zrs [1,3,5,6,7] (z6 ?_);refine sg [1,3,5,6,7,8] rfl ?_;intro K hK;iterate 2 (refine Zo Zl ?_)
  refine Zd Zl (refHas_specK out i out.length rfl (by omega)) (fun _=>3) ?_;refine Zkl hK ?_;clear hK K;refine sg [1,3,5,6,7,69] rfl ?_;intro K hK
  have hk12:∀B:Bool,B=z5i cs ps out i->K [(1,.ptr 2 0 0 0),(3,.slc true 3 0 0 out.length),(5,.bool (freeN cs i)),(6,.int .i64 i),(7,.ptr 4 0 0 0),(69,.bool B)] ⟨5,[(4,rV 117 5 1 (fun _=>(cl cs i).sv)),(3,zu out),(2,z43 0 cs.length 1 ps.length),(0,z4l cs),(1,z5b ps)]⟩:=by
   intro B hB;subst hB;refine hK _ _ ?_;clear hK K;refine Zcm ?_ ?_
   ·intro h69;refine Zrs [2] (zb (hR1 _ _ (hRL1 _ _ (hR0 _ _ (hQ _ _ ?_)))));rw[hck,z1r (p:=fun i=>z5i cs ps out i) hil h69,qS,Qq,Qm];refine Zob ⟨2,[]⟩ ?_
    all_goals(first|trivial|exact⟨rfl,trivial⟩|exact⟨rfl,rfl⟩)
   intro h69;refine z7 (z6 (Zrs [1,3,5,6,7,9] ?_));refine z8 fun Q2 hN2 hX2 hR2 hE2=> ?_;refine zl (σ:=Nat) (fun q=>q<=ps.length/\∀q',q'<q->lkBad cs ps i q'=false) (fun q=>ps.length-q) (fun q=>[(1,.ptr 2 0 0 0),(3,.slc true 3 0 0 out.length),(5,.bool (freeN cs i)),(6,.int .i64 i),(7,.ptr 4 0 0 0),(9,.int .i64 q)]) (fun _=>⟨5,[(4,rV 117 5 1 (fun _=>(cl cs i).sv)),(3,zu out),(2,z43 0 cs.length 1 ps.length),(0,z4l cs),(1,z5b ps)]⟩) 0 ⟨ql _,fun q h=>by omega⟩ (ρ:=id) (Zg id) ?_;rintro q hq QL2 hL2 hRL2 hEL2;refine z6 (Zrs [1,3,5,6,7,9,74] ?_);refine Zcn ?_ ?_
   ·intro h74;obtain⟨hq1,hq2⟩:=hq;have hql:q<ps.length:=by omega
    refine z7 (z6 ?_);refine z8 fun Q3 hN3 hX3 hR3 hE3=> ?_;refine z6 ?_;refine Zrd [1,3,5,6,7,9,89] [0,1,2,3,4,5,7,8,9,10,11,6,12] [] [] ?_;intro K hK;iterate 11 (refine Zo (Zi [] []) ?_)
    refine Zd (Zi [] []) (refHolds_spec (pr ps q) (i:Int)) (id) ?_;refine Zki hK ?_;clear hK K;refine Zcm ?_ ?_
    ·intro h89;have hb:lkBad cs ps i q=true:=by rw[lkBad,bne_comm];exact h89
     refine Zrs [2] (zb (hR3 _ _ (hRL2 _ _ (hR2 _ _ (hR1 _ _ (hRL1 _ _ (hR0 _ _ (hQ _ _ ?_))))))));have hl0:locksB cs ps=false:=by rw[locksB,z1r (p:=fun i=>z2a ps.length fun q=>(lkK cs i==(q:Int)+1) !=hol (pr ps q) i) hil (z1r hql hb)];rfl
     rw[hck,hl0,Qm,Qm];refine Zob ⟨2,[]⟩ ?_
     all_goals(first|trivial|exact⟨rfl,trivial⟩|exact⟨rfl,rfl⟩)
    intro h89;have hb:lkBad cs ps i q=false:=by rw[lkBad,bne_comm];exact h89
    refine z7 (za (hN3 _ _ (Zrg [1,3,5,6,7,9] (za (hL2 _ _ ?_)))));rw[iS q];refine⟨q+1,⟨⟨by omega,fun q' hq'=> ?_⟩,by omega⟩,id,(Zg id)⟩
    by_cases e:q'=q
    ·subst e;exact hb
    exact hq2 q' (by omega)
   intro h74;obtain⟨hq1,hq2⟩:=hq;refine zk (hEL2 _ _ _ (hX2 _ _ ?_));refine z3v [1,3,5,6] rfl ?_;intro K hK
   have hk19:∀B:Bool,B=freeN cs (i+1)->K [(1,.ptr 2 0 0 0),(3,.slc true 3 0 0 out.length),(5,.bool B),(6,.int .i64 i)] ⟨5,[(4,rV 117 5 1 (fun _=>(cl cs i).sv)),(3,zu out),(2,z43 0 cs.length 1 ps.length),(0,z4l cs),(1,z5b ps)]⟩:=by
    intro B hB;subst hB;refine hK _ _ ?_;clear hK K;refine za (hN1 _ _ (Zrg [1,3,5,6] (za (hL1 _ _ ?_))));rw[iS i];refine⟨i+1,⟨⟨by omega,fun q' hq'=> ?_⟩,by omega⟩,id,(Zg id)⟩
    by_cases e:q'=i
    ·subst e;exact⟨h69,z1l fun q' hq'=>hq2 q' (by omega)⟩
    exact hi2 q' (by omega)
   iterate 7 (refine Zo Zl ?_)
   refine zr ?_;refine Zpr ?_;refine hk19 _ ?_;rw[freeN_succ]
  iterate 16 (refine Zo Zl ?_)
  refine z13 ?_;refine z1b rfl rfl ?_;refine Zgr ?_
  first|refine z15 ?_ ?_|refine(fun(h1:false=true->_) (h2:false=false->_)=>qi h1 fun _=>h2 rfl) ?_ ?_|refine qi ?_ ?_
  ·intro hg16
   first
    |(simp at hg16;done)
    |skip
     try replace hg16:=Znb hg16
     refine Zo id ?_;refine Zc1 (unlinking_spec cs ps cs.length ps.length rfl rfl (by omega) (i:Int)) (id) ?_;refine Zo Zl ?_
     try with_reducible refine qi (by clear hk12;simp_all;done) ?_
     refine Zad ?_;refine Zo Zl ?_
     try with_reducible refine qi (by clear hk12;simp_all;done) ?_
     refine Zad ?_;refine Zo Zl ?_;refine zr ?_;refine Zpr ?_;refine hk12 _ (Eq.trans ?_ (hcb i));clear hk12 hcb hi2 hck hrng hpath
     show _=(!(cl cs i).gone && !hasB out (i:Int)||(cl cs i).gone && hasB out (i:Int) && !leavB ps (i:Int))
     cases hA:(cl cs i).gone<;>cases hB:hasB out (i:Int)<;>first|rfl|(simp_all;done)
  intro hg16;refine⟨.bool false,?_⟩
  first
   |(simp at hg16;done)
   |skip
    try replace hg16:=Znb hg16
    refine Zo Zl ?_
    try with_reducible refine qi (by clear hk12;simp_all;done) ?_
    refine Zad ?_;refine Zo Zl ?_
    try with_reducible refine qi (by clear hk12;simp_all;done) ?_
    refine Zad ?_;refine Zo Zl ?_;refine zr ?_;refine Zpr ?_;refine hk12 _ (Eq.trans ?_ (hcb i));clear hk12 hcb hi2 hck hrng hpath
    show _=(!(cl cs i).gone && !hasB out (i:Int)||(cl cs i).gone && hasB out (i:Int) && !leavB ps (i:Int))
    cases hA:(cl cs i).gone<;>cases hB:hasB out (i:Int)<;>first|rfl|(simp_all;done)
 intro h39;obtain⟨hi1,hi2⟩:=hi;have hin:i=cs.length:=by omega
 subst hin;have hall:z2a cs.length (fun i=>z5i cs ps out i)=false:=z1l fun q hq=>(hi2 q (by omega)).1
 have hlk:locksB cs ps=true:=by
  rw[locksB,z1l (p:=fun i=>z2a ps.length fun q=>(lkK cs i==(q:Int)+1) !=hol (pr ps q) i) fun q hq=>(hi2 q (by omega)).2];rfl
 rw[hall,hlk] at hck;refine zk (hEL1 _ _ _ (hX0 _ _ (z6 (Zrs [1,3,5,10] ?_))));refine z8 fun Q4 hN4 hX4 hR4 hE4=> ?_;refine zl (σ:=Nat) (fun j=>1<=j/\(j<=out.length\/j=1)/\∀q,q+1<j->z3x cs out q=false) (fun j=>out.length-j) (fun j=>[(1,.ptr 2 0 0 0),(3,.slc true 3 0 0 out.length),(5,.bool (freeN cs cs.length)),(10,.int .i64 j)]) (fun _=>⟨4,[(3,zu out),(2,z43 0 cs.length 1 ps.length),(0,z4l cs),(1,z5b ps)]⟩) 1 ⟨qd _,.inr rfl,fun q h=>by omega⟩ (ρ:=id) (Zg id) ?_;rintro j hj QL3 hL3 hRL3 hEL3;refine z6 (sg [1,3,5,10,102] rfl ?_);intro K hK
 have hk21:(1<=j/\(j<=out.length\/j=1)/\∀q,q+1<j->z3x cs out q=false)->∀B:Bool,B=(freeN cs cs.length && decide (j<out.length))->K [(1,.ptr 2 0 0 0),(3,.slc true 3 0 0 out.length),(5,.bool (freeN cs cs.length)),(10,.int .i64 j),(102,.bool B)] ⟨4,[(3,zu out),(2,z43 0 cs.length 1 ps.length),(0,z4l cs),(1,z5b ps)]⟩:=by
  intro hj B hB;subst hB;refine hK _ _ ?_;clear hK K;refine Zcm ?_ ?_
  ·intro h102;obtain⟨hj1,hj2,hj3⟩:=hj;obtain⟨hfr,hjl⟩:freeN cs cs.length=true/\j<out.length:=by simpa using h102
   have hr1:=hrng _ (nth_mem' hjl);have hr2:=hrng _ (nth_mem' (show j-1<out.length by omega));refine z7 (z6 ?_);refine z8 fun Q5 hN5 hX5 hR5 hE5=> ?_;refine z6 ?_;refine Zrd [1,3,5,10,119] [0,1,2,3,4,5,6,7,8,9,10,11,12,13,14] [] [] ?_;intro K hK;iterate 13 (refine Zo (Zi [] []) ?_)
   rw[show(j:Int)-1=((j-1:Nat):Int) from by omega];refine Zad ?_;refine Zki hK ?_;clear hK K;refine Zcm ?_ ?_
   ·intro h119
    have hb:z3x cs out (j-1)=true:=by
     rw[z3x,show j-1+1=j by omega];exact h119
    refine Zrs [2] (zb (hR5 _ _ (hRL3 _ _ (hR4 _ _ (hQ _ _ ?_)))));have hf:freeB cs=true:=hfr;rw[hck,z1r (p:=fun i=>z3x cs out i) (i:=j-1) (by omega) hb,hf];refine Zob ⟨2,[]⟩ ?_
    all_goals(first|trivial|exact⟨rfl,trivial⟩|exact⟨rfl,rfl⟩)
   intro h119
   have hb:z3x cs out (j-1)=false:=by
    rw[z3x,show j-1+1=j by omega];exact h119
   refine z7 (za (hN5 _ _ (Zrg [1,3,5,10] (za (hL3 _ _ ?_)))));rw[iS j];refine⟨j+1,⟨⟨by omega,.inl (by omega),fun q hq=> ?_⟩,by omega⟩,id,(Zg id)⟩
   by_cases e:q=j-1
   ·subst e;exact hb
   exact hj3 q (by omega)
  intro h102;obtain⟨hj1,hj2,hj3⟩:=hj;refine zk (hEL3 _ _ _ (hX4 _ _ (Zrs [2] (zb (hQ _ _ ?_)))))
  have hend:(!freeB cs|| !z2a (out.length-1) (fun i=>z3x cs out i))=true:=by
   have hfe:freeB cs=freeN cs cs.length:=rfl;rw[hfe]
   cases hfr:freeN cs cs.length with
   |false=>rfl
   |true=>
    rw[hfr,qL,qg] at h102;rw[z1l fun q hq=>hj3 q (by omega)];rfl
  rw[hck,hend];refine Zob ⟨2,[]⟩ ?_
  all_goals(first|trivial|exact⟨rfl,trivial⟩|exact⟨rfl,rfl⟩)
 iterate 7 (refine Zo Zl ?_)
 refine zr ?_;refine Zpr ?_;refine hk21 hj _ ?_
 first|(simp;done)|rfl|(congr 1;simp;done)
end
def kAt_lt' {l:List ByteArray}{i:Nat}(h:i<l.length):kAt l i=l[i]:=by simp[kAt,List.getD,h]
def kAt_inj {l:List ByteArray}(hd:l.Nodup){i j:Nat}(hi:i<l.length)(hj:j<i):kAt l i≠kAt l j:=by
 rw[kAt_lt' hi,kAt_lt' (by omega)];intro e;exact Qd.1 hd j i (by omega) hi hj e.symm
def ltK_trans (keys:List ByteArray)(a b c:Int)(h:ltK keys a b=true)(h':ltK keys b c=true):ltK keys a c=true:=bl_trans' h h'
def kAt_inj2 {keys:List ByteArray}(h:keys.Nodup){i j:Nat}(hi:i<keys.length)(hj:j<keys.length)(e:kAt keys i=kAt keys j):i=j:=by
 rcases ji i j with h1|h1|h1
 ·exact absurd e.symm (kAt_inj h hj h1)
 ·exact h1
 exact absurd e (kAt_inj h hi h1)
def srt_pw {keys:List ByteArray}{inn:List Bool}(h:keys.Nodup):∀i,i<=keys.length->(srtR (ltK keys) (mems inn i)).Pairwise (fun a b=>ltK keys a b=true)
 |0,_=>by simp[mems,srtR]
 |i+1,hi=>by
  simp only[mems]
  split
  ·rw[srtR_snoc];refine insR_pw (ltK_trans keys) (srt_pw h i (by omega)) fun y hy hlt=> ?_;obtain⟨j,hj,_,rfl⟩:=z5e.1 ((srtR_mem _).1 hy)
   cases hb:ltK keys ((j:Int)+2) ((i:Int)+2) with
   |true=>rfl
   |false=>
    have e:=sLt_totalK hlt hb;have e1:((i:Int)+2).toNat-2=i:=by omega
    have e2:((j:Int)+2).toNat-2=j:=by omega
    rw[e1,e2] at e;have:=kAt_inj2 h (by omega) (by omega) e;omega
  exact srt_pw h i (by omega)
def noPr_at (p q:Nat):pr (List.replicate p noPr) q=noPr:=by
 simp only[pr,List.getD,jW]
 split<;>rfl
structure Mk (keys:List ByteArray) (inn:List Bool) (p:Nat):Prop where
 len:keys.length<=6
 inn:inn.length=keys.length
 ok:∀i,i<keys.length->okKey (kAt keys i)=true
 nodup:keys.Nodup
 two:2<=p
 four:p<=4
def cl_ext {xs ys:List Cl}(hl:xs.length=ys.length)(h:∀q,q<xs.length->cl xs q=cl ys q):xs=ys:=by
 apply Qw hl;intro i h1 h2;have:=h i h1;rwa [cl_lt h1,cl_lt h2] at this
def z3m (keys:List ByteArray)(inn:List Bool)(i:Nat):List Cl:=[noCl,noCl]++(List.range i).map fun j=>⟨kAt keys j,0,0,0,!bAt inn j⟩
def z36 (keys:List ByteArray)(inn:List Bool)(i:Nat):(z3m keys inn i).length=i+2:=by simp[z3m]
def cellK_succ (keys:List ByteArray)(inn:List Bool)(i:Nat):z3m keys inn (i+1)=z3m keys inn i++[⟨kAt keys i,0,0,0,!bAt inn i⟩]:=by simp[z3m,Jp]
def cellK_at (keys:List ByteArray)(inn:List Bool)(i:Nat){q:Nat}(hq:q<i+2):cl (z3m keys inn i) q=if q<2 then noCl else⟨kAt keys (q-2),0,0,0,!bAt inn (q-2)⟩:=by
 unfold z3m
 by_cases c:q<2
 ·rw[qe c,cl_append_lt (by simpa using c)];rcases(show q=0\/q=1 by omega) with rfl|rfl<;>rfl
 rw[qc c,cl_append_ge (by simpa using c),cl_lt (by simp;omega)];simp
def lessC_cellK {keys:List ByteArray}{inn:List Bool}{i:Nat}{a b:Int}(ha:2<=a/\a<i+2)(hb:2<=b/\b<i+2):z1m (z3m keys inn i) a b=ltK keys a b:=by
 have e1:(a==1)=false:=by simp;omega
 have e2:(b==0)=false:=by simp;omega
 have e3:(a==0)=false:=by simp;omega
 have e4:(b==1)=false:=by simp;omega
 unfold z1m ltK;rw[e1,e2,e3,e4,cellK_at _ _ _ (by omega),cellK_at _ _ _ (by omega),qc (show¬a.toNat<2 by omega),qc (show¬b.toNat<2 by omega)];simp only[jl,qz,Ql]
 split
 ·rename_i e;have:a=b:=by simpa using e
  subst this;simp[sLt,bl_irr']
 rfl
def srt_memsK (keys:List ByteArray)(inn:List Bool)(n:Nat):∀i,i<=n->srtR (z1m (z3m keys inn n)) (mems inn i)=srtR (ltK keys) (mems inn i)
 |0,_=>rfl
 |i+1,hi=>by
  simp only[mems]
  split
  ·rw[srtR_snoc,srtR_snoc,srt_memsK keys inn n i (by omega)];refine insR_congr fun y hy=> ?_;obtain⟨j,hj,_,rfl⟩:=z5e.1 ((srtR_mem _).1 hy);exact lessC_cellK (by omega) (by omega)
  exact srt_memsK keys inn n i (by omega)
def ordN (keys:List ByteArray)(inn:List Bool)(n:Nat):List Int:=srtR (ltK keys) (mems inn n)++[1]
def ordN_mem {keys:List ByteArray}{inn:List Bool}{n:Nat}{z:Int}(h:z∈ordN keys inn n):1<=z/\z<n+2:=by
 rw[ordN,Qa,srtR_mem,qU] at h;rcases h with h|rfl
 ·obtain⟨j,hj,_,rfl⟩:=z5e.1 h;omega
 omega
def lnk2 (cs:List Cl)(last:Int):List Int->List Cl
 |[]=>cs
 |c::l=>lnk2 (z4b (z2s cs last c) c last) c l
def lnk2_length:∀(l:List Int) (cs:List Cl) (a:Int),(lnk2 cs a l).length=cs.length
 |[],_,_=>rfl
 |c::l,cs,a=>by rw[lnk2,lnk2_length l,z52,z31]
def newK (keys:List ByteArray)(inn:List Bool)(n:Nat):List Cl:=lnk2 (z3m keys inn n) 0 (ordN keys inn n)
def newK_length (keys:List ByteArray)(inn:List Bool)(n:Nat):(newK keys inn n).length=n+2:=by rw[newK,lnk2_length,z36]
def lnk2_cell:∀(l:List Int) (cs:List Cl) (a:Int),(0<=a/\a<cs.length)->(∀x∈l,0<=x/\x<cs.length)->∀i:Nat,∃r f:Int,cl (lnk2 cs a l) i={cl cs i with right:=r,left:=f}/\(r=(cl cs i).right\/r∈l)/\(f=(cl cs i).left\/f∈a::l)
 |[],cs,a,_,_,i=>⟨(cl cs i).right,(cl cs i).left,rfl,.inl rfl,.inl rfl⟩
 |c::l,cs,a,ha,hl,i=>by
  have hc:=hl c (qo ..);have hlen:(z4b (z2s cs a c) c a).length=cs.length:=by rw[z52,z31]
  have hcR:0<=c/\c<(z2s cs a c).length:=by rw[z31];exact hc
  obtain⟨r,f,h1,h2,h3⟩:=lnk2_cell l (z4b (z2s cs a c) c a) c (by rw[hlen];exact hc) (fun x hx=>by rw[hlen];exact hl x (qp _ hx)) i;have e1:=cl_up (cs:=cs) (c:=a) (i:=(i:Int)) (y:={cl cs a.toNat with right:=c}) ha (by omega);have e2:=cl_up (cs:=z2s cs a c) (c:=c) (i:=(i:Int)) (y:={cl (z2s cs a c) c.toNat with left:=a}) hcR (by omega);rw[qq] at e1 e2
  have g1:∃r,cl (z2s cs a c) i={cl cs i with right:=r}/\(r=(cl cs i).right\/r=c):=by
   have e1':cl (z2s cs a c) i=_:=e1
   by_cases hia:(i:Int)=a
   ·rw[qe hia] at e1';have:a.toNat=i:=by omega
    rw[this] at e1';exact⟨c,e1',.inr rfl⟩
   rw[qc hia] at e1';exact⟨_,e1',.inl rfl⟩
  have g2:∃f,cl (z4b (z2s cs a c) c a) i={cl (z2s cs a c) i with left:=f}/\(f=(cl (z2s cs a c) i).left\/f=a):=by
   have e2':cl (z4b (z2s cs a c) c a) i=_:=e2
   by_cases hic:(i:Int)=c
   ·rw[qe hic] at e2';have:c.toNat=i:=by omega
    rw[this] at e2';exact⟨a,e2',.inr rfl⟩
   rw[qc hic] at e2';exact⟨_,e2',.inl rfl⟩
  obtain⟨r1,k1,k2⟩:=g1;obtain⟨f1,k3,k4⟩:=g2;rw[lnk2];rw[k3,k1] at h1 h2 h3;rw[k1] at k4;refine⟨r,f,h1,?_,?_⟩
  ·rcases h2 with h2|h2
   ·dsimp only at h2;rw[h2];rcases k2 with k2|k2
    ·exact .inl k2
    exact .inr (k2 ▸ qo ..)
   exact .inr (qp _ h2)
  rcases h3 with h3|h3
  ·dsimp only at h3 k4;rw[h3];rcases k4 with k4|k4
   ·exact .inl k4
   exact .inr (k4 ▸ qo ..)
  exact .inr (qp _ h3)
def lnk2_key {l:List Int}{cs:List Cl}{a:Int}(ha:0<=a/\a<cs.length)(hl:∀x∈l,0<=x/\x<cs.length):z41 cs (lnk2 cs a l):=
 ⟨lnk2_length ..,fun i=>by obtain⟨r,f,h,_⟩:=lnk2_cell l cs a ha hl i;rw[h]⟩
def lnk2_off:∀(l:List Int) (cs:List Cl) (a i:Int),(0<=a/\a<cs.length)->(∀x∈l,0<=x/\x<cs.length)->0<=i->(i∉a::l->rt (lnk2 cs a l) i=rt cs i)/\(i∉l->lf (lnk2 cs a l) i=lf cs i)
 |[],cs,a,i,_,_,_=>⟨fun _=>rfl,fun _=>rfl⟩
 |c::l,cs,a,i,ha,hl,hi=>by
  have hc:=hl c (qo ..);have hlen:(z4b (z2s cs a c) c a).length=cs.length:=by rw[z52,z31]
  have hcR:0<=c/\c<(z2s cs a c).length:=by rw[z31];exact hc
  obtain⟨h1,h2⟩:=lnk2_off l (z4b (z2s cs a c) c a) c i (by rw[hlen];exact hc) (fun x hx=>by rw[hlen];exact hl x (qp _ hx)) hi;rw[lnk2];refine⟨fun hn=> ?_,fun hn=> ?_⟩
  ·rw[h1 fun h=>hn (qp _ h),z3h hcR hi,rt_setR ha hi,qc];intro e;exact hn (e ▸ qo ..)
  rw[h2 fun h=>hn (qp _ h),lf_setF hcR hi,lf_setR ha hi,qc];intro e;exact hn (e ▸ qo ..)
def lnk2_seg:∀(m:List Int) (cs:List Cl) (a:Int),(∀x∈a::(m++[1]),0<=x/\x<cs.length)->(a::(m++[1])).Pairwise (fun x y=>z1m cs x y=true)->Seg (lnk2 cs a (m++[1])) a (m++[1]) 1/\∀i∈a::m,lf (lnk2 cs a (m++[1])) (rt (lnk2 cs a (m++[1])) i)=i
 |[],cs,a,hr,hp=>by
  have ha:=hr a (qo ..);have h1r:=hr 1 (by simp);have h1:=(Qz.1 hp).1 1 (by simp);have hcR:0<=(1:Int)/\(1:Int)<(z2s cs a 1).length:=by rw[z31];exact h1r
  have e:rt (z4b (z2s cs a 1) 1 a) a=1:=by rw[z3h hcR ha.1,rt_setR ha ha.1,qe rfl]
  refine⟨⟨(z1s.1 h1).2.1,e,?_,rfl⟩,fun i hi=> ?_⟩
  ·show z1m (z4b (z2s cs a 1) 1 a) a 1=true
   rw[((z4m ..).trans (z5d ..)).less];exact h1
  have:i=a:=by simpa using hi
  subst this
  show lf (z4b (z2s cs i 1) 1 i) (rt (z4b (z2s cs i 1) 1 i) i)=i
  rw[e,lf_setF hcR (by omega),qe rfl]
 |c::m,cs,a,hr,hp=>by
  have ha:=hr a (qo ..);have hc:=hr c (by simp);obtain⟨hp1,hp2⟩:=Qz.1 hp;have hk:z41 cs (z4b (z2s cs a c) c a):=(z4m ..).trans (z5d ..);have hlen:=hk.len;have hcR:0<=c/\c<(z2s cs a c).length:=by rw[z31];exact hc
  have hr2:∀x∈c::(m++[1]),0<=x/\x<(z4b (z2s cs a c) c a).length:=fun x hx=>by rw[hlen];exact hr x (qp _ hx)
  obtain⟨ih1,ih2⟩:=lnk2_seg m (z4b (z2s cs a c) c a) c hr2 (hp2.imp fun {x y} h=>by rw[hk.less];exact h);have hk2:z41 (z4b (z2s cs a c) c a) (lnk2 (z4b (z2s cs a c) c a) c (m++[1])):=lnk2_key (hr2 c (qo ..)) fun x hx=>hr2 x (qp _ hx);have hac:=hp1 c (qo ..);have hne:a∉c::(m++[1]):=fun h=>absurd rfl (z57 (hp1 a h));have hcn:c∉m++[1]:=fun h=>absurd rfl (z57 ((Qz.1 hp2).1 c h));have hoff:=fun i=>lnk2_off (m++[1]) (z4b (z2s cs a c) c a) c i (hr2 c (qo ..)) (fun x hx=>hr2 x (qp _ hx))
  have e:rt (lnk2 (z4b (z2s cs a c) c a) c (m++[1])) a=c:=by
   rw[(hoff a ha.1).1 hne,z3h hcR ha.1,rt_setR ha ha.1,qe rfl]
  show Seg (lnk2 (z4b (z2s cs a c) c a) c (m++[1])) a (c::(m++[1])) 1/\∀i∈a::c::m,lf (lnk2 (z4b (z2s cs a c) c a) c (m++[1])) (rt (lnk2 (z4b (z2s cs a c) c a) c (m++[1])) i)=i
  refine⟨⟨(z1s.1 hac).2.1,e,?_,ih1⟩,fun i hi=> ?_⟩
  ·rw[hk2.less,hk.less];exact hac
  rcases qv.1 hi with g|g
  ·subst g;rw[e,(hoff c hc.1).2 hcn,lf_setF hcR hc.1,qe rfl]
  exact ih2 i g
def inv_made {keys:List ByteArray}{inn:List Bool}{p:Nat}(h:Mk keys inn p):Inv (newK keys inn keys.length) (List.replicate p noPr) (ordN keys inn keys.length):=by
 have hlen:=newK_length keys inn keys.length;have hlP:(z3m keys inn keys.length).length=keys.length+2:=z36 ..;have h0:0<=(0:Int)/\(0:Int)<(z3m keys inn keys.length).length:=by omega
 have hor:∀x∈ordN keys inn keys.length,0<=x/\x<(z3m keys inn keys.length).length:=fun x hx=>by have:=ordN_mem hx;omega
 have hkey:z41 (z3m keys inn keys.length) (newK keys inn keys.length):=lnk2_key h0 hor
 have hcell:∀i:Nat,i<keys.length+2->∃r f:Int,cl (newK keys inn keys.length) i={(if i<2 then noCl else⟨kAt keys (i-2),0,0,0,!bAt inn (i-2)⟩:Cl) with right:=r,left:=f}/\(0<=r/\r<keys.length+2)/\0<=f/\f<keys.length+2:=fun i hi=>by
  obtain⟨r,f,h1,h2,h3⟩:=lnk2_cell (ordN keys inn keys.length) (z3m keys inn keys.length) 0 h0 hor i;have h4:=cellK_at keys inn keys.length hi;rw[h4] at h1 h2 h3;have hz:(if i<2 then noCl else(⟨kAt keys (i-2),0,0,0,!bAt inn (i-2)⟩:Cl)).right=0/\(if i<2 then noCl else(⟨kAt keys (i-2),0,0,0,!bAt inn (i-2)⟩:Cl)).left=0:=by split<;>exact⟨rfl,rfl⟩
  rw[hz.1] at h2;rw[hz.2] at h3;refine⟨r,f,h1,?_,?_⟩
  ·rcases h2 with h2|h2
   ·omega
   have:=ordN_mem h2;omega
  rcases h3 with h3|h3
  ·omega
  rcases qv.1 h3 with h3|h3
  ·omega
  have:=ordN_mem h3;omega
 have hl6:=h.len
 have hin:∀i:Int,0<=i->i<keys.length+2->(gn (newK keys inn keys.length) i=if i<2 then false else !bAt inn (i.toNat-2))/\lkK (newK keys inn keys.length) i=0:=fun i hi hi2=>by
  obtain⟨r,f,h1,_⟩:=hcell i.toNat (by omega);simp only[gn,lkK];rw[h1]
  by_cases c:i<2
  ·rw[qe (show i.toNat<2 by omega),qe c];exact⟨rfl,rfl⟩
  rw[qc (show¬i.toNat<2 by omega),qc c];exact⟨rfl,rfl⟩
 have hvb:z1y (newK keys inn keys.length) (List.replicate p noPr)=true:=by
  have hk0:∀i:Nat,i<2->(cl (newK keys inn keys.length) i).key=⟨#[]⟩:=fun i hi=>by
   obtain⟨r,f,h1,_⟩:=hcell i (by omega);rw[h1,qe hi];rfl
  have h2:=h.two;have h4:=h.four;simp only[z1y,cellsK,qj,qn];refine⟨z3k.2 fun i hi=> ?_,⟨?_,z3k.2 fun i hi=> ?_⟩,z3k.2 fun i hi=> ?_⟩
  ·rw[noPr_at];decide
  ·simp only[headBad,hlen,Qy,hk0 0 (by omega),hk0 1 (by omega),z5l,jR,qS,jl,qk,qg];omega
  ·rw[hlen] at hi;obtain⟨r,f,h1,h3,h5⟩:=hcell i hi;rw[qk];refine⟨?_,?_⟩
   ·have hok:okKey (cl (newK keys inn keys.length) i).key=true:=by
     by_cases c:i<2
     ·rw[hk0 i c];decide
     rw[h1,qc c];exact h.ok _ (by omega)
    simp only[badK,hok,qk,qg,qS,hlen,Qy];rw[h1];have hz:(if i<2 then noCl else(⟨kAt keys (i-2),0,0,0,!bAt inn (i-2)⟩:Cl)).lock=0:=by split<;>rfl
    dsimp only;rw[hz];refine⟨⟨⟨⟨⟨⟨by omega,by omega⟩,by omega⟩,by omega⟩,by omega⟩,by omega⟩,trivial⟩
   rw[dupC]
   by_cases c:1<(i:Int)
   ·rw[qB c,qL,z3k];intro q hq;rw[sameKey,z5l,qg];obtain⟨r',f',g1,_⟩:=hcell (2+q) (by omega);have c1:¬i<2:=by omega
    have c2:¬2+q<2:=by omega
    rw[h1,g1,qc c1,qc c2];intro e;have:=kAt_inj2 h.nodup (by omega) (by omega) e;omega
   rw[qG c,Qm]
  rw[noPr_at,hlen];simp only[badQ,noPr,qk,qg];have e0:max (max (max (0:Int) 0) 0) 0=0:=by decide
  exact⟨⟨⟨by decide,qG (show¬((keys.length+2:Nat):Int)<=max (max (max (0:Int) 0) 0) 0 by rw[e0];omega)⟩,by decide⟩,by decide⟩
 have hpw:(0::ordN keys inn keys.length).Pairwise fun x y=>z1m (z3m keys inn keys.length) x y=true:=by
  have hm:∀x∈srtR (ltK keys) (mems inn keys.length),2<=x/\x<keys.length+2:=fun x hx=>by
   obtain⟨j,hj,_,rfl⟩:=z5e.1 ((srtR_mem _).1 hx);omega
  rw[Qz];refine⟨fun x hx=> ?_,?_⟩
  ·have:=ordN_mem hx;rw[z1s];exact⟨by omega,by omega,by omega,.inl rfl⟩
  rw[ordN,List.pairwise_append];refine⟨(srt_pw h.nodup keys.length (qd _)).imp_of_mem fun {x y} hx hy g=> ?_,List.pairwise_singleton ..,fun x hx y hy=> ?_⟩
  ·rw[lessC_cellK (hm x hx) (hm y hy)];exact g
  have:=hm x hx;rw[qU] at hy;subst hy;rw[z1s];exact⟨by omega,by omega,by decide,.inr (.inl rfl)⟩
 obtain⟨hseg,hlef⟩:=lnk2_seg (srtR (ltK keys) (mems inn keys.length)) (z3m keys inn keys.length) 0 (fun x hx=>by
  rcases qv.1 hx with e|e
  ·rw[e];exact h0
  exact hor x e) hpw
 have hseg':Seg (newK keys inn keys.length) 0 (ordN keys inn keys.length) 1:=hseg
 have hin2:∀i:Int,2<=i->i<keys.length+2->gn (newK keys inn keys.length) i=false->i∈ordN keys inn keys.length:=fun i h2 h3 hg=>by
  rw[(hin i (by omega) h3).1,qc (by omega),qr] at hg;rw[ordN,Qa,srtR_mem];exact .inl (z5e.2 ⟨i.toNat-2,by omega,hg,by omega⟩)
 have hng:∀i,i∈ordN keys inn keys.length->gn (newK keys inn keys.length) i=false:=fun i hi=>by
  have:=ordN_mem hi;rw[(hin i (by omega) (by omega)).1]
  split
  ·rfl
  rw[ordN,Qa,srtR_mem,qU] at hi;rcases hi with hi|hi
  ·obtain⟨j,hj,hb,e⟩:=z5e.1 hi;rw[show i.toNat-2=j by omega,hb];rfl
  omega
 have hTm:∀i,TT (newK keys inn keys.length) i->i∈0::ordN keys inn keys.length:=fun i hi=>by
  obtain⟨g1,g2,g3⟩:=hi;rw[hlen] at g2
  by_cases hm:i∈0::ordN keys inn keys.length
  ·exact hm
  exfalso
  have e:=(lnk2_off (ordN keys inn keys.length) (z3m keys inn keys.length) 0 i h0 hor g1).1 hm
  have e2:rt (z3m keys inn keys.length) i=0:=by
   simp only[rt];rw[cellK_at _ _ _ (by omega)]
   split<;>rfl
  rcases g3 with g3|g3
  ·subst g3;exact hm hseg'.ends
  have e3:rt (newK keys inn keys.length) i=0:=e.trans e2;rw[e3] at g3;exact(z1s.1 g3).2.2.1 rfl
 have hl2:2<=(newK keys inn keys.length).length:=by omega
 have hc0:Core (newK keys inn keys.length) (ordN keys inn keys.length):=by
  have hrng:∀i,i∈ordN keys inn keys.length->0<=i/\i<(newK keys inn keys.length).length:=fun i hi=>by have:=ordN_mem hi;omega
  refine⟨hseg',hl2,by rw[(hin 0 (by omega) (by omega)).1];rfl,by rw[(hin 1 (by omega) (by omega)).1];rfl,hrng,fun i hi h1=> ?_,fun i g1 g2 g3=>hin2 i g1 (by omega) g3⟩;have hm:=hTm i hi;obtain⟨A,B,e,hA,hB⟩:=hseg'.split hm
  cases B with
  |nil=>exact absurd hB h1
  |cons y B=>
   have hy:=hB.2.1;have hyl:y∈ordN keys inn keys.length:=by rw[e];exact Qg _ (qo ..)
   rw[hy];refine⟨(hrng y hyl).1,(hrng y hyl).2,?_⟩
   cases B with
   |nil=>exact .inl hB.2.2.2
   |cons z B=>exact .inr (by rw[hB.2.2.2.2.1];exact hB.2.2.2.2.2.1)
 refine⟨hvb,hc0,fun i hi hg=> ?_,fun i g0 gl q hq=> ?_,fun q hq ha=> ?_,fun i hi h1=> ?_⟩
 ·rw[hng i hi] at hg;cases hg
 ·rw[(hin i g0 (by omega)).2,noPr_at]
  constructor
  ·intro g;omega
  intro g;exact absurd g (by simp[hol,noPr,z42])
 ·rw[noPr_at] at ha;exact absurd ha (by decide)
 refine .inl (hlef i ?_);rcases qv.1 hi with e|e
 ·rw[e];exact qo ..
 rw[ordN,Qa,qU] at e;rcases e with e|e
 ·exact qp _ e
 exact absurd e h1
section
def z3i:Tryz.prog.underlying 3=some (.int .i64):=by kernel_rfl
def Tryz.strUK:Tryz.prog.underlying 9=some .string:=by kernel_rfl
def Tryz.boolU:Tryz.prog.underlying 4=some .bool:=by kernel_rfl
def eqCl (a b:Cl):EqT prog 117 [.str a.key,.int .i64 a.left,.int .i64 a.right,.int .i64 a.lock,.bool a.gone] [.str b.key,.int .i64 b.left,.int .i64 b.right,.int .i64 b.lock,.bool b.gone]:=
 EqT.of [(false,9,0),(false,3,1),(false,3,2),(false,3,3),(false,4,4)] (by kernel_rfl) (by kernel_rfl) (by kernel_rfl) (by kernel_rfl)
  ⟨⟨rfl,rfl,by kernel_rfl,Tryz.strUK⟩,⟨rfl,rfl,by kernel_rfl,rfl,_,z3i⟩,⟨rfl,rfl,by kernel_rfl,rfl,_,z3i⟩,⟨rfl,rfl,by kernel_rfl,rfl,_,z3i⟩,⟨rfl,rfl,by kernel_rfl,Tryz.boolU⟩,trivial⟩
def eqPr (a b:Pr):EqT prog 110 [.int .i64 a.kind,.int .i64 a.cell,.int .i64 a.phase,.int .i64 a.pred,.int .i64 a.succ,.int .i64 a.next,.bool a.res] [.int .i64 b.kind,.int .i64 b.cell,.int .i64 b.phase,.int .i64 b.pred,.int .i64 b.succ,.int .i64 b.next,.bool b.res]:=
 EqT.of [(false,3,0),(false,3,1),(false,3,2),(false,3,3),(false,3,4),(false,3,5),(false,4,6)] (by kernel_rfl) (by kernel_rfl) (by kernel_rfl) (by kernel_rfl)
  ⟨⟨rfl,rfl,by kernel_rfl,rfl,_,z3i⟩,⟨rfl,rfl,by kernel_rfl,rfl,_,z3i⟩,⟨rfl,rfl,by kernel_rfl,rfl,_,z3i⟩,⟨rfl,rfl,by kernel_rfl,rfl,_,z3i⟩,⟨rfl,rfl,by kernel_rfl,rfl,_,z3i⟩,⟨rfl,rfl,by kernel_rfl,rfl,_,z3i⟩,⟨rfl,rfl,by kernel_rfl,Tryz.boolU⟩,trivial⟩
def ba_beqK (x y:ByteArray):(x==y)=decide (x=y):=by
 rw[<-z5l,sEq,<-beq_toListBytes]
def eqL_cl (a b:Cl):eqL [.str a.key,.int .i64 a.left,.int .i64 a.right,.int .i64 a.lock,.bool a.gone] [.str b.key,.int .i64 b.left,.int .i64 b.right,.int .i64 b.lock,.bool b.gone]=decide (a=b):=by
 cases a;cases b
 rw[qY];simp[eqL,eqS,ba_beqK]
def eqL_pr (a b:Pr):eqL [.int .i64 a.kind,.int .i64 a.cell,.int .i64 a.phase,.int .i64 a.pred,.int .i64 a.succ,.int .i64 a.next,.bool a.res] [.int .i64 b.kind,.int .i64 b.cell,.int .i64 b.phase,.int .i64 b.pred,.int .i64 b.succ,.int .i64 b.next,.bool b.res]=decide (a=b):=by
 cases a;cases b
 rw[qY];simp[eqL,eqS]
def pr_ext {xs ys:List Pr}(hl:xs.length=ys.length)(h:∀q,q<xs.length->pr xs q=pr ys q):xs=ys:=by
 apply Qw hl;intro i h1 h2;have:=h i h1;rwa [pr_lt h1,pr_lt h2] at this
def LlUm.sdE {a:Prop}(h:a:=by first|exact D0.sdE|exact eqCl _ _|(intro _;exact eqCl _ _)|exact eqPr _ _|(intro _;exact eqPr _ _)):a:=h
open LlBm (oxE gxE exE)
open LlUm (sdE)
def same_spec (cs:List Cl)(ps:List Pr)(ds:List Cl)(qs:List Pr)(n m n' m':Nat)(hn:cs.length=n)(hm:ps.length=m)(hn':ds.length=n')(hm':qs.length=m')(hx:n<=9223372036854775807)(hy:m<=9223372036854775807):
  zj prog 54 [.agg [.slc false 0 0 0 n,.slc false 1 0 0 m],.agg [.slc false 2 0 0 n',.slc false 3 0 0 m']] ⟨4,[(0,z4l cs),(1,z5b ps),(2,z4l ds),(3,z5b qs)]⟩
   (fun s H1=>s= .bool (decide ((cs,ps)=(ds,qs)))/\H1=⟨4,[]⟩):=by
 subst hn hm hn' hm';refine Zf false 59 [.tmp 4] func54 ntmps54 results54 fun w0 own0 β0 Q hQ hQn=> ?_;refine Zrs [2,3] (z6 ?_);refine Zrs [2,3,22] ?_;refine Zcn ?_ ?_
 ·intro h22;refine Zrs [4] (zb (hQ _ _ ?_));rw[qG (fun e=>by cases e;omega)];refine Zob ⟨4,[]⟩ ?_
  all_goals(first|trivial|exact⟨rfl,trivial⟩|exact⟨rfl,rfl⟩)
 intro h22;refine z7 (z6 (Zrs [2,3,5] ?_));refine z8 fun Q0 hN0 hX0 hR0 hE0=> ?_;refine zl (σ:=Nat) (fun i=>i<=cs.length/\∀q,q<i->cl cs q=cl ds q) (fun i=>cs.length-i) (fun i=>[(2,.ptr 4 0 0 0),(3,.ptr 5 0 0 0),(5,.int .i64 i)]) (fun _=>⟨6,[(5,z43 2 ds.length 3 qs.length),(4,z43 0 cs.length 1 ps.length),(0,z4l cs),(1,z5b ps),(2,z4l ds),(3,z5b qs)]⟩) 0 ⟨ql _,fun q h=>by omega⟩ (ρ:=id) (Zg id) ?_;rintro i hi QL1 hL1 hRL1 hEL1;refine z6 (Zrs [2,3,5,27] ?_);refine Zcn ?_ ?_
 ·intro h27;obtain⟨hi1,hi2⟩:=hi;have hil:i<cs.length:=by omega
  refine z7 (z6 ?_);refine z8 fun Q1 hN1 hX1 hR1 hE1=> ?_;refine z6 ?_;refine Zrd [2,3,5,40] [0,1,2,3,4,5,6,7,8,9,10] [] [] ?_;intro K hK;iterate 11 (refine Zo (Zi [] []) ?_)
  rw[eqL_cl];refine Zad ?_;refine zz (Zpr (hK _ _ ?_));clear hK K;refine Zcn ?_ ?_
  ·intro h40;refine Zrs [4] (zb (hR1 _ _ (hRL1 _ _ (hR0 _ _ (hQ _ _ ?_)))));rw[qG (fun e=>by cases e;exact h40 rfl)];refine Zob ⟨4,[]⟩ ?_
   all_goals(first|trivial|exact⟨rfl,trivial⟩|exact⟨rfl,rfl⟩)
  intro h40;refine z7 (za (hN1 _ _ (Zrg [2,3,5] (za (hL1 _ _ ?_)))));rw[iS i];refine⟨i+1,⟨⟨by omega,fun q hq=> ?_⟩,by omega⟩,id,(Zg id)⟩
  by_cases e:q=i
  ·subst e;exact h40
  exact hi2 q (by omega)
 intro h27;obtain⟨hi1,hi2⟩:=hi;have hcd:cs=ds:=cl_ext (by omega) fun q hq=>hi2 q (by omega);refine zk (hEL1 _ _ _ (hX0 _ _ (z6 (Zrs [2,3,6] ?_))));refine z8 fun Q2 hN2 hX2 hR2 hE2=> ?_;refine zl (σ:=Nat) (fun i=>i<=ps.length/\∀q,q<i->pr ps q=pr qs q) (fun i=>ps.length-i) (fun i=>[(2,.ptr 4 0 0 0),(3,.ptr 5 0 0 0),(6,.int .i64 i)]) (fun _=>⟨6,[(5,z43 2 ds.length 3 qs.length),(4,z43 0 cs.length 1 ps.length),(0,z4l cs),(1,z5b ps),(2,z4l ds),(3,z5b qs)]⟩) 0 ⟨ql _,fun q h=>by omega⟩ (ρ:=id) (Zg id) ?_;rintro j hj QL2 hL2 hRL2 hEL2;refine z6 (Zrs [2,3,6,45] ?_);refine Zcn ?_ ?_
 ·intro h45;obtain⟨hj1,hj2⟩:=hj;have hjl:j<ps.length:=by omega
  refine z7 (z6 ?_);refine z8 fun Q3 hN3 hX3 hR3 hE3=> ?_;refine z6 ?_;refine Zrd [2,3,6,58] [0,1,2,3,4,5,6,7,8,9,10] [] [] ?_;intro K hK;iterate 11 (refine Zo (Zi [] []) ?_)
  rw[eqL_pr];refine Zad ?_;refine zz (Zpr (hK _ _ ?_));clear hK K;refine Zcn ?_ ?_
  ·intro h58;refine Zrs [4] (zb (hR3 _ _ (hRL2 _ _ (hR2 _ _ (hQ _ _ ?_)))));rw[qG (fun e=>by cases e;exact h58 rfl)];refine Zob ⟨4,[]⟩ ?_
   all_goals(first|trivial|exact⟨rfl,trivial⟩|exact⟨rfl,rfl⟩)
  intro h58;refine z7 (za (hN3 _ _ (Zrg [2,3,6] (za (hL2 _ _ ?_)))));rw[iS j];refine⟨j+1,⟨⟨by omega,fun q hq=> ?_⟩,by omega⟩,id,(Zg id)⟩
  by_cases e:q=j
  ·subst e;exact h58
  exact hj2 q (by omega)
 intro h45;obtain⟨hj1,hj2⟩:=hj;have hpq:ps=qs:=pr_ext (by omega) fun q hq=>hj2 q (by omega);refine zk (hEL2 _ _ _ (hX2 _ _ (Zrs [4] (zb (hQ _ _ ?_)))));rw[qB (by rw[hcd,hpq])];refine Zob ⟨4,[]⟩ ?_
 all_goals(first|trivial|exact⟨rfl,trivial⟩|exact⟨rfl,rfl⟩)
def actN (ps:List Pr):Nat->Nat
 |0=>0
 |i+1=>actN ps i+if z42 (pr ps i) then 1 else 0
end
def sumN (f:Pr->Nat)(ps:List Pr):Nat->Nat
 |0=>0
 |i+1=>sumN f ps i+f (pr ps i)
def sumN_le {f g:Pr->Nat}{ps qs:List Pr}:∀{n:Nat},(∀i,i<n->g (pr qs i)<=f (pr ps i))->sumN g qs n<=sumN f ps n
 |0,_=>qd _
 |n+1,h=>by
  have h1:=sumN_le (n:=n) fun i hi=>h i (by omega);have h2:=h n (by omega);simp only[sumN];omega
def sumN_lt {f g:Pr->Nat}{ps qs:List Pr}{p:Nat}:∀{n:Nat},p<n->(∀i,i<n->i≠p->g (pr qs i)<=f (pr ps i))->g (pr qs p)+1<=f (pr ps p)->sumN g qs n+1<=sumN f ps n
 |n+1,hp,h,hl=>by
  simp only[sumN]
  by_cases e:p=n
  ·subst e;have h1:=sumN_le (f:=f) (g:=g) (ps:=ps) (qs:=qs) (n:=p) fun i hi=>h i (by omega) (by omega);omega
  have h1:=sumN_lt (n:=n) (by omega) (fun i hi=>h i (by omega)) hl;have h2:=h n (by omega) (by omega);omega
def sumN_set {f:Pr->Nat}{ps:List Pr}{p:Nat}{y:Pr}(hp:p<ps.length):∀{n:Nat},p<n->sumN f (ps.set p y) n+f (pr ps p)=sumN f ps n+f y
 |n+1,hn=>by
  simp only[sumN]
  by_cases e:p=n
  ·subst e
   have h1:∀k,k<=p->sumN f (ps.set p y) k=sumN f ps k:=fun k=>by
    induction k with
    |zero=>intro _;rfl
    |succ k ih=>intro hk;simp only[sumN];rw[ih (by omega),z2l (by omega)]
   rw[h1 p (qd _),z3q hp];omega
  have h1:=sumN_set (f:=f) (y:=y) hp (n:=n) (by omega);rw[z2l e];omega
def sumN_ge {f:Pr->Nat}{ps:List Pr}{i:Nat}:∀{n:Nat},i<n->f (pr ps i)<=sumN f ps n
 |n+1,h=>by
  simp only[sumN]
  by_cases e:i=n
  ·subst e;omega
  have:=sumN_ge (f:=f) (ps:=ps) (n:=n) (show i<n by omega);omega
def kw (x:Pr):Nat:=if z42 x=true/\(x.kind=1/\x.phase<=7\/x.kind=2/\x.phase<=11) then 1 else 0
def stl (cs:List Cl)(l:List Int)(x:Pr):Bool:=if x.phase=5 then true else decide (x.phase<=4) && !(decide (x.pred∈0::l) && rt cs x.pred==x.succ)
def rst (cs:List Cl)(x:Pr):Nat:=
 if x.phase=1 then meas cs x.succ+9 else if x.phase=2 then 8 else if x.phase=3 then 7 else if x.phase=4 then 6 else if x.phase=5\/x.phase=9 then 5
 else if x.phase=6\/x.phase=10 then 4 else if x.phase=7\/x.phase=11 then 3 else if x.phase=8\/x.phase=12 then 2 else 1
def phW (cs:List Cl)(l:List Int)(k:Nat)(x:Pr):Nat:=if z42 x then(k-kw x+(stl cs l x).toNat)*(cs.length+5)+rst cs x else 0
def phi (cs:List Cl)(ps:List Pr)(l:List Int):Nat:=sumN (phW cs l (sumN kw ps ps.length)) ps ps.length
def rst_le (cs:List Cl)(x:Pr):rst cs x<=cs.length+9:=by
 unfold rst;have:=meas_le cs x.succ;repeat' split
 all_goals omega
def rst_pos (cs:List Cl)(x:Pr):1<=rst cs x:=by
 unfold rst;repeat' split
 all_goals omega
def Seg.det {cs:List Cl}:∀{a:Int} {l m:List Int},Seg cs a l 1->Seg cs a m 1->l=m
 |_,[],[],_,_=>rfl
 |_,[],_::_,h,h'=>absurd h h'.1
 |_,_::_,[],h,h'=>absurd h' h.1
 |_,x::l,y::m,h,h'=>by
  have e:x=y:=h.2.1.symm.trans h'.2.1;subst e;rw[Seg.det h.2.2.2 h'.2.2.2]
def stl_same {cs ds:List Cl}{l:List Int}(h:∀i,i∈0::l->rt ds i=rt cs i)(x:Pr):stl ds l x=stl cs l x:=by
 unfold stl
 split
 ·rfl
 congr 2
 by_cases e:x.pred∈0::l
 ·rw[h _ e]
 simp[e]
def Inv.stale {cs:List Cl}{ps:List Pr}{l:List Int}(h:Inv cs ps l){p:Nat}(hp:p<ps.length)(ha:z42 (pr ps p)=true)(h4:(pr ps p).phase=4)(hk:(pr ps p).kind≠3)(hb:failK cs (pr ps p)=true):stl cs l (pr ps p)=true:=by
 have hP:=h.prc p hp ha;have hO:=(z4g h.vb).proc p hp
 cases hs:stl cs l (pr ps p) with
 |true=>rfl
 |false=>
  exfalso
  unfold stl at hs;rw[qc (by omega),qB (by omega),qL,qr,qj,qm,qD] at hs;obtain⟨hm,hr⟩:=hs;have h1:(pr ps p).pred≠1:=(z1s.1 hP.pl).2.1;have hsm:=(h.core.next_mem hm h1).1;rw[hr] at hsm
  have key:∀i,i∈l->hol (pr ps p) i=true->gn cs i=false:=fun i hi hh=>by
   cases hg:gn cs i with
   |false=>rfl
   |true=>
    exfalso
    obtain⟨q,q1,q2,q3⟩:=h.gin i hi hg;have qa:z42 (pr ps q)=true:=z5z.2 ⟨by omega,by omega⟩;have hQ:=h.prc q q1 qa;obtain⟨k2,e2,_⟩:=hQ.r9 (by omega);have h5:=hol_succ (x:=pr ps q) (by omega) (by omega) (by omega);rw[e2,q3] at h5;have hr:=h.core.rng i hi;exact h.excl hp q1 (fun e=>by subst e;omega) hh h5 hr.1 hr.2
  have g2:=key _ hsm (hol_succ (by omega) (by omega) hk)
  have g1:gn cs (pr ps p).pred=false:=by
   rcases qv.1 hm with e|e
   ·rw[e];exact h.core.g0
   exact key _ e (hol_pred (by omega) (by omega) hk)
  rw[fail_iff.2 ⟨g1,g2,hr⟩] at hb
  cases hb
def Inv.rts {cs ds:List Cl}{ps:List Pr}{l:List Int}{y:Pr}(h:Inv cs ps l){p:Nat}(hp:p<ps.length)(ha:z42 (pr ps p)=true)(t:Tr cs p (pr ps p) ds y):
  z41 cs ds/\(((pr ps p).phase≠7/\(pr ps p).phase≠11/\∀i,i∈0::l->rt ds i=rt cs i)\/(pr ps p).phase=7/\y={pr ps p with phase:=8}\/(pr ps p).phase=11/\y={pr ps p with phase:=12}):=by
 have hv:=z4g h.vb;have hx:=h.prc p hp ha;have ok:=hv.proc p hp;have h0:∀i,i∈0::l->0<=i:=fun i hi=>(h.core.rng0 hi).1
 cases t with
 |lockP e hf=>exact⟨key_setK ..,.inl ⟨by omega,by omega,fun i hi=>rt_setK ok.pred (h0 i hi)⟩⟩
 |lockS e hf=>exact⟨key_setK ..,.inl ⟨by omega,by omega,fun i hi=>rt_setK ok.succ (h0 i hi)⟩⟩
 |retry e=>exact⟨key_unlk ..,.inl ⟨by omega,by omega,fun i hi=>rt_unlk ..⟩⟩
 |rel e=>exact⟨key_unlk ..,.inl ⟨by omega,by omega,fun i hi=>rt_unlk ..⟩⟩
 |link0 e=>
  refine⟨(z5d ..).trans (z4m ..),.inl ⟨by omega,by omega,fun i hi=> ?_⟩⟩;obtain⟨k1,hl,hg,hr⟩:=hx.i67 (.inl e);have hm:=h.core.live ok.pred.1 ok.pred.2 (hx.gp (by omega) (by omega));have hn:=h.core.gap hm hx.pl (by rw[hr];exact hl);have hne:i≠(pr ps p).cell:=fun e=>hn (e ▸ hi);rw[rt_setR (by rw[z52];exact ok.cell) (h0 i hi),qc hne,z3h ok.cell (h0 i hi)]
 |link1 e=>exact⟨(z4m ..).trans (key_setU ..),.inr (.inl ⟨e,rfl⟩)⟩
 |link2 e=>exact⟨z5d ..,.inl ⟨by omega,by omega,fun i hi=>z3h ok.succ (h0 i hi)⟩⟩
 |lockN e hf=>exact⟨key_setK ..,.inl ⟨by omega,by omega,fun i hi=>rt_setK (rt_in hv ok.cell.1 ok.cell.2) (h0 i hi)⟩⟩
 |un0 e=>exact⟨key_setG ..,.inl ⟨by omega,by omega,fun i hi=>rt_setG ok.cell (h0 i hi)⟩⟩
 |un1 e=>exact⟨z4m ..,.inr (.inr ⟨e,rfl⟩)⟩
 |un2 e=>exact⟨z5d ..,.inl ⟨by omega,by omega,fun i hi=>z3h ok.next (h0 i hi)⟩⟩
 |_=>exact⟨.refl _,.inl ⟨by omega,by omega,fun _ _=>rfl⟩⟩
def kw_step {cs ds:List Cl}{p:Nat}{x y:Pr}(t:Tr cs p x ds y)(ha:z42 x=true):kw y<=kw x:=by
 have h18:=z5z.1 ha;unfold kw
 split
 ·rename_i g;rw[qe]
  ·omega
  refine⟨ha,?_⟩;have g1:=z5z.1 g.1;have g2:=g.2
  cases t<;>dsimp only at g1 g2<;>omega
 omega
def rst_step {cs ds:List Cl}{ps:List Pr}{l:List Int}{y:Pr}(h:Inv cs ps l){p:Nat}(hp:p<ps.length)(ha:z42 (pr ps p)=true)(t:Tr cs p (pr ps p) ds y)(hr:∀i,i∈0::l->rt ds i=rt cs i)(hk:z41 cs ds)(hy:z42 y=true):
  ((stl ds l y)=true->stl cs l (pr ps p)=true)/\(stl ds l y).toNat*(cs.length+5)+rst cs y+1<=(stl cs l (pr ps p)).toNat*(cs.length+5)+rst cs (pr ps p):=by
 have hP:=h.prc p hp ha;have ht:∀b:Bool,b.toNat<=1:=fun b=>by cases b<;>decide
 have key:((stl ds l y)=true->stl cs l (pr ps p)=true)->rst cs y+1<=rst cs (pr ps p)->((stl ds l y)=true->stl cs l (pr ps p)=true)/\(stl ds l y).toNat*(cs.length+5)+rst cs y+1<=(stl cs l (pr ps p)).toNat*(cs.length+5)+rst cs (pr ps p):=fun h1 h2=>by
  refine⟨h1,?_⟩
  have:(stl ds l y).toNat<=(stl cs l (pr ps p)).toNat:=by
   cases e:stl ds l y with
   |false=>exact ql _
   |true=>rw[h1 e];exact qd _
  have:=qT (cs.length+5) this;omega
 have late:∀z:Pr,6<=z.phase->stl ds l z=false:=fun z hz=>by
  unfold stl;rw[qc (by omega),qG (by omega),Qm]
 have same:∀n:Int,n<=4->(pr ps p).phase<=4->stl ds l {pr ps p with phase:=n}=true->stl cs l (pr ps p)=true:=fun n hn h4 he=>by
  rw[stl_same hr] at he;unfold stl at he ⊢;rw[qc (by omega),qB h4];rw[qc (by show n≠5;omega),qB (by show n<=4;omega)] at he;exact he
 generalize hx:pr ps p=x at*
 have hlt:∀z:Pr,6<=z.phase->y=z->rst cs y+1<=rst cs x->((stl ds l y)=true->stl cs l x=true)/\(stl ds l y).toNat*(cs.length+5)+rst cs y+1<=(stl cs l x).toNat*(cs.length+5)+rst cs x:=fun z hz e h2=>
  key (fun e2=>by rw[e,late z hz] at e2;cases e2) h2
 cases t with
 |adv e hl=>
  have hs1:=(z1s.1 hl).2.1
  have hsl:z1m cs x.succ (rt cs x.succ)=true:=by
   rcases hP.sT.2.2 with g|g
   ·exact absurd g hs1
   exact g
  have h3:=h.core.clo _ hP.sT hs1;refine key (fun he=> ?_) ?_
  ·cases hs:stl cs l x with
   |true=>rfl
   |false=>
    exfalso
    unfold stl at hs he;rw[qc (by omega),qB (by omega),qL,qr,qj,qm,qD] at hs;rw[qc (by show x.phase≠5;omega),qB (by show x.phase<=4;omega),qL] at he;have h1:x.pred≠1:=(z1s.1 hP.pl).2.1;have hm:=(h.core.next_mem hs.1 h1).1;rw[hs.2] at hm;simp at he;exact absurd (by simpa using qp (0:Int) hm) (by simpa using he)
  have h4:=meas_lt ⟨h3.1,h3.2.1⟩ hsl;unfold rst;rw[qe (show x.phase=1 from e),qe e]
  show meas cs (rt cs x.succ)+9+1<=_
  omega
 |seek e hl hk3=>exact key (same 4 (by omega) (by omega)) (by simp only[rst,e];simp)
 |aim e hl hk3=>exact key (same 2 (by omega) (by omega)) (by simp only[rst,e];simp)
 |lockP e hf=>exact key (same 3 (by omega) (by omega)) (by simp[rst,e])
 |lockS e hf=>exact key (same 4 (by omega) (by omega)) (by simp[rst,e])
 |found e hk3=>exact absurd rfl (z5z.1 hy).2
 |again e hk3 hb=>
  refine key (fun _=> ?_) (by simp[rst,e]);rw[<-hx];exact h.stale hp (by rw[hx];exact ha) (by rw[hx];exact e) (by rw[hx];exact hk3) (by rw[hx];exact hb)
 |ins e hk1 hb hs=>exact hlt _ (by show(6:Int)<=6;decide) rfl (by simp[rst,e])
 |rem e hk1 hb hs=>exact hlt _ (by show(6:Int)<=9;decide) rfl (by simp[rst,e])
 |no e hk1 hb h1 h2=>exact hlt _ (by show(6:Int)<=13;decide) rfl (by simp[rst,e])
 |retry e=>
  have h1:stl cs l x=true:=by unfold stl;rw[qe e]
  have h2:stl (unlk cs p) l {x with pred:=0,succ:=rt cs 0,phase:=1}=false:=by
   unfold stl;rw[qc (by show(1:Int)≠5;decide)];simp[rt_unlk]
  rw[h1,h2];refine⟨(fun e=>by cases e),?_⟩;have h3:rst cs {x with pred:=0,succ:=rt cs 0,phase:=1}=meas cs (rt cs 0)+9:=by unfold rst;rw[qe rfl]
  have h4:rst cs x=5:=by simp[rst,e]
  have:=meas_le cs (rt cs 0);rw[h3,h4];simp;omega
 |link0 e=>exact hlt _ (by show(6:Int)<=7;decide) rfl (by simp[rst,e])
 |link1 e=>exact hlt _ (by show(6:Int)<=8;decide) rfl (by simp[rst,e])
 |link2 e=>exact hlt _ (by show(6:Int)<=13;decide) rfl (by simp[rst,e])
 |lockN e hf=>exact hlt _ (by show(6:Int)<=10;decide) rfl (by simp[rst,e])
 |un0 e=>exact hlt _ (by show(6:Int)<=11;decide) rfl (by simp[rst,e])
 |un1 e=>exact hlt _ (by show(6:Int)<=12;decide) rfl (by simp[rst,e])
 |un2 e=>exact hlt _ (by show(6:Int)<=13;decide) rfl (by simp[rst,e])
 |rel e=>exact absurd rfl (z5z.1 hy).2
def phi_step {cs ds:List Cl}{ps:List Pr}{l l':List Int}{y:Pr}(h:Inv cs ps l){p:Nat}(hp:p<ps.length)(ha:z42 (pr ps p)=true)(t:Tr cs p (pr ps p) ds y)(h':Inv ds (ps.set p y) l'):phi ds (ps.set p y) l'+1<=phi cs ps l:=by
 obtain⟨hk,hr⟩:=h.rts hp ha t;have hset:=sumN_set (f:=kw) (y:=y) hp hp;have hlen:(ps.set p y).length=ps.length:=qy;have hkw:=kw_step t ha;have hrr:∀x,rst ds x=rst cs x:=fun x=>by unfold rst;rw[hk.meas]
 have hpos:=rst_pos cs (pr ps p);have ht:∀b:Bool,b.toNat<=1:=fun b=>by cases b<;>decide
 have hge:kw (pr ps p)<=sumN kw ps ps.length:=sumN_ge hp;unfold phi;rw[hlen]
 generalize hK:sumN kw ps ps.length=K at*
 generalize hK':sumN kw (ps.set p y) ps.length=K' at*
 have hge2:∀q,q<ps.length->q≠p->kw (pr ps q)<=K':=fun q hq hqp=>by
  have:=sumN_ge (f:=kw) (ps:=ps.set p y) hq;rw[hK',z2l (Qt hqp)] at this;exact this
 have oth:∀q,(K'-kw (pr ps q)+(stl ds l' (pr ps q)).toNat<=K-kw (pr ps q)+(stl cs l (pr ps q)).toNat)->phW ds l' K' (pr ps q)<=phW cs l K (pr ps q):=fun q hle=>by
  unfold phW
  split
  ·rw[hk.len,hrr];have:=qT (cs.length+5) hle;omega
  exact qd _
 refine sumN_lt hp (fun q hq hqp=> ?_) ?_
 ·rw[z2l (Qt hqp)];refine oth q ?_;rcases hr with⟨h7,h11,hr⟩|hr
  ·have e:l'=l:=Seg.det h'.core.seg (h.core.seg.frame hk fun x hx _=>hr x hx);subst e;rw[stl_same hr];omega
  have h1:=hge2 q hq hqp;have h2:=ht (stl ds l' (pr ps q))
  have h3:kw y=0:=by
   rcases hr with⟨_,e⟩|⟨e1,e⟩
   ·subst e;unfold kw;rw[qc];rintro⟨_,g⟩;dsimp only at g;have:=(h.prc p hp ha).i67 (by omega);omega
   subst e;unfold kw;rw[qc];rintro⟨_,g⟩;dsimp only at g;have:=(h.prc p hp ha).r9 (by omega);omega
  have h4:kw (pr ps p)=1:=by
   unfold kw;rw[qe];refine⟨ha,?_⟩;rcases hr with⟨e1,e⟩|⟨e1,e⟩
   ·have:=(h.prc p hp ha).i67 (by omega);omega
   have:=(h.prc p hp ha).r9 (by omega);omega
  omega
 rw[z3q hp]
 by_cases hy:z42 y=true
 ·have e1:phW ds l' K' y=(K'-kw y+(stl ds l' y).toNat)*(cs.length+5)+rst cs y:=by simp[phW,hy,hk.len,hrr]
  have e2:phW cs l K (pr ps p)=(K-kw (pr ps p)+(stl cs l (pr ps p)).toNat)*(cs.length+5)+rst cs (pr ps p):=by simp[phW,ha]
  have e3:K'-kw y=K-kw (pr ps p):=by omega
  rw[e1,e2,e3,qV,qV];rcases hr with⟨h7,h11,hr⟩|hr
  ·have e:l'=l:=Seg.det h'.core.seg (h.core.seg.frame hk fun x hx _=>hr x hx);subst e;have:=(rst_step h hp ha t hr hk hy).2;omega
  have h1:stl ds l' y=false:=by
   unfold stl;rcases hr with⟨_,e⟩|⟨_,e⟩<;>subst e<;>rfl
  have h2:rst cs y+1<=rst cs (pr ps p):=by
   rcases hr with⟨e1,e⟩|⟨e1,e⟩
   ·have yp:y.phase=8:=by rw[e]
    simp[rst,e1,yp]
   have yp:y.phase=12:=by rw[e]
   simp[rst,e1,yp]
  rw[h1];have:(false.toNat)*(cs.length+5)=0:=by simp
  omega
 have e1:phW ds l' K' y=0:=by simp[phW,hy]
 have e2:phW cs l K (pr ps p)=(K-kw (pr ps p)+(stl cs l (pr ps p)).toNat)*(cs.length+5)+rst cs (pr ps p):=by simp[phW,ha]
 rw[e1,e2];omega
def kw_act {ps:List Pr}:∀n,sumN kw ps n<=actN ps n
 |0=>qd _
 |n+1=>by
  have:=kw_act (ps:=ps) n;simp only[sumN,actN]
  have h2:kw (pr ps n)<=if z42 (pr ps n) then 1 else 0:=by
   unfold kw;split
   ·rename_i g;rw[qe g.1];exact qd _
   exact ql _
  omega
def not_stale {cs:List Cl}{l:List Int}{x:Pr}(h4:x.phase<=4)(h:stl cs l x=false):x.pred∈0::l/\rt cs x.pred=x.succ:=by
 unfold stl at h;rw[qc (by omega),qB h4,qL,qr,qj,qm,qD] at h;exact h
def Inv.gap_cell {cs:List Cl}{ps:List Pr}{l:List Int}(h:Inv cs ps l){p:Nat}(hp:p<ps.length)(ha:z42 (pr ps p)=true)(h4:(pr ps p).phase<=4)(hs:stl cs l (pr ps p)=false)(hl:z1m cs (pr ps p).succ (pr ps p).cell=false)(hne:(pr ps p).succ≠(pr ps p).cell):gn cs (pr ps p).cell=true:=by
 have hP:=h.prc p hp ha;have hO:=(z4g h.vb).proc p hp;obtain⟨hm,hr⟩:=not_stale h4 hs;have h3:=(dst_of h.vb).total hO.succ hO.cell hne hl;have hn:=h.core.gap hm hP.pl (by rw[hr];exact h3)
 cases hg:gn cs (pr ps p).cell with
 |true=>rfl
 |false=>exact absurd (qp _ (h.core.inl _ hP.c2 hO.cell.2 hg)) hn
structure Own (cs:List Cl) (x:Pr):Prop where
 k:x.kind=1\/x.kind=2
 i1:x.kind=1->x.phase<=7->gn cs x.cell=true
 i2:x.kind=1->7<x.phase->gn cs x.cell=false
 r1:x.kind=2->x.phase<=10->gn cs x.cell=false
 r2:x.kind=2->10<x.phase->gn cs x.cell=true
def Own.same {cs ds:List Cl}{x z:Pr}(h:Own cs x)(hk:z.kind=x.kind)(hc:z.cell=x.cell)(hg:gn ds x.cell=gn cs x.cell)(h1:x.kind=1->(z.phase<=7↔x.phase<=7))(h2:x.kind=2->(z.phase<=10↔x.phase<=10)):Own ds z:=by
 refine⟨by rw[hk];exact h.k,fun k p=> ?_,fun k p=> ?_,fun k p=> ?_,fun k p=> ?_⟩
 ·rw[hc,hg];rw[hk] at k;exact h.i1 k ((h1 k).1 p)
 ·rw[hc,hg];rw[hk] at k;exact h.i2 k (by have:=h1 k;omega)
 ·rw[hc,hg];rw[hk] at k;exact h.r1 k ((h2 k).1 p)
 rw[hc,hg];rw[hk] at k;exact h.r2 k (by have:=h2 k;omega)
def Inv.gap_cell' {cs:List Cl}{ps:List Pr}{l:List Int}(h:Inv cs ps l){p:Nat}(hp:p<ps.length)(ha:z42 (pr ps p)=true)(e:(pr ps p).phase=4)(f1:gn cs (pr ps p).pred=false)(f3:rt cs (pr ps p).pred=(pr ps p).succ)(hl:z1m cs (pr ps p).succ (pr ps p).cell=false)(hne:(pr ps p).succ≠(pr ps p).cell):gn cs (pr ps p).cell=true:=by
 have hO:=(z4g h.vb).proc p hp;have hm:=h.core.live hO.pred.1 hO.pred.2 f1;refine h.gap_cell hp ha (by omega) ?_ hl hne;unfold stl;rw[qc (by omega),qB (by omega),qB hm,f3];simp
def Tr.kind' {cs ds:List Cl}{p:Nat}{x y:Pr}(t:Tr cs p x ds y):y.kind=x.kind/\y.cell=x.cell/\y.phase≠0:=by
 cases t<;>refine⟨rfl,rfl,?_⟩<;>dsimp only<;>omega
def Own.step {cs ds:List Cl}{ps:List Pr}{l:List Int}{y:Pr}(h:Inv cs ps l){p:Nat}(hp:p<ps.length)(ha:z42 (pr ps p)=true)(t:Tr cs p (pr ps p) ds y)(ho:Own cs (pr ps p)):Own ds y:=by
 have hm:=(h.marks hp ha t).2;have hP:=h.prc p hp ha;have hO:=(z4g h.vb).proc p hp;have hgap:=h.gap_cell' hp ha
 generalize pr ps p=x at*
 have k3:x.kind≠3:=by have:=ho.k;omega
 have c0:(0:Int)<=x.cell:=hO.cell.1
 have hgq:x.phase≠7->x.phase≠10->gn ds x.cell=gn cs x.cell:=fun h7 h10=>by
  rcases hm with a|a|a
  ·exact a.1 _ c0
  ·exact absurd a.1 h7
  exact absurd a.1 h10
 cases t with
 |adv e hl=>exact ho.same rfl rfl rfl (fun _=>QK) (fun _=>QK)
 |seek e hl hk=>exact absurd hk k3
 |aim e hl hk=>exact ho.same rfl rfl rfl (fun _=>by dsimp only;omega) (fun _=>by dsimp only;omega)
 |lockP e hf=>exact ho.same rfl rfl (hgq (by omega) (by omega)) (fun _=>by dsimp only;omega) (fun _=>by dsimp only;omega)
 |lockS e hf=>exact ho.same rfl rfl (hgq (by omega) (by omega)) (fun _=>by dsimp only;omega) (fun _=>by dsimp only;omega)
 |found e hk=>exact absurd hk k3
 |again e hk hb=>exact ho.same rfl rfl rfl (fun _=>by dsimp only;omega) (fun _=>by dsimp only;omega)
 |ins e hk hb hs=>exact ho.same rfl rfl rfl (fun _=>by dsimp only;omega) (fun k=>by omega)
 |rem e hk hb hs=>exact ho.same rfl rfl rfl (fun k=>by omega) (fun _=>by dsimp only;omega)
 |no e hk hb h1 h2=>
  exfalso
  obtain⟨f1,f2,f3⟩:=fail_iff.1 hb;rcases ho.k with k|k
  ·have:=ho.i1 k (by omega);rw[<-h1 k,f2] at this;cases this
  have g1:=ho.r1 k (by omega);have g2:=hgap e f1 f3 (hP.ge (by omega)) (h2 k);rw[g1] at g2;cases g2
 |retry e=>exact ho.same rfl rfl (hgq (by omega) (by omega)) (fun _=>by dsimp only;omega) (fun _=>by dsimp only;omega)
 |link0 e=>exact ho.same rfl rfl (hgq (by omega) (by omega)) (fun _=>by dsimp only;omega) (fun _=>by dsimp only;omega)
 |link1 e=>
  have k1:=(hP.i67 (.inr e)).1;rcases hm with a|a|a
  ·exact absurd e a.2.1
  ·have:=a.2.2.2.2 _ c0;rw[qe rfl] at this;refine⟨.inl k1,fun _ g=> ?_,fun _ _=>this,fun k=> ?_,fun k=> ?_⟩
   ·dsimp only at g;omega
   ·dsimp only at k;omega
   dsimp only at k;omega
  omega
 |link2 e=>
  have k1:=(hP.i8 e).1;exact ho.same rfl rfl (hgq (by omega) (by omega)) (fun _=>by dsimp only;omega) (fun k=>by omega)
 |lockN e hf=>exact ho.same rfl rfl (hgq (by omega) (by omega)) (fun k=>by have:=(hP.r9 (.inl e)).1;omega) (fun _=>by dsimp only;omega)
 |un0 e=>
  have k2:=(hP.r9 (.inr (.inl e))).1;rcases hm with a|a|a
  ·exact absurd e a.2.2.1
  ·omega
  have:=a.2.2.2.2 _ c0;rw[qe rfl] at this;refine⟨.inr k2,fun k=> ?_,fun k=> ?_,fun _ g=> ?_,fun _ _=>this⟩
  ·dsimp only at k;omega
  ·dsimp only at k;omega
  dsimp only at g;omega
 |un1 e=>exact ho.same rfl rfl (hgq (by omega) (by omega)) (fun _=>by dsimp only;omega) (fun _=>by dsimp only;omega)
 |un2 e=>exact ho.same rfl rfl (hgq (by omega) (by omega)) (fun _=>by dsimp only;omega) (fun _=>by dsimp only;omega)
 |rel e=>exact ho.same rfl rfl (hgq (by omega) (by omega)) (fun _=>by dsimp only;omega) (fun _=>by dsimp only;omega)
def Inv.off {cs ds:List Cl}{ps:List Pr}{l:List Int}{y:Pr}(h:Inv cs ps l){p:Nat}(hp:p<ps.length)(ha:z42 (pr ps p)=true)(t:Tr cs p (pr ps p) ds y){i:Int}(hi:0<=i)(hne:i≠(pr ps p).cell):gn ds i=gn cs i:=by
 rcases(h.marks hp ha t).2 with a|a|a
 ·exact a.1 i hi
 ·rw[a.2.2.2.2 i hi,qc hne]
 rw[a.2.2.2.2 i hi,qc hne]
def Own.off {cs ds:List Cl}{x:Pr}(h:Own cs x)(hg:gn ds x.cell=gn cs x.cell):Own ds x:=h.same rfl rfl hg (fun _=>QK) (fun _=>QK)
def Own.start {cs:List Cl}{k c s:Int}(h:k=1\/k=2)(hg:gn cs c=(k==1)):Own cs ⟨k,c,1,0,s,0,false⟩:=by
 refine⟨h,fun e _=> ?_,fun _ g=> ?_,fun e _=> ?_,fun _ g=> ?_⟩
 ·dsimp only at e ⊢;rw[hg,e];rfl
 ·dsimp only at g;omega
 ·dsimp only at e ⊢;rw[hg,e];rfl
 dsimp only at g;omega
def phiE (cs:List Cl)(ps:List Pr)(l:List Int)(e:Nat):Nat:=phi cs ps l+e*actN ps ps.length*(cs.length+5)
def actN_set_le {ps:List Pr}{p:Nat}{y:Pr}(hp:p<ps.length)(ha:z42 (pr ps p)=true):∀n,actN (ps.set p y) n<=actN ps n
 |0=>qd _
 |n+1=>by
  have ih:=actN_set_le (y:=y) hp ha n;simp only[actN]
  by_cases e:p=n
  ·subst e;rw[ha,qe rfl]
   split<;>omega
  rw[z2l e];omega
def actN_start {ps:List Pr}{p:Nat}{y:Pr}(hp:p<ps.length)(ha:z42 (pr ps p)=false)(hy:z42 y=true):∀n,actN (ps.set p y) n=actN ps n+if p<n then 1 else 0
 |0=>rfl
 |n+1=>by
  have ih:=actN_start hp ha hy n;simp only[actN]
  by_cases e:p=n
  ·subst e;rw[ha,z3q hp,hy,ih,qc (jL _),qe (Qp _)];simp
  rw[z2l e,ih]
  by_cases g:p<n
  ·rw[qe g,qe (show p<n+1 by omega)];omega
  rw[qc g,qc (show¬p<n+1 by omega)];omega
def phiE_step {cs ds:List Cl}{ps:List Pr}{l l':List Int}{y:Pr}(h:Inv cs ps l){p:Nat}(hp:p<ps.length)(ha:z42 (pr ps p)=true)(t:Tr cs p (pr ps p) ds y)(h':Inv ds (ps.set p y) l')(e:Nat):phiE ds (ps.set p y) l' e+1<=phiE cs ps l e:=by
 have h1:=phi_step h hp ha t h';have h2:ds.length=cs.length:=(h.marks hp ha t).1.len;have h3:=actN_set_le (y:=y) hp ha ps.length;unfold phiE;rw[h2,qy];have:=qT (cs.length+5) (Jj e h3);omega
def kw_start {ps:List Pr}{p:Nat}{y:Pr}(hp:p<ps.length)(ha:z42 (pr ps p)=false):∀n,sumN kw (ps.set p y) n=sumN kw ps n+if p<n then kw y else 0
 |0=>rfl
 |n+1=>by
  have ih:=kw_start (y:=y) hp ha n;simp only[sumN]
  by_cases e:p=n
  ·subst e;have:kw (pr ps p)=0:=by unfold kw;rw[qc (fun g=>by rw[ha] at g;cases g.1)]
   rw[z3q hp,this,ih,qc (jL _),qe (Qp _)]
  rw[z2l e,ih]
  by_cases g:p<n
  ·rw[qe g,qe (show p<n+1 by omega)];omega
  rw[qc g,qc (show¬p<n+1 by omega)];omega
def phiE_start {cs:List Cl}{ps:List Pr}{l:List Int}(h:Inv cs ps l){p:Nat}(hp:p<ps.length)(ha:z42 (pr ps p)=false){k c:Int}(hk:k=1\/k=2)(e:Nat):
  phiE cs (ps.set p ⟨k,c,1,0,(cl cs 0).right,0,false⟩) l e<=phiE cs ps l (e+1)+(actN ps ps.length+e)*(cs.length+5)+cs.length+9:=by
 obtain⟨y,hy⟩:∃y:Pr,y=⟨k,c,1,0,(cl cs 0).right,0,false⟩:=⟨_,rfl⟩;rw[<-hy];have hya:z42 y=true:=by subst hy;rfl
 have hyk:kw y=1:=by
  unfold kw;rw[qe];subst hy;refine⟨rfl,?_⟩;dsimp only;omega
 have hys:stl cs l y=false:=by
  subst hy;unfold stl;rw[qc (show¬(1:Int)=5 by decide)];simp[rt]
 have hK:=kw_start (y:=y) hp ha ps.length;have hA:=actN_start hp ha hya ps.length;rw[qe hp,hyk] at hK;rw[qe hp] at hA;unfold phiE phi;rw[qy,hK,hA]
 generalize hL:cs.length+5=L at*
 have hka:=kw_act (ps:=ps) ps.length
 generalize sumN kw ps ps.length=K at*
 have each:∀n,n<=ps.length->sumN (phW cs l (K+1)) (ps.set p y) n<=sumN (phW cs l K) ps n+actN ps n*L+if p<n then K*L+cs.length+9 else 0:=fun n=>by
  induction n with
  |zero=>intro _;simp[sumN,actN]
  |succ n ih=>
   intro hn;have ih:=ih (by omega);simp only[sumN,actN]
   by_cases g:p=n
   ·subst g
    have h1:phW cs l (K+1) y=K*L+rst cs y:=by
     unfold phW;rw[qe hya,hyk,hys,hL,Nat.add_sub_cancel];rfl
    have h2:=rst_le cs y;rw[qc (jL _)] at ih;rw[z3q hp,h1,qe (Qp _),ha];simp only[qz,Ql,ja];omega
   rw[z2l g]
   have h1:phW cs l (K+1) (pr ps n)<=phW cs l K (pr ps n)+(if z42 (pr ps n) then 1 else 0)*L:=by
    unfold phW
    split
    ·rw[hL,ju];have:=qT L (show K+1-kw (pr ps n)+(stl cs l (pr ps n)).toNat<=(K-kw (pr ps n)+(stl cs l (pr ps n)).toNat)+1 by omega);rw[qV _ 1,ju] at this;omega
    simp
   rw[qV (actN ps n)]
   by_cases g2:p<n
   ·rw[qe g2] at ih;rw[qe (show p<n+1 by omega)];omega
   rw[qc g2] at ih;rw[qc (show¬p<n+1 by omega)];omega
 have h1:=each ps.length (qd _);rw[qe hp] at h1
 generalize actN ps ps.length=A at*
 have e1:e*(A+1)*L=e*A*L+e*L:=by rw[Nat.mul_add,qV,JO]
 have e2:(e+1)*A*L=e*A*L+A*L:=by rw[qV e 1,qV,ju]
 have e3:(A+e)*L=A*L+e*L:=qV ..;have e4:K*L<=A*L:=qT _ hka;rw[e1,e2,e3];omega
end Go.Proofs
