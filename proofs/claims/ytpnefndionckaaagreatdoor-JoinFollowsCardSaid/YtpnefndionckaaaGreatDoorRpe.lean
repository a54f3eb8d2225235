/-
  Walks and plain facts, joined: part 5 of 18.
  Conditions: those that each statement names.
-/
import Derived.Test.YtpnefndionckaaaGreatDoorRpd
import Derived.Test.YtpnefndionckaaaGreatDoorRpc
set_option linter.unusedSimpArgs false
set_option linter.unusedVariables false
set_option linter.defProp false
set_option maxRecDepth 4000
set_option maxHeartbeats 8000000
namespace Go.Proofs
open Tryz
open Go.Sk
def LlEm.sdE {a:Prop}(h:a:=by first|exact D0.sdE|(intro hq;simp_all only[qt,qj,qk,qC,qn,qr,qm,qg,qD,qH,Qi,ne_eq,QB,QA,qO,qF];omega)|(intro hq;simp_all;done)):a:=h
open LlBm (gxE oxE exE)
open LlCm (axE)
open LlEm (sdE)
def cells_spec (cs:List Cl)(ps:List Pr)(n m:Nat)(hn:cs.length=n)(hm:ps.length=m)(hx:n<=9223372036854775807)(hy:m<=9223372036854775807):
  zj prog 136 [.agg [.slc false 0 0 0 n,.slc false 1 0 0 m]] ⟨2,[(0,z4l cs),(1,z5b ps)]⟩ (fun s H1=>s= .bool (cellsK cs ps)/\H1=⟨2,[]⟩):=by
 subst hn hm;refine Zf false 144 [.tmp 2] func136 ntmps136 results136 fun w0 own0 β0 Q hQ hQn=> ?_;refine Zrs [1] ?_;refine Zrs [1,3] (z6 ?_);refine sg [1,3,44] rfl ?_;intro K hK;iterate 6 (refine Zo Zl ?_)
 refine z5a ?_;intro b16 hb16;refine Zad ?_;iterate 6 (refine Zo Zl ?_)
 refine z5a ?_;intro b22 hb22;refine Zad ?_;iterate 6 (refine Zo Zl ?_)
 refine z5a ?_;intro b28 hb28;refine Zad ?_;iterate 8 (refine Zo Zl ?_)
 refine z5a ?_;intro b36 hb36;refine Zad ?_;iterate 8 (refine Zo Zl ?_)
 refine z5a ?_;intro b44 hb44;refine Zad ?_;refine zr ?_;refine Zpr ?_;subst hb16 hb22 hb28 hb36 hb44;refine hK _ _ ?_;clear hK K;refine Zcm ?_ ?_
 ·intro h44;have hh:headBad cs ps=true:=h44;refine Zrs [2] (zb (hQ _ _ ?_));refine Zob ⟨2,[]⟩ ?_;rw[cellsK,hh]
  first|trivial|exact⟨rfl,trivial⟩
 intro h44;have hh:headBad cs ps=false:=h44;replace h44:=Znb h44;refine z7 (z6 (Zrs [1,3,46,47,48] ?_));refine z8 fun Q0 hN0 hX0 hR0 hE0=> ?_;refine zl (σ:=Nat) (fun i=>i<=cs.length/\∀q,q<i->(badK cs.length ps.length (cl cs q)||dupC cs q)=false) (fun i=>cs.length-i) (fun i=>[(1,.ptr 2 0 0 0),(3,.int .i64 cs.length),(46,.slc false 0 0 0 cs.length),(47,.int .i64 cs.length),(48,.int .i64 i)]) (fun _=>⟨3,[(2,z43 0 cs.length 1 ps.length),(0,z4l cs),(1,z5b ps)]⟩) 0 ⟨ql _,fun q h=>by omega⟩ (ρ:=id) (Zg id) ?_;rintro i hi QL1 hL1 hRL1 hEL1;refine Zrs [1,3,46,47,48,49] (z6 ?_);refine Zcn ?_ ?_
 ·intro h49;obtain⟨hi1,hi2⟩:=hi;have hil:i<cs.length:=by omega
  refine z7 (z6 ?_);refine z8 fun Q1 hN1 hX1 hR1 hE1=> ?_;refine Zrs [1,3,4,5,46,47,48] (z6 ?_);refine sg [1,3,4,5,46,47,48,91] rfl ?_;intro K hK
  have hk7:∀B:Bool,B=badK cs.length ps.length (cl cs i)->K [(1,.ptr 2 0 0 0),(3,.int .i64 cs.length),(4,.int .i64 i),(5,.ptr 3 0 0 0),(46,.slc false 0 0 0 cs.length),(47,.int .i64 cs.length),(48,.int .i64 i),(91,.bool B)] ⟨4,[(3,rV 117 5 1 (fun _=>(cl cs i).sv)),(2,z43 0 cs.length 1 ps.length),(0,z4l cs),(1,z5b ps)]⟩:=by
   intro B hB;subst hB;refine hK _ _ ?_;clear hK K;refine Zcm ?_ ?_
   ·intro h91;refine Zrs [2] (zb (hR1 _ _ (hRL1 _ _ (hR0 _ _ (hQ _ _ ?_)))));refine Zob ⟨2,[]⟩ ?_;rw[cellsK,z1r (p:=fun i=>badK cs.length ps.length (cl cs i)||dupC cs i) hil (by show(badK cs.length ps.length (cl cs i)||dupC cs i)=true;rw[h91];rfl)];rw[qS,Qq,Qm]
    first|trivial|exact⟨rfl,trivial⟩
   intro h91;refine z7 (sg [1,3,46,47,48,101] rfl ?_);intro K hK
   have hk9:∀B:Bool,B=dupC cs i->K [(1,.ptr 2 0 0 0),(3,.int .i64 cs.length),(46,.slc false 0 0 0 cs.length),(47,.int .i64 cs.length),(48,.int .i64 i),(101,.bool B)] ⟨4,[(3,rV 117 5 1 (fun _=>(cl cs i).sv)),(2,z43 0 cs.length 1 ps.length),(0,z4l cs),(1,z5b ps)]⟩:=by
    intro B hB;subst hB;refine hK _ _ ?_;clear hK K;refine Zcm ?_ ?_
    ·intro h101;refine Zrs [2] (zb (hR1 _ _ (hRL1 _ _ (hR0 _ _ (hQ _ _ ?_)))));refine Zob ⟨2,[]⟩ ?_;rw[cellsK,z1r (p:=fun i=>badK cs.length ps.length (cl cs i)||dupC cs i) hil (by show(badK cs.length ps.length (cl cs i)||dupC cs i)=true;rw[h101,JF])];rw[qS,Qq,Qm]
     first|trivial|exact⟨rfl,trivial⟩
    intro h101;refine z7 (za (hN1 _ _ (Zrg [1,3,46,47,48] (za (hL1 _ _ ?_)))));rw[iS i];refine⟨i+1,⟨⟨by omega,fun q hq=> ?_⟩,by omega⟩,id,(Zg id)⟩
    by_cases e:q=i
    ·subst e;rw[h91,h101];rfl
    exact hi2 q (by omega)
   iterate 8 (refine Zo Zl ?_)
   refine z13 ?_;refine z1b rfl rfl ?_;refine Zgr ?_
   first|refine z15 ?_ ?_|refine(fun(h1:false=true->_) (h2:false=false->_)=>qi h1 fun _=>h2 rfl) ?_ ?_|refine qi ?_ ?_
   ·intro hg8
    first
     |(simp at hg8;done)
     |skip
      try replace hg8:=Znb hg8
      refine Zo id ?_;refine Zc1 (clContains_spec (cl cs i) cs cs.length 2 (i-2) rfl (by omega) (by omega)) (fun q=>if q=0 then 0 else 3) ?_;refine Zo Zl ?_
      try with_reducible refine qi (by clear hk9 hi2;simp_all;done) ?_
      refine Zad ?_;refine zr ?_;refine Zpr ?_;refine hk9 _ ?_;clear hk9 hi2
      first|(simp_all[dupC];done)|(simp_all[dupC];rfl)|(simp_all[dupC];omega)
   intro hg8;refine⟨.bool false,?_⟩
   first
    |(simp at hg8;done)
    |skip
     try replace hg8:=Znb hg8
     refine Zo Zl ?_
     try with_reducible refine qi (by clear hk9 hi2;simp_all;done) ?_
     refine Zad ?_;refine zr ?_;refine Zpr ?_;refine hk9 _ ?_;clear hk9 hi2
     first|(simp_all[dupC];done)|(simp_all[dupC];rfl)|(simp_all[dupC];omega)
  iterate 9 (refine Zo Zl ?_)
  refine z5a ?_;intro b61 hb61;refine Zad ?_;iterate 5 (refine Zo Zl ?_)
  refine z5a ?_;intro b66 hb66;refine Zad ?_;iterate 6 (refine Zo Zl ?_)
  refine z5a ?_;intro b72 hb72;refine Zad ?_;iterate 5 (refine Zo Zl ?_)
  refine z5a ?_;intro b77 hb77;refine Zad ?_;iterate 8 (refine Zo Zl ?_)
  refine z5a ?_;intro b85 hb85;refine Zad ?_;iterate 3 (refine Zo Zl ?_)
  refine z13 ?_;refine z1b rfl rfl ?_;refine Zgr ?_
  first|refine z15 ?_ ?_|refine(fun(h1:false=true->_) (h2:false=false->_)=>qi h1 fun _=>h2 rfl) ?_ ?_|refine qi ?_ ?_
  ·intro hg36
   first
    |(simp at hg36;done)
    |skip
     try replace hg36:=Znb hg36
     refine Zo id ?_;refine Zc1 (validKey_spec (cl cs i).key) (id) ?_;iterate 2 (refine Zo Zl ?_)
     try with_reducible refine qi (by clear hk7 hi2;simp_all;done) ?_
     refine z5a ?_;intro b91 hb91;refine Zad ?_;refine zr ?_;refine Zpr ?_;subst hb61 hb66 hb72 hb77 hb85 hb91;refine hk7 _ ?_;clear hk7 hi2
     first|(simp_all[badK];done)|(simp_all[badK];rfl)
  intro hg36;refine⟨.bool false,?_⟩
  first
   |(simp at hg36;done)
   |skip
    try replace hg36:=Znb hg36
    iterate 2 (refine Zo Zl ?_)
    try with_reducible refine qi (by clear hk7 hi2;simp_all;done) ?_
    refine z5a ?_;intro b91 hb91;refine Zad ?_;refine zr ?_;refine Zpr ?_;subst hb61 hb66 hb72 hb77 hb85 hb91;refine hk7 _ ?_;clear hk7 hi2
    first|(simp_all[badK];done)|(simp_all[badK];rfl)
 intro h49;obtain⟨hi1,hi2⟩:=hi;have hall:z2a cs.length (fun i=>badK cs.length ps.length (cl cs i)||dupC cs i)=false:=z1l fun q hq=>hi2 q (by omega);refine zk (hEL1 _ _ _ (hX0 _ _ (z6 (Zrs [3,104,105,106] ?_))));refine z8 fun Q2 hN2 hX2 hR2 hE2=> ?_;refine zl (σ:=Nat) (fun i=>i<=ps.length/\∀q,q<i->badQ cs.length (pr ps q)=false) (fun i=>ps.length-i) (fun i=>[(3,.int .i64 cs.length),(104,.slc false 1 0 0 ps.length),(105,.int .i64 ps.length),(106,.int .i64 i)]) (fun _=>⟨3,[(2,z43 0 cs.length 1 ps.length),(0,z4l cs),(1,z5b ps)]⟩) 0 ⟨ql _,fun q h=>by omega⟩ (ρ:=id) (Zg id) ?_;rintro j hj QL2 hL2 hRL2 hEL2;refine Zrs [3,104,105,106,107] (z6 ?_);refine Zcn ?_ ?_
 ·intro h107;obtain⟨hj1,hj2⟩:=hj;have hjl:j<ps.length:=by omega
  refine z7 (z6 ?_);refine z8 fun Q3 hN3 hX3 hR3 hE3=> ?_;refine Zrs [3,7,104,105,106] ?_;refine sg [3,104,105,106,142] rfl ?_;intro K hK
  have hk15:∀B:Bool,B=badQ cs.length (pr ps j)->K [(3,.int .i64 cs.length),(104,.slc false 1 0 0 ps.length),(105,.int .i64 ps.length),(106,.int .i64 j),(142,.bool B)] ⟨4,[(3,rV 110 7 1 (fun _=>(pr ps j).sv)),(2,z43 0 cs.length 1 ps.length),(0,z4l cs),(1,z5b ps)]⟩:=by
   intro B hB;subst hB;refine hK _ _ ?_;clear hK K;refine Zcm ?_ ?_
   ·intro h142;refine Zrs [2] (zb (hR3 _ _ (hRL2 _ _ (hR2 _ _ (hQ _ _ ?_)))));refine Zob ⟨2,[]⟩ ?_;rw[cellsK,z1r (p:=fun i=>badQ cs.length (pr ps i)) hjl h142];rw[qS,Qq]
    first|trivial|exact⟨rfl,trivial⟩
   intro h142;refine z7 (za (hN3 _ _ (Zrg [3,104,105,106] (za (hL2 _ _ ?_)))));rw[iS j];refine⟨j+1,⟨⟨by omega,fun q hq=> ?_⟩,by omega⟩,id,(Zg id)⟩
   by_cases e:q=j
   ·subst e;exact h142
   exact hj2 q (by omega)
  iterate 10 (refine Zo Zl ?_)
  refine z5a ?_;intro b119 hb119;refine Zad ?_;iterate 9 (refine Zo Zl ?_)
  refine z13 (stp_max4 (G:= !b119) rfl rfl rfl (grd_var _ rfl rfl rfl (by cases b119<;>rfl)) rfl rfl rfl rfl ?_);intro mx hmx;iterate 3 (refine Zo Zl ?_)
  refine z5a ?_;intro b132 hb132;refine Zad ?_;iterate 5 (refine Zo Zl ?_)
  refine z5a ?_;intro b137 hb137;refine Zad ?_;iterate 5 (refine Zo Zl ?_)
  refine z5a ?_;intro b142 hb142;refine Zad ?_;refine zr ?_;refine Zpr ?_;subst hmx hb119 hb132 hb137 hb142;refine hk15 _ ?_;clear hk15 hi2 hj2 hall
  first|(simp_all[badQ];done)|(simp_all[badQ];rfl)
 intro h107;obtain⟨hj1,hj2⟩:=hj;refine zk (hEL2 _ _ _ (hX2 _ _ (Zrs [2] (zb (hQ _ _ ?_)))));refine Zob ⟨2,[]⟩ ?_;rw[cellsK,hh,hall,z1l fun q hq=>hj2 q (by omega)]
 first|trivial|exact⟨rfl,trivial⟩
def valid_specK (cs:List Cl)(ps:List Pr)(n m:Nat)(hn:cs.length=n)(hm:ps.length=m)(hx:n<=9223372036854775807)(hy:m<=9223372036854775807):
  zj prog 96 [.agg [.slc false 0 0 0 n,.slc false 1 0 0 m]] ⟨2,[(0,z4l cs),(1,z5b ps)]⟩ (fun s H1=>s= .bool (z1y cs ps)/\H1=⟨2,[]⟩):=by
 subst hn hm;refine Zf false 28 [.tmp 2] func96 ntmps96 results96 fun w0 own0 β0 Q hQ hQn=> ?_;refine Zrs [1] (z6 ?_);refine Zrs [1,6,7,8] ?_;refine z8 fun Q0 hN0 hX0 hR0 hE0=> ?_;refine zl (σ:=Nat) (fun i=>i<=ps.length/\∀q,q<i->badH (pr ps q)=false) (fun i=>ps.length-i) (fun i=>[(1,.ptr 2 0 0 0),(6,.slc false 1 0 0 ps.length),(7,.int .i64 ps.length),(8,.int .i64 i)]) (fun _=>⟨3,[(2,z43 0 cs.length 1 ps.length),(0,z4l cs),(1,z5b ps)]⟩) 0 ⟨ql _,fun q h=>by omega⟩ (ρ:=id) (Zg id) ?_;rintro j hj QL1 hL1 hRL1 hEL1;refine Zrs [1,6,7,8,9] (z6 ?_);refine Zcn ?_ ?_
 ·intro h9;obtain⟨hj1,hj2⟩:=hj;have hjl:j<ps.length:=by omega
  refine z7 (z6 ?_);refine z8 fun Q1 hN1 hX1 hR1 hE1=> ?_;refine Zrs [1,4,6,7,8] ?_;refine sg [1,6,7,8,24] rfl ?_;intro K hK
  have hk4:∀B:Bool,B=badH (pr ps j)->K [(1,.ptr 2 0 0 0),(6,.slc false 1 0 0 ps.length),(7,.int .i64 ps.length),(8,.int .i64 j),(24,.bool B)] ⟨4,[(3,rV 110 7 1 (fun _=>(pr ps j).sv)),(2,z43 0 cs.length 1 ps.length),(0,z4l cs),(1,z5b ps)]⟩:=by
   intro B hB;subst hB;refine hK _ _ ?_;clear hK K;refine Zcm ?_ ?_
   ·intro h24;refine Zrs [2] (zb (hR1 _ _ (hRL1 _ _ (hR0 _ _ (hQ _ _ ?_)))));refine Zob ⟨2,[]⟩ ?_;rw[z1y,z1r (p:=fun i=>badH (pr ps i)) hjl h24]
    first|trivial|exact⟨rfl,trivial⟩
   intro h24;refine z7 (za (hN1 _ _ (Zrg [1,6,7,8] (za (hL1 _ _ ?_)))));rw[iS j];refine⟨j+1,⟨⟨by omega,fun q hq=> ?_⟩,by omega⟩,id,(Zg id)⟩
   by_cases e:q=j
   ·subst e;exact h24
   exact hj2 q (by omega)
  iterate 2 (refine Zo Zl ?_)
  refine Zd Zl (known_spec (pr ps j).phase) (id) ?_;iterate 9 (refine Zo Zl ?_)
  try with_reducible refine qi (by clear hk4 hj2;simp_all;done) ?_
  refine Zad ?_;refine Zo Zl ?_
  try with_reducible refine qi (by clear hk4 hj2;simp_all;done) ?_
  refine Zad ?_;refine zr ?_;refine Zpr ?_;refine hk4 _ ?_;clear hk4 hj2
  first|(simp_all[badH];done)|(simp_all[badH];rfl)
 intro h9;obtain⟨hj1,hj2⟩:=hj;have hall:z2a ps.length (fun i=>badH (pr ps i))=false:=z1l fun q hq=>hj2 q (by omega);refine zk (hEL1 _ _ _ (hX0 _ _ (sg [2] rfl ?_)));intro K hK;refine Zo Zl ?_;refine Zd Zl (cells_spec cs ps cs.length ps.length rfl rfl hx hy) (id) ?_;refine Zkl hK ?_;clear hK K;refine zb (hQ _ _ ?_);refine Zob ⟨2,[]⟩ ?_;rw[z1y,hall]
 first|trivial|exact⟨rfl,trivial⟩
end Go.Proofs
