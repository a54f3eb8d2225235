/-
  Walks and plain facts, joined: part 6 of 18.
  Conditions: those that each statement names.
-/
import Derived.Test.YtpnefndionckaaaGreatDoorRpe
import Derived.Test.YtpnefndionckaaaGreatDoorRpc
set_option linter.unusedSimpArgs false
set_option linter.unusedVariables false
set_option linter.defProp false
set_option maxRecDepth 4000
set_option maxHeartbeats 8000000
namespace Go.Proofs
open Tryz
open Go.Sk
section
def badS (n:Int)(c:Cl):Bool:= !idxOk c.left n|| !idxOk c.right n|| !okKey c.key
def dupS (cs:List Cl)(i:Nat):Bool:=z2a (i-2) fun k=>sEq (cl cs i).key (cl cs (2+k)).key
def badPS (n:Int)(x:Pr):Bool:= !idxOk x.cell n|| !idxOk x.pred n|| !idxOk x.succ n|| !idxOk x.next n||decide (x.kind<0)||decide (3<x.kind)||((x.kind==0) !=(x.phase==0))
def shapedL (cs:List Cl)(ps:List Pr):Bool:= !headBad cs ps && !z2a cs.length (fun i=>badS cs.length (cl cs i)||dupS cs i) && !z2a ps.length (fun i=>badPS cs.length (pr ps i))
def z1f {p:Prop}(h:p:=by intro hq;first|cases hq.symm.trans hg9|cases hq.symm.trans hg15|cases hq.symm.trans hg16|cases hq.symm.trans hg23):p:=h
open LlBm (gxE oxE exE)
open LlCm (axE)
open D0 (sdE)
def shaped_spec (cs:List Cl)(ps:List Pr)(n m:Nat)(hn:cs.length=n)(hm:ps.length=m)(hx:n<=9223372036854775807)(hy:m<=9223372036854775807):
  zj prog 141 [.agg [.slc false 0 0 0 n,.slc false 1 0 0 m]] ⟨2,[(0,z4l cs),(1,z5b ps)]⟩ (fun s H1=>s= .bool (shapedL cs ps)/\H1=⟨2,[]⟩):=by
 subst hn hm;refine Zf false 145 [.tmp 2] func141 ntmps141 results141 fun w0 own0 β0 Q hQ hQn=> ?_;refine Zrs [1] ?_;refine Zrs [1,3] (z6 ?_);refine sg [1,3,45] rfl ?_;intro K hK;iterate 6 (refine Zo Zl ?_)
 refine z5a ?_;intro b17 hb17;refine Zad ?_;iterate 6 (refine Zo Zl ?_)
 refine z5a ?_;intro b23 hb23;refine Zad ?_;iterate 6 (refine Zo Zl ?_)
 refine z5a ?_;intro b29 hb29;refine Zad ?_;iterate 4 (refine Zo Zl ?_)
 try with_reducible refine qi (by intro hq;simp_all only[qt,qj,qk,qC,qn,qr,qm,qg,qD,qH,Qi,ne_eq,QB,QA,qO,qF];omega) ?_
 refine Zad ?_;refine Zo Zl ?_
 try with_reducible refine qi (by intro hq;simp_all only[qt,qj,qk,qC,qn,qr,qm,qg,qD,qH,Qi,ne_eq,QB,QA,qO,qF];omega) ?_
 refine Zad ?_;refine Zo Zl ?_
 try with_reducible refine qi (by intro hq;simp_all only[qt,qj,qk,qC,qn,qr,qm,qg,qD,qH,Qi,ne_eq,QB,QA,qO,qF];omega) ?_
 refine Zad ?_;iterate 2 (refine Zo Zl ?_)
 refine z5a ?_;intro b37 hb37;refine Zad ?_;iterate 4 (refine Zo Zl ?_)
 try with_reducible refine qi (by intro hq;simp_all only[qt,qj,qk,qC,qn,qr,qm,qg,qD,qH,Qi,ne_eq,QB,QA,qO,qF];omega) ?_
 refine Zad ?_;refine Zo Zl ?_
 try with_reducible refine qi (by intro hq;simp_all only[qt,qj,qk,qC,qn,qr,qm,qg,qD,qH,Qi,ne_eq,QB,QA,qO,qF];omega) ?_
 refine Zad ?_;refine Zo Zl ?_
 try with_reducible refine qi (by intro hq;simp_all only[qt,qj,qk,qC,qn,qr,qm,qg,qD,qH,Qi,ne_eq,QB,QA,qO,qF];omega) ?_
 refine Zad ?_;iterate 2 (refine Zo Zl ?_)
 refine z5a ?_;intro b45 hb45;refine Zad ?_;refine zr ?_;refine Zpr ?_;subst hb17 hb23 hb29 hb37 hb45;refine hK _ _ ?_;clear hK K;refine Zcm ?_ ?_
 ·intro h45;have hh:headBad cs ps=true:=h45;refine Zrs [2] (zb (hQ _ _ ?_));refine Zob ⟨2,[]⟩ ?_;rw[shapedL,hh]
  first|trivial|exact⟨rfl,trivial⟩
 intro h45;have hh:headBad cs ps=false:=h45;replace h45:=Znb h45;refine z7 (z6 (Zrs [1,3,4] ?_));refine z8 fun Q0 hN0 hX0 hR0 hE0=> ?_;refine zl (σ:=Nat) (fun i=>i<=cs.length/\∀q,q<i->(badS cs.length (cl cs q)||dupS cs q)=false) (fun i=>cs.length-i) (fun i=>[(1,.ptr 2 0 0 0),(3,.int .i64 cs.length),(4,.int .i64 i)]) (fun _=>⟨3,[(2,z43 0 cs.length 1 ps.length),(0,z4l cs),(1,z5b ps)]⟩) 0 ⟨ql _,fun q h=>by omega⟩ (ρ:=id) (Zg id) ?_;rintro i hi QL1 hL1 hRL1 hEL1;refine z6 (Zrs [1,3,4,48] ?_);refine Zcn ?_ ?_
 ·intro h48;obtain⟨hi1,hi2⟩:=hi;have hil:i<cs.length:=by omega
  refine z7 (z6 ?_);refine z8 fun Q1 hN1 hX1 hR1 hE1=> ?_;refine Zrs [1,3,4,5] (z6 ?_);refine sg [1,3,4,5,73] rfl ?_;intro K hK
  have hk8:∀B:Bool,B=badS cs.length (cl cs i)->K [(1,.ptr 2 0 0 0),(3,.int .i64 cs.length),(4,.int .i64 i),(5,.ptr 3 0 0 0),(73,.bool B)] ⟨4,[(3,rV 117 5 1 (fun _=>(cl cs i).sv)),(2,z43 0 cs.length 1 ps.length),(0,z4l cs),(1,z5b ps)]⟩:=by
   intro B hB;subst hB;refine hK _ _ ?_;clear hK K;refine Zcm ?_ ?_
   ·intro h73;refine Zrs [2] (zb (hR1 _ _ (hRL1 _ _ (hR0 _ _ (hQ _ _ ?_)))));refine Zob ⟨2,[]⟩ ?_;rw[shapedL,z1r (p:=fun i=>badS cs.length (cl cs i)||dupS cs i) hil (by show(badS cs.length (cl cs i)||dupS cs i)=true;rw[h73];rfl)];rw[qS,Qq,Qm]
    first|trivial|exact⟨rfl,trivial⟩
   intro h73;refine z7 (Zrs [1,3,4,5,6] ?_);refine z8 fun Q2 hN2 hX2 hR2 hE2=> ?_;refine zl (σ:=Nat) (fun k=>(k<=i\/k=2)/\2<=k/\∀q,q<k-2->sEq (cl cs i).key (cl cs (2+q)).key=false) (fun k=>i-k) (fun k=>[(1,.ptr 2 0 0 0),(3,.int .i64 cs.length),(4,.int .i64 i),(5,.ptr 3 0 0 0),(6,.int .i64 k)]) (fun _=>⟨4,[(3,rV 117 5 1 (fun _=>(cl cs i).sv)),(2,z43 0 cs.length 1 ps.length),(0,z4l cs),(1,z5b ps)]⟩) 2 ⟨.inr rfl,qd _,fun q h=>by omega⟩ (ρ:=id) (Zg id) ?_;rintro k hk QL2 hL2 hRL2 hEL2;refine z6 (Zrs [1,3,4,5,6,76] ?_);refine Zcn ?_ ?_
   ·intro h76;obtain⟨hk1,hk2,hk3⟩:=hk;refine z7 (z6 ?_);refine z8 fun Q3 hN3 hX3 hR3 hE3=> ?_;refine z6 (Zrq [1,3,4,5,6,87] [0,1,2,3,4,5,6,7,8] ?_);refine Zcm ?_ ?_
    ·intro h87;refine Zrs [2] (zb (hR3 _ _ (hRL2 _ _ (hR2 _ _ (hR1 _ _ (hRL1 _ _ (hR0 _ _ (hQ _ _ ?_))))))));refine Zob ⟨2,[]⟩ ?_
     rw[shapedL,z1r (p:=fun i=>badS cs.length (cl cs i)||dupS cs i) hil (by
      show(badS cs.length (cl cs i)||dupS cs i)=true
      rw[dupS,z1r (i:=k-2) (by omega) (by rw[show 2+(k-2)=k by omega];exact h87),JF])]
     rw[qS,Qq,Qm]
     first|trivial|exact⟨rfl,trivial⟩
    intro h87;refine z7 (za (hN3 _ _ (Zrg [1,3,4,5,6] (za (hL2 _ _ ?_)))));rw[iS k];refine⟨k+1,⟨⟨by omega,by omega,fun q hq=> ?_⟩,by omega⟩,id,(Zg id)⟩
    by_cases e:q=k-2
    ·subst e;rw[show 2+(k-2)=k by omega];exact h87
    exact hk3 q (by omega)
   intro h76;obtain⟨hk1,hk2,hk3⟩:=hk;have hdup:dupS cs i=false:=z1l fun q hq=>hk3 q (by omega);refine zk (hEL2 _ _ _ (hX2 _ _ (za (hN1 _ _ (Zrg [1,3,4] (za (hL1 _ _ ?_)))))));rw[iS i];refine⟨i+1,⟨⟨by omega,fun q hq=> ?_⟩,by omega⟩,id,(Zg id)⟩
   by_cases e:q=i
   ·subst e;rw[h73,hdup];rfl
   exact hi2 q (by omega)
  iterate 3 (refine Zo Zl ?_)
  refine Zd Zl (z3r (cl cs i).left cs.length) (id) ?_;iterate 5 (refine Zo Zl ?_)
  refine z13 ?_;refine z1b rfl rfl ?_;refine Zgr ?_
  first|refine z15 ?_ ?_|refine(fun(h1:false=true->_) (h2:false=false->_)=>qi h1 fun _=>h2 rfl) ?_ ?_|refine qi ?_ ?_
  ·intro hg9
   first
    |(simp at hg9;done)
    |skip
     try replace hg9:=Znb hg9
     refine Zo id ?_;refine Zc1 (z3r (cl cs i).right cs.length) (id) ?_;refine Zo Zl ?_
     try with_reducible refine qi z1f ?_
     refine Zad ?_;refine Zo Zl ?_
     try with_reducible refine qi z1f ?_
     refine z5a ?_;intro b67 hb67;refine Zad ?_;iterate 3 (refine Zo Zl ?_)
     refine z13 ?_;refine z1b rfl rfl ?_;refine Zgr ?_
     first|refine z15 ?_ ?_|refine(fun(h1:false=true->_) (h2:false=false->_)=>qi h1 fun _=>h2 rfl) ?_ ?_|refine qi ?_ ?_
     ·intro hg15
      first
       |(simp at hg15;done)
       |skip
        try replace hg15:=Znb hg15
        refine Zo id ?_;refine Zc1 (z5f (cl cs i).key) (id) ?_;refine Zo Zl ?_
        try with_reducible refine qi z1f ?_
        refine Zad ?_;refine Zo Zl ?_
        try with_reducible refine qi z1f ?_
        refine z5a ?_;intro b73 hb73;refine Zad ?_;refine zr ?_;refine Zpr ?_;subst hb67 hb73;refine hk8 _ ?_;clear hk8 hi2
        first|(simp_all[badS];done)|(simp_all[badS];rfl)
     intro hg15;refine⟨.bool false,?_⟩
     first
      |(simp at hg15;done)
      |skip
       try replace hg15:=Znb hg15
       refine Zo Zl ?_
       try with_reducible refine qi z1f ?_
       refine Zad ?_;refine Zo Zl ?_
       try with_reducible refine qi z1f ?_
       refine z5a ?_;intro b73 hb73;refine Zad ?_;refine zr ?_;refine Zpr ?_;subst hb67 hb73;refine hk8 _ ?_;clear hk8 hi2
       first|(simp_all[badS];done)|(simp_all[badS];rfl)
  intro hg9;refine⟨.bool false,?_⟩
  first
   |(simp at hg9;done)
   |skip
    try replace hg9:=Znb hg9
    refine Zo Zl ?_
    try with_reducible refine qi z1f ?_
    refine Zad ?_;refine Zo Zl ?_
    try with_reducible refine qi z1f ?_
    refine z5a ?_;intro b67 hb67;refine Zad ?_;iterate 3 (refine Zo Zl ?_)
    refine z13 ?_;refine z1b rfl rfl ?_;refine Zgr ?_
    first|refine z15 ?_ ?_|refine(fun(h1:false=true->_) (h2:false=false->_)=>qi h1 fun _=>h2 rfl) ?_ ?_|refine qi ?_ ?_
    ·intro hg15
     first
      |(simp at hg15;done)
      |skip
       try replace hg15:=Znb hg15
       refine Zo id ?_;refine Zc1 (z5f (cl cs i).key) (id) ?_;refine Zo Zl ?_
       try with_reducible refine qi z1f ?_
       refine Zad ?_;refine Zo Zl ?_
       try with_reducible refine qi z1f ?_
       refine z5a ?_;intro b73 hb73;refine Zad ?_;refine zr ?_;refine Zpr ?_;subst hb67 hb73;refine hk8 _ ?_;clear hk8 hi2
       first|(simp_all[badS];done)|(simp_all[badS];rfl)
    intro hg15;refine⟨.bool false,?_⟩
    first
     |(simp at hg15;done)
     |skip
      try replace hg15:=Znb hg15
      refine Zo Zl ?_
      try with_reducible refine qi z1f ?_
      refine Zad ?_;refine Zo Zl ?_
      try with_reducible refine qi z1f ?_
      refine z5a ?_;intro b73 hb73;refine Zad ?_;refine zr ?_;refine Zpr ?_;subst hb67 hb73;refine hk8 _ ?_;clear hk8 hi2
      first|(simp_all[badS];done)|(simp_all[badS];rfl)
 intro h48;obtain⟨hi1,hi2⟩:=hi;have hall:z2a cs.length (fun i=>badS cs.length (cl cs i)||dupS cs i)=false:=z1l fun q hq=>hi2 q (by omega);refine zk (hEL1 _ _ _ (hX0 _ _ (z6 (Zrs [1,3,7] ?_))));refine z8 fun Q4 hN4 hX4 hR4 hE4=> ?_;refine zl (σ:=Nat) (fun i=>i<=ps.length/\∀q,q<i->badPS cs.length (pr ps q)=false) (fun i=>ps.length-i) (fun i=>[(1,.ptr 2 0 0 0),(3,.int .i64 cs.length),(7,.int .i64 i)]) (fun _=>⟨3,[(2,z43 0 cs.length 1 ps.length),(0,z4l cs),(1,z5b ps)]⟩) 0 ⟨ql _,fun q h=>by omega⟩ (ρ:=id) (Zg id) ?_;rintro j hj QL3 hL3 hRL3 hEL3;refine z6 (Zrs [1,3,7,92] ?_);refine Zcn ?_ ?_
 ·intro h92;obtain⟨hj1,hj2⟩:=hj;have hjl:j<ps.length:=by omega
  refine z7 (z6 ?_);refine z8 fun Q5 hN5 hX5 hR5 hE5=> ?_;refine Zrs [1,3,7,8] ?_;refine sg [1,3,7,144] rfl ?_;intro K hK
  have hk19:∀B:Bool,B=badPS cs.length (pr ps j)->K [(1,.ptr 2 0 0 0),(3,.int .i64 cs.length),(7,.int .i64 j),(144,.bool B)] ⟨4,[(3,rV 110 7 1 (fun _=>(pr ps j).sv)),(2,z43 0 cs.length 1 ps.length),(0,z4l cs),(1,z5b ps)]⟩:=by
   intro B hB;subst hB;refine hK _ _ ?_;clear hK K;refine Zcm ?_ ?_
   ·intro h144;refine Zrs [2] (zb (hR5 _ _ (hRL3 _ _ (hR4 _ _ (hQ _ _ ?_)))));refine Zob ⟨2,[]⟩ ?_;rw[shapedL,z1r (p:=fun i=>badPS cs.length (pr ps i)) hjl h144];rw[qS,Qq]
    first|trivial|exact⟨rfl,trivial⟩
   intro h144;refine z7 (za (hN5 _ _ (Zrg [1,3,7] (za (hL3 _ _ ?_)))));rw[iS j];refine⟨j+1,⟨⟨by omega,fun q hq=> ?_⟩,by omega⟩,id,(Zg id)⟩
   by_cases e:q=j
   ·subst e;exact h144
   exact hj2 q (by omega)
  iterate 3 (refine Zo Zl ?_)
  refine Zd Zl (z3r (pr ps j).cell cs.length) (id) ?_;iterate 5 (refine Zo Zl ?_)
  refine z13 ?_;refine z1b rfl rfl ?_;refine Zgr ?_
  first|refine z15 ?_ ?_|refine(fun(h1:false=true->_) (h2:false=false->_)=>qi h1 fun _=>h2 rfl) ?_ ?_|refine qi ?_ ?_
  ·intro hg9
   first
    |(simp at hg9;done)
    |skip
     try replace hg9:=Znb hg9
     refine Zo id ?_;refine Zc1 (z3r (pr ps j).pred cs.length) (id) ?_;refine Zo Zl ?_
     try with_reducible refine qi z1f ?_
     refine Zad ?_;refine Zo Zl ?_
     try with_reducible refine qi z1f ?_
     refine z5a ?_;intro b111 hb111;refine Zad ?_;iterate 4 (refine Zo Zl ?_)
     refine z13 ?_;refine z1b rfl rfl ?_;refine Zgr ?_
     first|refine z15 ?_ ?_|refine(fun(h1:false=true->_) (h2:false=false->_)=>qi h1 fun _=>h2 rfl) ?_ ?_|refine qi ?_ ?_
     ·intro hg16
      first
       |(simp at hg16;done)
       |skip
        try replace hg16:=Znb hg16
        refine Zo id ?_;refine Zc1 (z3r (pr ps j).succ cs.length) (id) ?_;refine Zo Zl ?_
        try with_reducible refine qi z1f ?_
        refine Zad ?_;refine Zo Zl ?_
        try with_reducible refine qi z1f ?_
        refine z5a ?_;intro b118 hb118;refine Zad ?_;iterate 4 (refine Zo Zl ?_)
        refine z13 ?_;refine z1b rfl rfl ?_;refine Zgr ?_
        first|refine z15 ?_ ?_|refine(fun(h1:false=true->_) (h2:false=false->_)=>qi h1 fun _=>h2 rfl) ?_ ?_|refine qi ?_ ?_
        ·intro hg23
         first
          |(simp at hg23;done)
          |skip
           try replace hg23:=Znb hg23
           refine Zo id ?_;refine Zc1 (z3r (pr ps j).next cs.length) (id) ?_;refine Zo Zl ?_
           try with_reducible refine qi z1f ?_
           refine Zad ?_;refine Zo Zl ?_
           try with_reducible refine qi z1f ?_
           refine z5a ?_;intro b125 hb125;refine Zad ?_;iterate 5 (refine Zo Zl ?_)
           refine z5a ?_;intro b130 hb130;refine Zad ?_;iterate 5 (refine Zo Zl ?_)
           refine z5a ?_;intro b135 hb135;refine Zad ?_;iterate 9 (refine Zo Zl ?_)
           refine z5a ?_;intro b144 hb144;refine Zad ?_;refine zr ?_;refine Zpr ?_;subst hb111 hb118 hb125 hb130 hb135 hb144;refine hk19 _ ?_;clear hk19 hi2 hj2 hall
           first|(simp_all[badPS];done)|(simp_all[badPS];rfl)
        intro hg23;refine⟨.bool false,?_⟩
        first
         |(simp at hg23;done)
         |skip
          try replace hg23:=Znb hg23
          refine Zo Zl ?_
          try with_reducible refine qi z1f ?_
          refine Zad ?_;refine Zo Zl ?_
          try with_reducible refine qi z1f ?_
          refine z5a ?_;intro b125 hb125;refine Zad ?_;iterate 5 (refine Zo Zl ?_)
          refine z5a ?_;intro b130 hb130;refine Zad ?_;iterate 5 (refine Zo Zl ?_)
          refine z5a ?_;intro b135 hb135;refine Zad ?_;iterate 9 (refine Zo Zl ?_)
          refine z5a ?_;intro b144 hb144;refine Zad ?_;refine zr ?_;refine Zpr ?_;subst hb111 hb118 hb125 hb130 hb135 hb144;refine hk19 _ ?_;clear hk19 hi2 hj2 hall
          first|(simp_all[badPS];done)|(simp_all[badPS];rfl)
     intro hg16;refine⟨.bool false,?_⟩
     first
      |(simp at hg16;done)
      |skip
       try replace hg16:=Znb hg16
       refine Zo Zl ?_
       try with_reducible refine qi z1f ?_
       refine Zad ?_;refine Zo Zl ?_
       try with_reducible refine qi z1f ?_
       refine z5a ?_;intro b118 hb118;refine Zad ?_;iterate 4 (refine Zo Zl ?_)
       refine z13 ?_;refine z1b rfl rfl ?_;refine Zgr ?_
       first|refine z15 ?_ ?_|refine(fun(h1:false=true->_) (h2:false=false->_)=>qi h1 fun _=>h2 rfl) ?_ ?_|refine qi ?_ ?_
       ·intro hg23
        first
         |(simp at hg23;done)
         |skip
          try replace hg23:=Znb hg23
          refine Zo id ?_;refine Zc1 (z3r (pr ps j).next cs.length) (id) ?_;refine Zo Zl ?_
          try with_reducible refine qi z1f ?_
          refine Zad ?_;refine Zo Zl ?_
          try with_reducible refine qi z1f ?_
          refine z5a ?_;intro b125 hb125;refine Zad ?_;iterate 5 (refine Zo Zl ?_)
          refine z5a ?_;intro b130 hb130;refine Zad ?_;iterate 5 (refine Zo Zl ?_)
          refine z5a ?_;intro b135 hb135;refine Zad ?_;iterate 9 (refine Zo Zl ?_)
          refine z5a ?_;intro b144 hb144;refine Zad ?_;refine zr ?_;refine Zpr ?_;subst hb111 hb118 hb125 hb130 hb135 hb144;refine hk19 _ ?_;clear hk19 hi2 hj2 hall
          first|(simp_all[badPS];done)|(simp_all[badPS];rfl)
       intro hg23;refine⟨.bool false,?_⟩
       first
        |(simp at hg23;done)
        |skip
         try replace hg23:=Znb hg23
         refine Zo Zl ?_
         try with_reducible refine qi z1f ?_
         refine Zad ?_;refine Zo Zl ?_
         try with_reducible refine qi z1f ?_
         refine z5a ?_;intro b125 hb125;refine Zad ?_;iterate 5 (refine Zo Zl ?_)
         refine z5a ?_;intro b130 hb130;refine Zad ?_;iterate 5 (refine Zo Zl ?_)
         refine z5a ?_;intro b135 hb135;refine Zad ?_;iterate 9 (refine Zo Zl ?_)
         refine z5a ?_;intro b144 hb144;refine Zad ?_;refine zr ?_;refine Zpr ?_;subst hb111 hb118 hb125 hb130 hb135 hb144;refine hk19 _ ?_;clear hk19 hi2 hj2 hall
         first|(simp_all[badPS];done)|(simp_all[badPS];rfl)
  intro hg9;refine⟨.bool false,?_⟩
  first
   |(simp at hg9;done)
   |skip
    try replace hg9:=Znb hg9
    refine Zo Zl ?_
    try with_reducible refine qi z1f ?_
    refine Zad ?_;refine Zo Zl ?_
    try with_reducible refine qi z1f ?_
    refine z5a ?_;intro b111 hb111;refine Zad ?_;iterate 4 (refine Zo Zl ?_)
    refine z13 ?_;refine z1b rfl rfl ?_;refine Zgr ?_
    first|refine z15 ?_ ?_|refine(fun(h1:false=true->_) (h2:false=false->_)=>qi h1 fun _=>h2 rfl) ?_ ?_|refine qi ?_ ?_
    ·intro hg16
     first
      |(simp at hg16;done)
      |skip
       try replace hg16:=Znb hg16
       refine Zo id ?_;refine Zc1 (z3r (pr ps j).succ cs.length) (id) ?_;refine Zo Zl ?_
       try with_reducible refine qi z1f ?_
       refine Zad ?_;refine Zo Zl ?_
       try with_reducible refine qi z1f ?_
       refine z5a ?_;intro b118 hb118;refine Zad ?_;iterate 4 (refine Zo Zl ?_)
       refine z13 ?_;refine z1b rfl rfl ?_;refine Zgr ?_
       first|refine z15 ?_ ?_|refine(fun(h1:false=true->_) (h2:false=false->_)=>qi h1 fun _=>h2 rfl) ?_ ?_|refine qi ?_ ?_
       ·intro hg23
        first
         |(simp at hg23;done)
         |skip
          try replace hg23:=Znb hg23
          refine Zo id ?_;refine Zc1 (z3r (pr ps j).next cs.length) (id) ?_;refine Zo Zl ?_
          try with_reducible refine qi z1f ?_
          refine Zad ?_;refine Zo Zl ?_
          try with_reducible refine qi z1f ?_
          refine z5a ?_;intro b125 hb125;refine Zad ?_;iterate 5 (refine Zo Zl ?_)
          refine z5a ?_;intro b130 hb130;refine Zad ?_;iterate 5 (refine Zo Zl ?_)
          refine z5a ?_;intro b135 hb135;refine Zad ?_;iterate 9 (refine Zo Zl ?_)
          refine z5a ?_;intro b144 hb144;refine Zad ?_;refine zr ?_;refine Zpr ?_;subst hb111 hb118 hb125 hb130 hb135 hb144;refine hk19 _ ?_;clear hk19 hi2 hj2 hall
          first|(simp_all[badPS];done)|(simp_all[badPS];rfl)
       intro hg23;refine⟨.bool false,?_⟩
       first
        |(simp at hg23;done)
        |skip
         try replace hg23:=Znb hg23
         refine Zo Zl ?_
         try with_reducible refine qi z1f ?_
         refine Zad ?_;refine Zo Zl ?_
         try with_reducible refine qi z1f ?_
         refine z5a ?_;intro b125 hb125;refine Zad ?_;iterate 5 (refine Zo Zl ?_)
         refine z5a ?_;intro b130 hb130;refine Zad ?_;iterate 5 (refine Zo Zl ?_)
         refine z5a ?_;intro b135 hb135;refine Zad ?_;iterate 9 (refine Zo Zl ?_)
         refine z5a ?_;intro b144 hb144;refine Zad ?_;refine zr ?_;refine Zpr ?_;subst hb111 hb118 hb125 hb130 hb135 hb144;refine hk19 _ ?_;clear hk19 hi2 hj2 hall
         first|(simp_all[badPS];done)|(simp_all[badPS];rfl)
    intro hg16;refine⟨.bool false,?_⟩
    first
     |(simp at hg16;done)
     |skip
      try replace hg16:=Znb hg16
      refine Zo Zl ?_
      try with_reducible refine qi z1f ?_
      refine Zad ?_;refine Zo Zl ?_
      try with_reducible refine qi z1f ?_
      refine z5a ?_;intro b118 hb118;refine Zad ?_;iterate 4 (refine Zo Zl ?_)
      refine z13 ?_;refine z1b rfl rfl ?_;refine Zgr ?_
      first|refine z15 ?_ ?_|refine(fun(h1:false=true->_) (h2:false=false->_)=>qi h1 fun _=>h2 rfl) ?_ ?_|refine qi ?_ ?_
      ·intro hg23
       first
        |(simp at hg23;done)
        |skip
         try replace hg23:=Znb hg23
         refine Zo id ?_;refine Zc1 (z3r (pr ps j).next cs.length) (id) ?_;refine Zo Zl ?_
         try with_reducible refine qi z1f ?_
         refine Zad ?_;refine Zo Zl ?_
         try with_reducible refine qi z1f ?_
         refine z5a ?_;intro b125 hb125;refine Zad ?_;iterate 5 (refine Zo Zl ?_)
         refine z5a ?_;intro b130 hb130;refine Zad ?_;iterate 5 (refine Zo Zl ?_)
         refine z5a ?_;intro b135 hb135;refine Zad ?_;iterate 9 (refine Zo Zl ?_)
         refine z5a ?_;intro b144 hb144;refine Zad ?_;refine zr ?_;refine Zpr ?_;subst hb111 hb118 hb125 hb130 hb135 hb144;refine hk19 _ ?_;clear hk19 hi2 hj2 hall
         first|(simp_all[badPS];done)|(simp_all[badPS];rfl)
      intro hg23;refine⟨.bool false,?_⟩
      first
       |(simp at hg23;done)
       |skip
        try replace hg23:=Znb hg23
        refine Zo Zl ?_
        try with_reducible refine qi z1f ?_
        refine Zad ?_;refine Zo Zl ?_
        try with_reducible refine qi z1f ?_
        refine z5a ?_;intro b125 hb125;refine Zad ?_;iterate 5 (refine Zo Zl ?_)
        refine z5a ?_;intro b130 hb130;refine Zad ?_;iterate 5 (refine Zo Zl ?_)
        refine z5a ?_;intro b135 hb135;refine Zad ?_;iterate 9 (refine Zo Zl ?_)
        refine z5a ?_;intro b144 hb144;refine Zad ?_;refine zr ?_;refine Zpr ?_;subst hb111 hb118 hb125 hb130 hb135 hb144;refine hk19 _ ?_;clear hk19 hi2 hj2 hall
        first|(simp_all[badPS];done)|(simp_all[badPS];rfl)
 intro h92;obtain⟨hj1,hj2⟩:=hj;refine zk (hEL3 _ _ _ (hX4 _ _ (Zrs [2] (zb (hQ _ _ ?_)))));refine Zob ⟨2,[]⟩ ?_;rw[shapedL,hh,hall,z1l fun q hq=>hj2 q (by omega)]
 first|trivial|exact⟨rfl,trivial⟩
def sEq_comm (a b:ByteArray):sEq a b=sEq b a:=by rw[z5l,z5l,Je];exact eq_comm
def dup_eq (cs:List Cl)(i:Nat):dupC cs i=dupS cs i:=by
 rw[dupC,dupS]
 by_cases h:1<(i:Int)
 ·rw[qB h,qL]
  congr 1
  funext k
  rw[sameKey,sEq_comm]
 rw[qG h,Qm]
 symm
 exact z1l fun q hq=>by omega
def anyB_or (n:Nat)(p q:Nat->Bool):z2a n (fun i=>p i||q i)=(z2a n p||z2a n q):=by
 rw[qY];simp only[z2a,Jc,qt]
 constructor
 ·rintro⟨x,hx,h|h⟩
  ·exact .inl ⟨x,hx,h⟩
  exact .inr ⟨x,hx,h⟩
 rintro(⟨x,hx,h⟩|⟨x,hx,h⟩)
 ·exact⟨x,hx,.inl h⟩
 exact⟨x,hx,.inr h⟩
def badL (m:Int)(c:Cl):Bool:=decide (c.lock<0)||decide (m<c.lock)
def badF (x:Pr):Bool:=x.phase !=18 && (decide (x.phase<0)||decide (13<x.phase))
def validK_eq (cs:List Cl)(ps:List Pr):z1y cs ps=(shapedL cs ps && !z2a cs.length (fun i=>badL ps.length (cl cs i)) && !z2a ps.length (fun i=>badF (pr ps i))):=by
 rw[z1y,cellsK,shapedL]
 have e1:z2a cs.length (fun i=>badK cs.length ps.length (cl cs i)||dupC cs i)=(z2a cs.length (fun i=>badS cs.length (cl cs i)||dupS cs i)||z2a cs.length (fun i=>badL ps.length (cl cs i))):=by
  rw[<-anyB_or]
  congr 1
  funext i
  rw[dup_eq,qY];simp only[badK,badS,badL,idxOk,qt,qn,qC,qm,qg]
  generalize (cl cs i).left=l
  generalize (cl cs i).right=r
  generalize (cl cs i).lock=k
  generalize (okKey (cl cs i).key=false)=P
  generalize (dupS cs i=true)=Q
  by_cases hP:P<;>by_cases hQ:Q<;>simp only[hP,hQ,true_or,or_true,false_or,jU]<;>omega
 have e2:(z2a ps.length (fun i=>badQ cs.length (pr ps i))||z2a ps.length (fun i=>badH (pr ps i)))=(z2a ps.length (fun i=>badPS cs.length (pr ps i))||z2a ps.length (fun i=>badF (pr ps i))):=by
  rw[<-anyB_or,<-anyB_or]
  congr 1
  funext i
  have key:(decide (min (min (min (pr ps i).cell (pr ps i).pred) (pr ps i).succ) (pr ps i).next<0)||decide ((cs.length:Int)<=max (max (max (pr ps i).cell (pr ps i).pred) (pr ps i).succ) (pr ps i).next))=(!idxOk (pr ps i).cell cs.length|| !idxOk (pr ps i).pred cs.length|| !idxOk (pr ps i).succ cs.length|| !idxOk (pr ps i).next cs.length):=by
   rw[qY];simp only[idxOk,qt,qn,qC,qm,qg];omega
  have key2:(!z2b (pr ps i).phase)=badF (pr ps i):=by
   rw[qY];simp only[z2b,badF,qn,qg,qj,qt,qm,Qi];omega
  rw[badQ,key,badPS,badH,key2]
  cases !idxOk (pr ps i).cell cs.length|| !idxOk (pr ps i).pred cs.length|| !idxOk (pr ps i).succ cs.length|| !idxOk (pr ps i).next cs.length<;>cases decide ((pr ps i).kind<0)<;>cases decide (3<(pr ps i).kind)<;>cases((pr ps i).kind==0) !=((pr ps i).phase==0)<;>cases badF (pr ps i)<;>rfl
 rw[e1]
 generalize z2a cs.length (fun i=>badS cs.length (cl cs i)||dupS cs i)=A at*
 generalize z2a cs.length (fun i=>badL ps.length (cl cs i))=B at*
 generalize z2a ps.length (fun i=>badQ cs.length (pr ps i))=C at*
 generalize z2a ps.length (fun i=>badH (pr ps i))=D at*
 generalize z2a ps.length (fun i=>badPS cs.length (pr ps i))=E at*
 generalize z2a ps.length (fun i=>badF (pr ps i))=F at*
 generalize headBad cs ps=H at*
 cases A<;>cases B<;>cases C<;>cases D<;>cases E<;>cases F<;>cases H<;>simp_all
def refValid_spec (cs:List Cl)(ps:List Pr)(n m:Nat)(hn:cs.length=n)(hm:ps.length=m)(hx:n<=9223372036854775807)(hy:m<=9223372036854775807):
  zj prog 102 [.agg [.slc false 0 0 0 n,.slc false 1 0 0 m]] ⟨2,[(0,z4l cs),(1,z5b ps)]⟩ (fun s H1=>s= .bool (z1y cs ps)/\H1=⟨2,[]⟩):=by
 subst hn hm;refine Zf false 58 [.tmp 2] func102 ntmps102 results102 fun w0 own0 β0 Q hQ hQn=> ?_;refine Zrs [1] (z6 ?_);refine sg [1,8] rfl ?_;intro K hK;refine Zo Zl ?_;refine Zd Zl (shaped_spec cs ps cs.length ps.length rfl rfl hx hy) (id) ?_;refine Zkl hK ?_;clear hK K;refine Zcm ?_ ?_
 ·intro h8;refine Zrs [2] (zb (hQ _ _ ?_));refine Zob ⟨2,[]⟩ ?_;rw[validK_eq,show shapedL cs ps=false by simpa using h8]
  first|trivial|exact⟨rfl,trivial⟩
 intro h8;replace h8:=Znb h8;refine z7 (z6 (Zrs [1,3] ?_));refine z8 fun Q0 hN0 hX0 hR0 hE0=> ?_;refine zl (σ:=Nat) (fun i=>i<=cs.length/\∀q,q<i->badL ps.length (cl cs q)=false) (fun i=>cs.length-i) (fun i=>[(1,.ptr 2 0 0 0),(3,.int .i64 i)]) (fun _=>⟨3,[(2,z43 0 cs.length 1 ps.length),(0,z4l cs),(1,z5b ps)]⟩) 0 ⟨ql _,fun q h=>by omega⟩ (ρ:=id) (Zg id) ?_;rintro i hi QL1 hL1 hRL1 hEL1;refine z6 (Zrs [1,3,13] ?_);refine Zcn ?_ ?_
 ·intro h13;obtain⟨hi1,hi2⟩:=hi;have hil:i<cs.length:=by omega
  refine z7 (z6 ?_);refine z8 fun Q1 hN1 hX1 hR1 hE1=> ?_;refine z6 (Zrq [1,3,34] [0,1,2,3,4,5,6,7,8,9,10,11,12,13,14,15,16,17,18] ?_);refine Zcm ?_ ?_
  ·intro h34;refine Zrs [2] (zb (hR1 _ _ (hRL1 _ _ (hR0 _ _ (hQ _ _ ?_)))));refine Zob ⟨2,[]⟩ ?_;rw[validK_eq,z1r (p:=fun i=>badL ps.length (cl cs i)) hil h34];rw[qS,Qq,Qm]
   first|trivial|exact⟨rfl,trivial⟩
  intro h34;refine z7 (za (hN1 _ _ (Zrg [1,3] (za (hL1 _ _ ?_)))));rw[iS i];refine⟨i+1,⟨⟨by omega,fun q hq=> ?_⟩,by omega⟩,id,(Zg id)⟩
  by_cases e:q=i
  ·subst e;exact h34
  exact hi2 q (by omega)
 intro h13;obtain⟨hi1,hi2⟩:=hi;have hall:z2a cs.length (fun i=>badL ps.length (cl cs i))=false:=z1l fun q hq=>hi2 q (by omega);refine zk (hEL1 _ _ _ (hX0 _ _ (z6 (Zrs [1,4] ?_))));refine z8 fun Q2 hN2 hX2 hR2 hE2=> ?_;refine zl (σ:=Nat) (fun i=>i<=ps.length/\∀q,q<i->badF (pr ps q)=false) (fun i=>ps.length-i) (fun i=>[(1,.ptr 2 0 0 0),(4,.int .i64 i)]) (fun _=>⟨3,[(2,z43 0 cs.length 1 ps.length),(0,z4l cs),(1,z5b ps)]⟩) 0 ⟨ql _,fun q h=>by omega⟩ (ρ:=id) (Zg id) ?_;rintro j hj QL2 hL2 hRL2 hEL2;refine z6 (Zrs [1,4,39] ?_);refine Zcn ?_ ?_
 ·intro h39;obtain⟨hj1,hj2⟩:=hj;have hjl:j<ps.length:=by omega
  refine z7 (z6 ?_);refine z8 fun Q3 hN3 hX3 hR3 hE3=> ?_;refine Zrs [1,4,5] ?_;refine Zrs [1,4,57] ?_;refine Zcm ?_ ?_
  ·intro h57;refine Zrs [2] (zb (hR3 _ _ (hRL2 _ _ (hR2 _ _ (hQ _ _ ?_)))));refine Zob ⟨2,[]⟩ ?_;rw[validK_eq,z1r (p:=fun i=>badF (pr ps i)) hjl (by exact h57)];rw[qS,Qq]
   first|trivial|exact⟨rfl,trivial⟩
  intro h57;refine z7 (za (hN3 _ _ (Zrg [1,4] (za (hL2 _ _ ?_)))));rw[iS j];refine⟨j+1,⟨⟨by omega,fun q hq=> ?_⟩,by omega⟩,id,(Zg id)⟩
  by_cases e:q=j
  ·subst e;exact h57
  exact hj2 q (by omega)
 intro h39;obtain⟨hj1,hj2⟩:=hj;refine zk (hEL2 _ _ _ (hX2 _ _ (Zrs [2] (zb (hQ _ _ ?_)))));refine Zob ⟨2,[]⟩ ?_;rw[validK_eq,h8,hall,z1l fun q hq=>hj2 q (by omega)]
 first|trivial|exact⟨rfl,trivial⟩
end
section
open LlBm (gxE oxE exE)
open LlCm (axE)
open D0 (sdE)
def clClone_spec (xs:List Cl)(n:Nat)(hn:xs.length=n)(hx:n<=1000000):
  zj prog 137 [.slc false 0 0 0 n] ⟨1,[(0,rI 117 5 n (z1x xs))]⟩
   (fun s H1=>s= .slc true 1 0 0 n/\H1=⟨2,[(1,rO 117 5 n (z1x xs))]⟩):=by
 refine Zf false 8 [.tmp 2] func137 ntmps137 results137 fun w0 own0 β0 Q hQ hQn=> ?_;refine Zrs [0] (z6 ?_);refine sg [0,4] rfl ?_;intro K hK;iterate 2 (refine Zo Zl ?_)
 intro b hb;refine Zad ?_;refine Zk hK ?_;clear hK K;refine Zcm ?_ ?_
 ·intro h4
  have hn0:n=0:=by
   rcases jY n with h|h
   ·exact h
   rw[hb h] at h4;cases h4
  subst hn0;refine Zrs [2] (z2f 2 117 5 (z1x xs) rfl (zb (hQ _ _ ?_)));exact Zoc (⟨2,[(1,rO 117 5 0 (z1x xs))]⟩)
 intro h4
 try replace h4:=Znb h4
 refine z7 (Zrs [2] (zb (hQ _ _ ?_)));exact Zos (fun k=>if k=1 then 2 else k) (.slc true 1 0 0 n) (⟨2,[(1,rO 117 5 n (z1x xs))]⟩)
def prClone_spec (xs:List Pr)(n:Nat)(hn:xs.length=n)(hx:n<=1000000):
  zj prog 138 [.slc false 0 0 0 n] ⟨1,[(0,rI 110 7 n (prs xs))]⟩
   (fun s H1=>s= .slc true 1 0 0 n/\H1=⟨2,[(1,rO 110 7 n (prs xs))]⟩):=by
 refine Zf false 8 [.tmp 2] func138 ntmps138 results138 fun w0 own0 β0 Q hQ hQn=> ?_;refine Zrs [0] (z6 ?_);refine sg [0,4] rfl ?_;intro K hK;iterate 2 (refine Zo Zl ?_)
 intro b hb;refine Zad ?_;refine Zk hK ?_;clear hK K;refine Zcm ?_ ?_
 ·intro h4
  have hn0:n=0:=by
   rcases jY n with h|h
   ·exact h
   rw[hb h] at h4;cases h4
  subst hn0;refine Zrs [2] (z2f 2 110 7 (prs xs) rfl (zb (hQ _ _ ?_)));exact Zoc (⟨2,[(1,rO 110 7 0 (prs xs))]⟩)
 intro h4
 try replace h4:=Znb h4
 refine z7 (Zrs [2] (zb (hQ _ _ ?_)));exact Zos (fun k=>if k=1 then 2 else k) (.slc true 1 0 0 n) (⟨2,[(1,rO 110 7 n (prs xs))]⟩)
def clone_specK (cs:List Cl)(ps:List Pr)(n m:Nat)(hn:cs.length=n)(hm:ps.length=m)(hx:n<=1000000)(hy:m<=1000000):
  zj prog 140 [.agg [.slc false 0 0 0 n,.slc false 1 0 0 m]] ⟨2,[(0,z4l cs),(1,z5b ps)]⟩
   (fun s H1=>s= .agg [.slc true 2 0 0 n,.slc true 3 0 0 m]/\H1=⟨4,[(3,z2p ps),(2,z2c cs)]⟩):=by
 subst hn hm;refine Zf false 10 [.cell 2 85] func140 ntmps140 results140 fun w0 own0 β0 Q hQ hQn=> ?_;refine Zrs [1,2] (z6 ?_);refine Zrd [2] [0,1,3,4,2,5,6,7] (ws 0 [(7,[3])]) (ws 0 [(7,[3])]) ?_;intro K hK;iterate 4 (refine Zo (Zi [] []) ?_)
 refine Zd (Zi [] []) (clClone_spec cs cs.length rfl hx) (id) ?_;refine Zd (Zi [] []) (prClone_spec ps ps.length rfl hy) (fun _=>1) ?_;refine Zo (Zi [] []) ?_;refine Zo (Zi [3] [3]) ?_;refine zz (Zpr (hK _ _ ?_));clear hK K;refine zb (hQ _ _ ?_);exact Zos (fun k=>if k=2 then 4 else if k=3 then 5 else k) (.agg [.slc true 2 0 0 cs.length,.slc true 3 0 0 ps.length]) (⟨4,[(3,z2p ps),(2,z2c cs)]⟩)
def copy_spec (cs:List Cl)(ps:List Pr)(n m:Nat)(hn:cs.length=n)(hm:ps.length=m)(hx:n<=1000000)(hy:m<=1000000):
  zj prog 57 [.agg [.slc false 0 0 0 n,.slc false 1 0 0 m]] ⟨2,[(0,z4l cs),(1,z5b ps)]⟩
   (fun s H1=>s= .agg [.slc true 2 0 0 n,.slc true 3 0 0 m]/\H1=⟨4,[(3,z2p ps),(2,z2c cs)]⟩):=by
 subst hn hm;refine Zf false 10 [.cell 2 85] func57 ntmps57 results57 fun w0 own0 β0 Q hQ hQn=> ?_;refine Zrs [1,2] (z6 ?_);refine Zrd [2] [0,1,3,4,2,5,6,7] (ws 0 [(7,[3])]) (ws 0 [(7,[3])]) ?_;intro K hK;iterate 7 (refine Zo (Zi [] []) ?_)
 refine Zo (Zi [3] [3]) ?_;refine zz (Zpr (hK _ _ ?_));clear hK K;refine zb (hQ _ _ ?_);exact Zos (fun k=>if k=2 then 4 else if k=3 then 5 else k) (.agg [.slc true 2 0 0 cs.length,.slc true 3 0 0 ps.length]) (⟨4,[(3,z2p ps),(2,z2c cs)]⟩)
def pAt (ps:List Pr)(p:Nat)(x:Pr):Nat->List SV:=fun i=>if i=p then x.sv else prs ps i
def pAt_self (ps:List Pr)(p:Nat):pAt ps p (pr ps p)=prs ps:=by
 funext i
 simp only[pAt]
 split
 ·rename_i e;subst e;rfl
 rfl
def pAt_ren (ρ:Nat->Nat)(ps:List Pr)(p:Nat)(x:Pr):(fun i=>SV.renL ρ (pAt ps p x i))=pAt ps p x:=by
 funext i
 simp only[pAt]
 split
 ·simp[Pr.sv,SV.renL,SV.ren]
 exact prs_ren' ρ ps i
def renL_ite (ρ:Nat->Nat)(c:Prop) [Decidable c](a b:List SV):SV.renL ρ (if c then a else b)=if c then SV.renL ρ a else SV.renL ρ b:=by split<;>rfl
def ltL_ite (m:Nat)(c:Prop) [Decidable c](a b:List SV):SV.ltL m (if c then a else b)=if c then SV.ltL m a else SV.ltL m b:=by split<;>rfl
def ite_two {α:Type}(c:Prop) [Decidable c](a b d:α):(if c then a else if c then b else d)=if c then a else d:=by split<;>rfl
def cls_put' (l:List Cl)(k:Nat)(c:Cl)(h:k<l.length):(fun i=>if i=k then [SV.str c.key,.int .i64 c.left,.int .i64 c.right,.int .i64 c.lock,.bool c.gone] else [SV.str (cl l i).key,.int .i64 (cl l i).left,.int .i64 (cl l i).right,.int .i64 (cl l i).lock,.bool (cl l i).gone])=z1x (l.set k c):=by
 funext i
 simp only[z1x]
 split
 ·rename_i e;subst e;rw[cl_set_eq h];rfl
 rename_i e;rw[cl_set_ne (Qt e)];rfl
end
section
def Tryz.tyMc:z1o prog 165=⟨true,.struct,3,56,[(0,some true,2),(2,some false,1)]⟩:=by kernel_rfl
def Tryz.szMc:z2m prog 165=3:=by kernel_rfl
def cls_ap (l:List Cl)(i:Nat):z1x l i=[.str (cl l i).key,.int .i64 (cl l i).left,.int .i64 (cl l i).right,.int .i64 (cl l i).lock,.bool (cl l i).gone]:=rfl
def prs_ap (l:List Pr)(i:Nat):prs l i=[.int .i64 (pr l i).kind,.int .i64 (pr l i).cell,.int .i64 (pr l i).phase,.int .i64 (pr l i).pred,.int .i64 (pr l i).succ,.int .i64 (pr l i).next,.bool (pr l i).res]:=rfl
def put_F (l:List Cl)(c v:Int)(h:c.toNat<l.length):(fun i=>if i=c.toNat then [SV.str (cl l c.toNat).key,.int .i64 v,.int .i64 (cl l c.toNat).right,.int .i64 (cl l c.toNat).lock,.bool (cl l c.toNat).gone] else [SV.str (cl l i).key,.int .i64 (cl l i).left,.int .i64 (cl l i).right,.int .i64 (cl l i).lock,.bool (cl l i).gone])=z1x (z4b l c v):=cls_put' l c.toNat {cl l c.toNat with left:=v} h
def put_R (l:List Cl)(c v:Int)(h:c.toNat<l.length):(fun i=>if i=c.toNat then [SV.str (cl l c.toNat).key,.int .i64 (cl l c.toNat).left,.int .i64 v,.int .i64 (cl l c.toNat).lock,.bool (cl l c.toNat).gone] else [SV.str (cl l i).key,.int .i64 (cl l i).left,.int .i64 (cl l i).right,.int .i64 (cl l i).lock,.bool (cl l i).gone])=z1x (z2s l c v):=cls_put' l c.toNat {cl l c.toNat with right:=v} h
def put_K (l:List Cl)(c v:Int)(h:c.toNat<l.length):(fun i=>if i=c.toNat then [SV.str (cl l c.toNat).key,.int .i64 (cl l c.toNat).left,.int .i64 (cl l c.toNat).right,.int .i64 v,.bool (cl l c.toNat).gone] else [SV.str (cl l i).key,.int .i64 (cl l i).left,.int .i64 (cl l i).right,.int .i64 (cl l i).lock,.bool (cl l i).gone])=z1x (setK l c v):=cls_put' l c.toNat {cl l c.toNat with lock:=v} h
def put_U (l:List Cl)(c:Int)(h:c.toNat<l.length):(fun i=>if i=c.toNat then [SV.str (cl l c.toNat).key,.int .i64 (cl l c.toNat).left,.int .i64 (cl l c.toNat).right,.int .i64 (cl l c.toNat).lock,.bool false] else [SV.str (cl l i).key,.int .i64 (cl l i).left,.int .i64 (cl l i).right,.int .i64 (cl l i).lock,.bool (cl l i).gone])=z1x (setU l c):=cls_put' l c.toNat {cl l c.toNat with gone:=false} h
def put_G (l:List Cl)(c:Int)(h:c.toNat<l.length):(fun i=>if i=c.toNat then [SV.str (cl l c.toNat).key,.int .i64 (cl l c.toNat).left,.int .i64 (cl l c.toNat).right,.int .i64 (cl l c.toNat).lock,.bool true] else [SV.str (cl l i).key,.int .i64 (cl l i).left,.int .i64 (cl l i).right,.int .i64 (cl l i).lock,.bool (cl l i).gone])=z1x (setG l c):=cls_put' l c.toNat {cl l c.toNat with gone:=true} h
def put_Kn (l:List Cl)(c:Nat)(v:Int)(h:c<l.length):(fun i=>if i=c then [SV.str (cl l c).key,.int .i64 (cl l c).left,.int .i64 (cl l c).right,.int .i64 v,.bool (cl l c).gone] else [SV.str (cl l i).key,.int .i64 (cl l i).left,.int .i64 (cl l i).right,.int .i64 (cl l i).lock,.bool (cl l i).gone])=z1x (setK l (c:Int) v):=cls_put' l c {cl l c with lock:=v} h
def lockC (cs:List Cl)(c:Int)(p:Nat):List Cl:=if lkK cs c=0 then setK cs c (p+1) else cs
def lockP (cs:List Cl)(c:Int)(x:Pr)(ph:Int):Pr:=if lkK cs c=0 then {x with phase:=ph} else x
def ec9:=aj3 @Tryz.tyMc @Tryz.szMc @ite_two
def ec10:=aj3 @cls_ap @prs_ap @pAt.eq_1
def LlHm.exE:=aj9 @zd @zf @zo @zh ec1 ec2 @zg @zp (aj7 @zq ec9 ec3 ec4 ec10 @z1a.eq_1 @zu.eq_1)
def ec11:=aj3 @ltL_ite @z2s.eq_1 @setG.eq_1
def LlHm.gxE:=aj8 ec3 ec4 ec7 ec10 @renL_ite ec11 @z1a.eq_1 @zu.eq_1
def LlHm.axE:=aj9 @zd @zf @zo @zh ec1 ec2 @zg @zp (aj9 @zq ec9 ec3 ec4 ec10 @z1a.eq_1 @zu.eq_1 @z2j (aj @pAt_ren @renL_ite))
open LlHm (gxE axE exE)
open LlBm (oxE)
open D0 (sdE)
def lock_spec (cs:List Cl)(ps:List Pr)(p:Nat)(x:Pr)(n m:Nat)(hn:cs.length=n)(hp:p<m)(hm:m<=8)(c ph:Int)(hc:0<=c/\c<n):
  zj prog 174 [.agg [.slc true 0 0 0 n,.slc true 1 0 0 m,.int .i64 p],.int .i64 c,.int .i64 ph] ⟨2,[(0,rO 117 5 n (z1x cs)),(1,rO 110 7 m (pAt ps p x))]⟩
   (fun s H1=>s= .bool (lkK cs c==0)/\H1=⟨2,[(1,rO 110 7 m (pAt ps p (lockP cs c x ph))),(0,rO 117 5 n (z1x (lockC cs c p)))]⟩):=by
 subst hn;refine Zf false 32 [.tmp 6] func174 ntmps174 results174 fun w0 own0 β0 Q hQ hQn=> ?_;refine Zrs [1,2,3] ?_;refine Zrs [2,3,7] (z6 ?_);refine Zrs [2,3,7,17] ?_;refine Zcn ?_ ?_
 ·intro h17;refine Zrs [6] (zb (hQ _ _ ?_));have h0:¬lkK cs c=0:=h17;rw[lockP,lockC,qc h0,qc h0,show(lkK cs c==0)=false by simpa using h0];refine Zob (⟨2,[(1,rO 110 7 m (pAt ps p x)),(0,rO 117 5 cs.length (z1x cs))]⟩) ?_
  all_goals(first|trivial|exact⟨rfl,trivial⟩)
 intro h17;refine z7 (z6 ?_);refine Zrd [] [0,1,2,3,4,5,6,7,8,9,10,11,12,13,14,15] (ws 0 [(12,[0]),(15,[1])]) (ws 0 [(1,[0]),(2,[0]),(3,[0]),(4,[0]),(5,[0]),(9,[0]),(12,[0]),(13,[0]),(14,[0]),(15,[0,1])]) ?_;intro K hK;refine Zo (Zi [] []) ?_;iterate 5 (refine Zo (Zi [] [0]) ?_)
 iterate 3 (refine Zo (Zi [] []) ?_)
 refine Zo (Zi [] [0]) ?_;iterate 2 (refine Zo (Zi [] []) ?_)
 refine Zo (Zi [0] [0]) ?_;rw[put_K cs c (p+1) (by omega)];refine Zad ?_;iterate 2 (refine Zo (Zi [] [0]) ?_)
 refine Zo (Zi [1] [0,1]) ?_;refine zz (Zpr (hK _ _ ?_));clear hK K;refine Zrs [6] (zb (hQ _ _ ?_));have h0:lkK cs c=0:=h17;rw[lockP,lockC,qe h0,qe h0,show(lkK cs c==0)=true by simpa using h0];refine Zob (⟨2,[(1,rO 110 7 m (pAt ps p ⟨x.kind,x.cell,ph,x.pred,x.succ,x.next,x.res⟩)),(0,rO 117 5 cs.length (z1x (setK cs c (p+1))))]⟩) ?_
 all_goals(first|trivial|exact⟨rfl,trivial⟩)
def unlkN (cs:List Cl)(p:Nat):Nat->List Cl
 |0=>cs
 |i+1=>if lkK (unlkN cs p i) (i:Int)=(p:Int)+1 then setK (unlkN cs p i) (i:Int) 0 else unlkN cs p i
def unlkN_len (cs:List Cl)(p:Nat):∀i,(unlkN cs p i).length=cs.length
 |0=>rfl
 |i+1=>by
  rw[unlkN];split
  ·rw[setK_len,unlkN_len cs p i]
  exact unlkN_len cs p i
def cl_setK (cs:List Cl)(i q:Nat)(v:Int)(hi:i<cs.length):cl (setK cs (i:Int) v) q=if q=i then {cl cs i with lock:=v} else cl cs q:=by
 unfold setK;rw[qq]
 by_cases e:q=i
 ·subst e;rw[qe rfl,cl_set_eq hi]
 rw[qc e,cl_set_ne (Qt e)]
def unlkN_at (cs:List Cl)(p:Nat):∀i,i<=cs.length->∀q,cl (unlkN cs p i) q=if q<i then unlk1 p (cl cs q) else cl cs q
 |0,_,q=>by rw[qc (by omega)];rfl
 |i+1,hi,q=>by
  have ih:=unlkN_at cs p i (by omega);have hl:=unlkN_len cs p i
  have e1:lkK (unlkN cs p i) (i:Int)=(cl cs i).lock:=by
   simp only[lkK,qq];rw[ih i,qc (by omega)]
  rw[unlkN,e1]
  by_cases h:(cl cs i).lock=(p:Int)+1
  ·rw[qe h,cl_setK _ _ _ _ (by omega),ih i,qc (jL i),ih q]
   by_cases e:q=i
   ·subst e;rw[qe rfl,qe (by omega),unlk1,qe h]
   rw[qc e]
   by_cases g:q<i
   ·rw[qe g,qe (by omega)]
   rw[qc g,qc (by omega)]
  rw[qc h,ih q]
  by_cases e:q=i
  ·subst e;rw[qc (jL _),qe (by omega),unlk1,qc h]
  by_cases g:q<i
  ·rw[qe g,qe (by omega)]
  rw[qc g,qc (by omega)]
def unlkN_all (cs:List Cl)(p:Nat):unlkN cs p cs.length=unlk cs p:=by
 have hl:(unlkN cs p cs.length).length=(unlk cs p).length:=by rw[unlkN_len,unlk_len]
 apply Qw hl;intro i h1 h2;have h3:i<cs.length:=by rw[unlkN_len] at h1;exact h1
 have:=unlkN_at cs p cs.length (qd _) i;rw[qe h3,<-cl_unlk,cl_lt h1,cl_lt h2] at this;exact this
def unlock_spec (cs:List Cl)(ps:List Pr)(p:Nat)(x:Pr)(n m:Nat)(hn:cs.length=n)(hp:p<m)(hm:m<=8)(hx:n<=1000):
  zj prog 176 [.agg [.slc true 0 0 0 n,.slc false 1 0 0 m,.int .i64 p]] ⟨2,[(0,rO 117 5 n (z1x cs)),(1,rI 110 7 m (pAt ps p x))]⟩
   (fun s H1=>s= .tup []/\H1=⟨2,[(0,rO 117 5 n (z1x (unlk cs p)))]⟩):=by
 subst hn;refine Zf false 28 [] func176 ntmps176 results176 fun w0 own0 β0 Q hQ hQn=> ?_;refine Zrs [1] ?_;refine Zrs [1,6,7] ?_;refine z8 fun Q0 hN0 hX0 hR0 hE0=> ?_;refine zl (σ:=Nat) (fun i=>i<=cs.length) (fun i=>cs.length-i) (fun i=>[(1,.ptr 2 0 0 0),(6,.int .i64 cs.length),(7,.int .i64 i)]) (fun i=>⟨3,[(2,rV 165 3 1 (fun _=>[.slc true 0 0 0 cs.length,.slc false 1 0 0 m,.int .i64 p])),(0,rO 117 5 cs.length (z1x (unlkN cs p i))),(1,rI 110 7 m (pAt ps p x))]⟩) 0 (ql _) (ρ:=id) (have xE:=aj @unlkN.eq_1 @unlkN.eq_2;Zgx id) ?_;rintro i hi QL1 hL1 hRL1 hEL1;refine Zrs [1,6,7,8] (z6 ?_);refine Zcn ?_ ?_
 ·intro h8;have hul:=unlkN_len cs p i;refine z7 (z6 ?_);refine z8 fun Q1 hN1 hX1 hR1 hE1=> ?_;refine Zrs [1,2,6,7] (z6 ?_);refine Zrq [1,2,6,7,20] [0,1,2,3,4,5,6,7,8,9,10] ?_;refine Zcm ?_ ?_
  ·intro h20;have h0:lkK (unlkN cs p i) (i:Int)=(p:Int)+1:=by replace h20:=Znb h20;exact h20
   refine z3v [1,6,7] rfl ?_;intro K hK;iterate 7 (refine Zo Zl ?_)
   rw[put_Kn (unlkN cs p i) i 0 (by omega)];refine Zad ?_;refine Zk hK ?_;clear hK K;refine za (hN1 _ _ (Zrg [1,6,7] (za (hL1 _ _ ?_))));rw[iS i];refine⟨i+1,⟨by omega,by omega⟩,id,?_⟩;rw[unlkN,qe h0];exact(Zg id)
  intro h20;have h0:¬lkK (unlkN cs p i) (i:Int)=(p:Int)+1:=by replace h20:=Znb h20;exact h20
  refine z7 (za (hN1 _ _ (Zrg [1,6,7] (za (hL1 _ _ ?_)))));rw[iS i];refine⟨i+1,⟨by omega,by omega⟩,id,?_⟩;rw[unlkN,qc h0];exact(Zg id)
 intro h8;have hi':i=cs.length:=by omega
 subst hi';refine zk (hEL1 _ _ _ (hX0 _ _ (za (hQn _ _ ?_))));rw[unlkN_all];refine Zob (⟨2,[(0,rO 117 5 cs.length (z1x (unlk cs p)))]⟩) ?_
 all_goals(first|trivial|exact⟨rfl,trivial⟩)
def find_specK (cs:List Cl)(ps:List Pr)(p:Nat)(x:Pr)(n m:Nat)(hn:cs.length=n)(hp:p<m)(h1:0<=x.succ/\x.succ<n)(h2:0<=x.cell/\x.cell<n):
  zj prog 173 [.agg [.slc false 0 0 0 n,.slc true 1 0 0 m,.int .i64 p]] ⟨2,[(0,rI 117 5 n (z1x cs)),(1,rO 110 7 m (pAt ps p x))]⟩
   (fun s H1=>s= .tup []/\H1=⟨2,[(1,rO 110 7 m (pAt ps p (findK cs x)))]⟩):=by
 subst hn;refine Zf false 53 [] func173 ntmps173 results173 fun w0 own0 β0 Q hQ hQn=> ?_;refine Zrs [1] ?_;refine Zrs [1,2] ?_;refine z8 fun Q0 hN0 hX0 hR0 hE0=> ?_;refine z6 ?_;refine Zrd [1,2,12] [0,1,2,3,4,5,6,7,8,9,10,11] [] [] ?_;intro K hK;iterate 10 (refine Zo (Zi [] []) ?_)
 refine Zd (Zi [] []) (less_specK cs cs.length m rfl x.succ x.cell h1 h2) (id) ?_;refine Zki hK ?_;clear hK K;refine Zcm ?_ ?_
 ·intro h12;refine Zrd [] [0,1,2,3,4,5,6,7,8,9,10,11,12,13,14,15,16,17,18,19,20,21] (ws 0 [(18,[1]),(21,[1])]) (ws 0 [(1,[1]),(18,[1]),(19,[1]),(20,[1]),(21,[1])]) ?_;intro K hK;refine Zo (Zi [] []) ?_;refine Zo (Zi [] [1]) ?_;iterate 16 (refine Zo (Zi [] []) ?_)
  refine Zo (Zi [1] [1]) ?_;iterate 2 (refine Zo (Zi [] [1]) ?_)
  refine Zo (Zi [1] [1]) ?_;refine zz (Zpr (hK _ _ ?_));clear hK K;refine za (hN0 _ _ (za (hQn _ _ ?_)));refine Zob (⟨2,[(1,rO 110 7 m (pAt ps p ⟨x.kind,x.cell,x.phase,x.succ,(cl cs x.succ.toNat).right,x.next,x.res⟩))]⟩) ?_;rw[findK,qe h12]
  all_goals(first|trivial|exact⟨rfl,trivial⟩)
 intro h12;refine Zrs [2,44] ?_;refine Zcn ?_ ?_
 ·intro h44;refine Zrg [] (za (hN0 _ _ (za (hQn _ _ ?_))));refine Zob (⟨2,[(1,rO 110 7 m (pAt ps p ⟨x.kind,x.cell,4,x.pred,x.succ,x.next,x.res⟩))]⟩) ?_;rw[findK,qc (by rw[h12];exact qh),qe h44]
  all_goals(first|trivial|exact⟨rfl,trivial⟩)
 intro h44;refine Zrg [] (za (hN0 _ _ (za (hQn _ _ ?_))));refine Zob (⟨2,[(1,rO 110 7 m (pAt ps p ⟨x.kind,x.cell,2,x.pred,x.succ,x.next,x.res⟩))]⟩) ?_;rw[findK,qc (by rw[h12];exact qh),qc h44]
 all_goals(first|trivial|exact⟨rfl,trivial⟩)
def check_specK (cs:List Cl)(ps:List Pr)(p:Nat)(x:Pr)(n m:Nat)(hn:cs.length=n)(hp:p<m)(h:PrOk n x):
  zj prog 175 [.agg [.slc false 0 0 0 n,.slc true 1 0 0 m,.int .i64 p]] ⟨2,[(0,rI 117 5 n (z1x cs)),(1,rO 110 7 m (pAt ps p x))]⟩
   (fun s H1=>s= .tup []/\H1=⟨2,[(1,rO 110 7 m (pAt ps p (z60 cs x)))]⟩):=by
 subst hn;obtain⟨hc1,hc2,hc3,hc4⟩:=h;refine Zf false 116 [] func175 ntmps175 results175 fun w0 own0 β0 Q hQ hQn=> ?_;refine Zrs [1] ?_;refine Zrs [1,2] (z6 ?_);refine Zrq [1,2,3] [0,1,2,3,4,5,6,7,8,9] ?_;refine z8 fun Q0 hN0 hX0 hR0 hE0=> ?_;refine Zrs [1,2,3,22] ?_;refine Zcn ?_ ?_
 ·intro h22;refine Zrd [] [0,1,2,3,4,5,6,7,8,9,10,11,12,13,14,15,16,17,18,19,20,21] (ws 0 [(18,[1]),(21,[1])]) (ws 0 [(1,[1]),(18,[1]),(19,[1]),(20,[1]),(21,[1])]) ?_;intro K hK;refine Zo (Zi [] []) ?_;refine Zo (Zi [] [1]) ?_;iterate 16 (refine Zo (Zi [] []) ?_)
  refine Zo (Zi [1] [1]) ?_;iterate 2 (refine Zo (Zi [] [1]) ?_)
  refine Zo (Zi [1] [1]) ?_;refine zz (Zpr (hK _ _ ?_));clear hK K;refine za (hN0 _ _ (za (hQn _ _ ?_)));refine Zob (⟨2,[(1,rO 110 7 m (pAt ps p ⟨x.kind,x.cell,18,x.pred,x.succ,x.next,x.succ==x.cell && !(cl cs x.cell.toNat).gone⟩))]⟩) ?_;rw[z60,qe h22]
  all_goals(first|trivial|exact⟨rfl,trivial⟩)
 intro h22;refine z6 (Zrq [2,3,48] [0,1,2,3,4,5,6,7,8,9,10,11,12,13,14,15,16,17,18,19,20,21,22,23,24,25,26,27,28,29,30,31,32,33,34,35,36,37,38,39] ?_);refine Zcm ?_ ?_
 ·intro h48;refine Zrg [] (za (hN0 _ _ (za (hQn _ _ ?_))));have hf:failK cs x=true:=h48;refine Zob (⟨2,[(1,rO 110 7 m (pAt ps p ⟨x.kind,x.cell,5,x.pred,x.succ,x.next,x.res⟩))]⟩) ?_;rw[z60,qc h22,qe hf]
  all_goals(first|trivial|exact⟨rfl,trivial⟩)
 intro h48;refine Zrs [2,3,91] ?_;refine Zcm ?_ ?_
 ·intro h91;refine Zrg [] (za (hN0 _ _ (za (hQn _ _ ?_))));have hf:failK cs x=false:=h48;refine Zob (⟨2,[(1,rO 110 7 m (pAt ps p ⟨x.kind,x.cell,6,x.pred,x.succ,x.next,x.res⟩))]⟩) ?_;rw[z60,qc h22,qc (by rw[hf];exact qh),qe h91]
  all_goals(first|trivial|exact⟨rfl,trivial⟩)
 intro h91;refine Zrs [2,104] ?_;refine Zcm ?_ ?_
 ·intro h104;refine Zrg [] (za (hN0 _ _ (za (hQn _ _ ?_))));have hf:failK cs x=false:=h48;refine Zob (⟨2,[(1,rO 110 7 m (pAt ps p ⟨x.kind,x.cell,9,x.pred,x.succ,x.next,x.res⟩))]⟩) ?_;rw[z60,qc h22,qc (by rw[hf];exact qh),qc (by rw[h91];exact qh),qe h104]
  all_goals(first|trivial|exact⟨rfl,trivial⟩)
 intro h104;refine Zrg [] (za (hN0 _ _ (za (hQn _ _ ?_))));have hf:failK cs x=false:=h48;refine Zob (⟨2,[(1,rO 110 7 m (pAt ps p ⟨x.kind,x.cell,13,x.pred,x.succ,x.next,x.res⟩))]⟩) ?_;rw[z60,qc h22,qc (by rw[hf];exact qh),qc (by rw[h91];exact qh),qc (by rw[h104];exact qh)]
 all_goals(first|trivial|exact⟨rfl,trivial⟩)
end
section
open LlHm (gxE axE exE)
open LlBm (oxE)
open D0 (sdE)
def step_spec (cs:List Cl)(ps:List Pr)(p:Nat)(x:Pr)(n m:Nat)(hn:cs.length=n)(hp:p<m)(hm8:m<=8)(hn0:0<n)(hn1:n<=1000)(h:PrOk n x)(hr:0<=rt cs x.cell/\rt cs x.cell<n):
  zj prog 142 [.agg [.slc true 0 0 0 n,.slc true 1 0 0 m,.int .i64 p]] ⟨2,[(0,rO 117 5 n (z1x cs)),(1,rO 110 7 m (pAt ps p x))]⟩
   (fun s H1=>s= .bool (z1v cs x)/\H1=⟨2,[(1,rO 110 7 m (pAt ps p (z1d cs x))),(0,rO 117 5 n (z1x (z1c cs p x)))]⟩):=by
 subst hn;obtain⟨hc1,hc2,hc3,hc4⟩:=h;refine Zf false 196 [.tmp 2] func142 ntmps142 results142 fun w0 own0 β0 Q hQ hQn=> ?_;refine Zrs [1] ?_;refine Zrs [1,3] (z6 ?_);refine Zrq [1,3,4] [0,1,2,3,4,5,6,7,8] (z6 ?_);refine Zrs [1,3,4,23] ?_;refine z8 fun Q0 hN0 hX0 hR0 hE0=> ?_;refine Zrs [1,3,4,23,24] ?_;refine Zcn ?_ ?_
 ·intro h24;refine z3v [] rfl ?_;intro K hK;refine Zo Zl ?_;refine Zd Zl (find_specK cs ps p x cs.length m rfl hp hc3 hc1) (id) ?_;refine Zk hK ?_;clear hK K;refine za (hN0 _ _ (Zrs [2] (zb (hQ _ _ ?_))));rw[show z1d cs x=findK cs x from by simp[z1d,h24],show z1c cs p x=cs from by simp[z1c,h24],show z1v cs x=true from by simp[z1v,z5x,h24]];refine Zob (⟨2,[(1,rO 110 7 m (pAt ps p (findK cs x))),(0,rO 117 5 cs.length (z1x (cs)))]⟩) ?_
  all_goals(first|trivial|exact⟨rfl,trivial⟩)
 intro h24;refine Zrs [1,3,4,23,28] ?_;refine Zcn ?_ ?_
 ·intro h28;refine z6 ?_;refine Zrd [2] [0,1,2,3,4,5,6] (ws 0 [(5,[0,1])]) (ws 0 [(5,[0,1]),(6,[0,1])]) ?_;intro K hK;iterate 5 (refine Zo (Zi [] []) ?_)
  refine Zd (Zi [0,1] [0,1]) (lock_spec cs ps p x cs.length m rfl hp hm8 x.pred 3 hc2) (id) ?_;refine Zo (Zi [] [0,1]) ?_;refine zz (Zpr (hK _ _ ?_));clear hK K;refine zb (hR0 _ _ (hQ _ _ ?_));rw[show z1d cs x=lockP cs x.pred x 3 from by simp[z1d,h28,lockP],show z1c cs p x=lockC cs x.pred p from by simp[z1c,h28,lockC],show z1v cs x=(lkK cs x.pred==0) from by simp[z1v,z5x,h28,bne]];refine Zob (⟨2,[(1,rO 110 7 m (pAt ps p (lockP cs x.pred x 3))),(0,rO 117 5 cs.length (z1x (lockC cs x.pred p)))]⟩) ?_
  all_goals(first|trivial|exact⟨rfl,trivial⟩)
 intro h28;refine Zrs [1,3,4,23,36] ?_;refine Zcn ?_ ?_
 ·intro h36;refine z6 ?_;refine Zrd [2] [0,1,2,3,4,5,6] (ws 0 [(5,[0,1])]) (ws 0 [(5,[0,1]),(6,[0,1])]) ?_;intro K hK;iterate 5 (refine Zo (Zi [] []) ?_)
  refine Zd (Zi [0,1] [0,1]) (lock_spec cs ps p x cs.length m rfl hp hm8 x.succ 4 hc3) (id) ?_;refine Zo (Zi [] [0,1]) ?_;refine zz (Zpr (hK _ _ ?_));clear hK K;refine zb (hR0 _ _ (hQ _ _ ?_));rw[show z1d cs x=lockP cs x.succ x 4 from by simp[z1d,h36,lockP],show z1c cs p x=lockC cs x.succ p from by simp[z1c,h36,lockC],show z1v cs x=(lkK cs x.succ==0) from by simp[z1v,z5x,h36,bne]];refine Zob (⟨2,[(1,rO 110 7 m (pAt ps p (lockP cs x.succ x 4))),(0,rO 117 5 cs.length (z1x (lockC cs x.succ p)))]⟩) ?_
  all_goals(first|trivial|exact⟨rfl,trivial⟩)
 intro h36;refine Zrs [1,3,4,23,44] ?_;refine Zcn ?_ ?_
 ·intro h44;refine z3v [] rfl ?_;intro K hK;refine Zo Zl ?_;refine Zd Zl (check_specK cs ps p x cs.length m rfl hp ⟨hc1,hc2,hc3,hc4⟩) (id) ?_;refine Zk hK ?_;clear hK K;refine za (hN0 _ _ (Zrs [2] (zb (hQ _ _ ?_))));rw[show z1d cs x=z60 cs x from by simp[z1d,h44],show z1c cs p x=cs from by simp[z1c,h44],show z1v cs x=true from by simp[z1v,z5x,h44]];refine Zob (⟨2,[(1,rO 110 7 m (pAt ps p (z60 cs x))),(0,rO 117 5 cs.length (z1x (cs)))]⟩) ?_
  all_goals(first|trivial|exact⟨rfl,trivial⟩)
 intro h44;refine Zrs [1,3,4,23,48] ?_;refine Zcn ?_ ?_
 ·intro h48;refine sg [1,3] rfl ?_;intro K hK;refine Zo Zl ?_;refine Zd Zl (unlock_spec cs ps p x cs.length m rfl hp hm8 hn1) (id) ?_;refine Zk hK ?_;clear hK K;refine Zrg [] (za (hN0 _ _ ?_));refine Zrs [2] (zb (hQ _ _ ?_));rw[show z1d cs x=⟨x.kind,x.cell,1,0,rt cs 0,x.next,x.res⟩ from by simp[z1d,h48],show z1c cs p x=unlk cs p from by simp[z1c,h48],show z1v cs x=true from by simp[z1v,z5x,h48]];rw[show rt cs 0=(cl (unlk cs p) 0).right from(rt_unlk cs p 0).symm];refine Zob (⟨2,[(1,rO 110 7 m (pAt ps p (⟨x.kind,x.cell,1,0,(cl (unlk cs p) 0).right,x.next,x.res⟩))),(0,rO 117 5 cs.length (z1x (unlk cs p)))]⟩) ?_
  all_goals(first|trivial|exact⟨rfl,trivial⟩)
 intro h48;refine Zrs [1,3,4,23,67] ?_;refine Zcn ?_ ?_
 ·intro h67;refine Zrd [] [0,1,2,3,4,5,6,7,8,9,10,11,12,13,14,15,16,17,18,19] (ws 0 [(13,[0]),(16,[0]),(19,[1])]) (ws 0 [(1,[0]),(2,[0]),(13,[0]),(14,[0]),(15,[0]),(16,[0]),(17,[0]),(18,[0]),(19,[0,1])]) ?_;intro K hK;refine Zo (Zi [] []) ?_;iterate 2 (refine Zo (Zi [] [0]) ?_)
  iterate 10 (refine Zo (Zi [] []) ?_)
  refine Zo (Zi [0] [0]) ?_;rw[put_F cs x.cell x.pred (by omega)];refine Zad ?_;iterate 2 (refine Zo (Zi [] [0]) ?_)
  refine Zo (Zi [0] [0]) ?_;rw[put_R (z4b cs x.cell x.pred) x.cell x.succ (by rw[z52];omega)];refine Zad ?_;iterate 2 (refine Zo (Zi [] [0]) ?_)
  refine Zo (Zi [1] [0,1]) ?_;refine zz (Zpr (hK _ _ ?_));clear hK K;refine za (hN0 _ _ (Zrs [2] (zb (hQ _ _ ?_))));rw[show z1d cs x=⟨x.kind,x.cell,7,x.pred,x.succ,x.next,x.res⟩ from by simp[z1d,h67],show z1c cs p x=z2s (z4b cs x.cell x.pred) x.cell x.succ from by simp[z1c,h67],show z1v cs x=true from by simp[z1v,z5x,h67]];refine Zob (⟨2,[(1,rO 110 7 m (pAt ps p (⟨x.kind,x.cell,7,x.pred,x.succ,x.next,x.res⟩))),(0,rO 117 5 cs.length (z1x (z2s (z4b cs x.cell x.pred) x.cell x.succ)))]⟩) ?_
  all_goals(first|trivial|exact⟨rfl,trivial⟩)
 intro h67;refine Zrs [1,3,4,23,86] ?_;refine Zcn ?_ ?_
 ·intro h86;refine Zrd [] [0,1,2,3,4,5,6,7,8,9,10,11,12,13,14,15,16,17,18,19,20,21] (ws 0 [(15,[0]),(18,[0]),(21,[1])]) (ws 0 [(7,[0]),(8,[0]),(15,[0]),(16,[0]),(17,[0]),(18,[0]),(19,[0]),(20,[0]),(21,[0,1])]) ?_;intro K hK;iterate 7 (refine Zo (Zi [] []) ?_)
  iterate 2 (refine Zo (Zi [] [0]) ?_)
  iterate 6 (refine Zo (Zi [] []) ?_)
  refine Zo (Zi [0] [0]) ?_;rw[put_R cs x.pred x.cell (by omega)];refine Zad ?_;iterate 2 (refine Zo (Zi [] [0]) ?_)
  refine Zo (Zi [0] [0]) ?_;rw[put_U (z2s cs x.pred x.cell) x.cell (by rw[z31];omega)];refine Zad ?_;iterate 2 (refine Zo (Zi [] [0]) ?_)
  refine Zo (Zi [1] [0,1]) ?_;refine zz (Zpr (hK _ _ ?_));clear hK K;refine za (hN0 _ _ (Zrs [2] (zb (hQ _ _ ?_))));rw[show z1d cs x=⟨x.kind,x.cell,8,x.pred,x.succ,x.next,x.res⟩ from by simp[z1d,h86],show z1c cs p x=setU (z2s cs x.pred x.cell) x.cell from by simp[z1c,h86],show z1v cs x=true from by simp[z1v,z5x,h86]];refine Zob (⟨2,[(1,rO 110 7 m (pAt ps p (⟨x.kind,x.cell,8,x.pred,x.succ,x.next,x.res⟩))),(0,rO 117 5 cs.length (z1x (setU (z2s cs x.pred x.cell) x.cell)))]⟩) ?_
  all_goals(first|trivial|exact⟨rfl,trivial⟩)
 intro h86;refine Zrs [1,3,4,23,107] ?_;refine Zcn ?_ ?_
 ·intro h107;refine Zrd [] [0,1,2,3,4,5,6,7,8,9,10,11,12,13,14,15,16,17,18,19,20,21] (ws 0 [(15,[0]),(18,[1]),(21,[1])]) (ws 0 [(7,[0]),(8,[0,1]),(15,[0]),(16,[0]),(17,[0]),(18,[0,1]),(19,[0,1]),(20,[0,1]),(21,[0,1])]) ?_;intro K hK;iterate 7 (refine Zo (Zi [] []) ?_)
  refine Zo (Zi [] [0]) ?_;refine Zo (Zi [] [0,1]) ?_;iterate 6 (refine Zo (Zi [] []) ?_)
  refine Zo (Zi [0] [0]) ?_;rw[put_F cs x.succ x.cell (by omega)];refine Zad ?_;iterate 2 (refine Zo (Zi [] [0]) ?_)
  refine Zo (Zi [1] [0,1]) ?_;iterate 2 (refine Zo (Zi [] [0,1]) ?_)
  refine Zo (Zi [1] [0,1]) ?_;refine zz (Zpr (hK _ _ ?_));clear hK K;refine za (hN0 _ _ (Zrs [2] (zb (hQ _ _ ?_))));rw[show z1d cs x=⟨x.kind,x.cell,13,x.pred,x.succ,x.next,true⟩ from by simp[z1d,h107],show z1c cs p x=z4b cs x.succ x.cell from by simp[z1c,h107],show z1v cs x=true from by simp[z1v,z5x,h107]];refine Zob (⟨2,[(1,rO 110 7 m (pAt ps p (⟨x.kind,x.cell,13,x.pred,x.succ,x.next,true⟩))),(0,rO 117 5 cs.length (z1x (z4b cs x.succ x.cell)))]⟩) ?_
  all_goals(first|trivial|exact⟨rfl,trivial⟩)
 intro h107;refine Zrs [1,3,4,23,128] ?_;refine Zcn ?_ ?_
 ·intro h128;refine Zrs [1,3,5] (z6 ?_);refine sg [3,5,137] rfl ?_;intro K hK;iterate 2 (refine Zo Zl ?_)
  refine Zd Zl (lock_spec cs ps p x cs.length m rfl hp hm8 (cl cs x.cell.toNat).right 10 hr) (id) ?_;refine Zkl hK ?_;clear hK K;refine Zcm ?_ ?_
  ·intro h137;have h0:¬lkK cs (cl cs x.cell.toNat).right=0:=by simpa using h137
   simp only[lockP,lockC,qc h0];have h0:¬lkK cs (rt cs x.cell)=0:=h0;refine Zrs [2] (zb (hR0 _ _ (hQ _ _ ?_)));rw[show z1d cs x=x from by simp[z1d,h128,h0],show z1c cs p x=cs from by simp[z1c,h128,h0],show z1v cs x=false from by simp[z1v,z5x,h128,h0]];refine Zob (⟨2,[(1,rO 110 7 m (pAt ps p (x))),(0,rO 117 5 cs.length (z1x (cs)))]⟩) ?_
   all_goals(first|trivial|exact⟨rfl,trivial⟩)
  intro h137;have h0:lkK cs (cl cs x.cell.toNat).right=0:=by simpa using h137
  simp only[lockP,lockC,qe h0];have h0:lkK cs (rt cs x.cell)=0:=h0;refine z7 (Zrg [] (za (hN0 _ _ ?_)));refine Zrs [2] (zb (hQ _ _ ?_));rw[show z1d cs x=⟨x.kind,x.cell,10,x.pred,x.succ,(cl cs x.cell.toNat).right,x.res⟩ from by simp[z1d,h128,h0];rfl,show z1c cs p x=setK cs (cl cs x.cell.toNat).right (p+1) from by simp[z1c,h128,h0]<;>rfl,show z1v cs x=true from by simp[z1v,z5x,h128,h0]];refine Zob (⟨2,[(1,rO 110 7 m (pAt ps p (⟨x.kind,x.cell,10,x.pred,x.succ,(cl cs x.cell.toNat).right,x.res⟩))),(0,rO 117 5 cs.length (z1x (setK cs (cl cs x.cell.toNat).right (p+1))))]⟩) ?_
  all_goals(first|trivial|exact⟨rfl,trivial⟩)
 intro h128;refine Zrs [1,3,4,23,142] ?_;refine Zcn ?_ ?_
 ·intro h142;refine z3v [] rfl ?_;intro K hK;iterate 5 (refine Zo Zl ?_)
  rw[put_G cs x.cell (by omega)];refine Zad ?_;refine Zkl hK ?_;clear hK K;refine za (hN0 _ _ (Zrs [2] (zb (hQ _ _ ?_))));rw[show z1d cs x=⟨x.kind,x.cell,11,x.pred,x.succ,x.next,x.res⟩ from by simp[z1d,h142],show z1c cs p x=setG cs x.cell from by simp[z1c,h142],show z1v cs x=true from by simp[z1v,z5x,h142]];refine Zob (⟨2,[(1,rO 110 7 m (pAt ps p (⟨x.kind,x.cell,11,x.pred,x.succ,x.next,x.res⟩))),(0,rO 117 5 cs.length (z1x (setG cs x.cell)))]⟩) ?_
  all_goals(first|trivial|exact⟨rfl,trivial⟩)
 intro h142;refine Zrs [1,3,23,150] ?_;refine Zcn ?_ ?_
 ·intro h150;refine Zrd [] [0,1,2,3,4,5,6,7,8,9,10,11,12,13,14,15,16,17] (ws 0 [(14,[0]),(17,[1])]) (ws 0 [(7,[0]),(14,[0]),(15,[0]),(16,[0]),(17,[0,1])]) ?_;intro K hK;iterate 7 (refine Zo (Zi [] []) ?_)
  refine Zo (Zi [] [0]) ?_;iterate 6 (refine Zo (Zi [] []) ?_)
  refine Zo (Zi [0] [0]) ?_;rw[put_R cs x.pred x.next (by omega)];refine Zad ?_;iterate 2 (refine Zo (Zi [] [0]) ?_)
  refine Zo (Zi [1] [0,1]) ?_;refine zz (Zpr (hK _ _ ?_));clear hK K;refine za (hN0 _ _ (Zrs [2] (zb (hQ _ _ ?_))));rw[show z1d cs x=⟨x.kind,x.cell,12,x.pred,x.succ,x.next,x.res⟩ from by simp[z1d,h150],show z1c cs p x=z2s cs x.pred x.next from by simp[z1c,h150],show z1v cs x=true from by simp[z1v,z5x,h150]];refine Zob (⟨2,[(1,rO 110 7 m (pAt ps p (⟨x.kind,x.cell,12,x.pred,x.succ,x.next,x.res⟩))),(0,rO 117 5 cs.length (z1x (z2s cs x.pred x.next)))]⟩) ?_
  all_goals(first|trivial|exact⟨rfl,trivial⟩)
 intro h150;refine Zrs [1,3,23,168] ?_;refine Zcn ?_ ?_
 ·intro h168;refine Zrd [] [0,1,2,3,4,5,6,7,8,9,10,11,12,13,14,15,16,17,18,19,20,21] (ws 0 [(15,[0]),(18,[1]),(21,[1])]) (ws 0 [(7,[0]),(8,[0,1]),(15,[0]),(16,[0]),(17,[0]),(18,[0,1]),(19,[0,1]),(20,[0,1]),(21,[0,1])]) ?_;intro K hK;iterate 7 (refine Zo (Zi [] []) ?_)
  refine Zo (Zi [] [0]) ?_;refine Zo (Zi [] [0,1]) ?_;iterate 6 (refine Zo (Zi [] []) ?_)
  refine Zo (Zi [0] [0]) ?_;rw[put_F cs x.next x.pred (by omega)];refine Zad ?_;iterate 2 (refine Zo (Zi [] [0]) ?_)
  refine Zo (Zi [1] [0,1]) ?_;iterate 2 (refine Zo (Zi [] [0,1]) ?_)
  refine Zo (Zi [1] [0,1]) ?_;refine zz (Zpr (hK _ _ ?_));clear hK K;refine za (hN0 _ _ (Zrs [2] (zb (hQ _ _ ?_))));rw[show z1d cs x=⟨x.kind,x.cell,13,x.pred,x.succ,x.next,true⟩ from by simp[z1d,h168],show z1c cs p x=z4b cs x.next x.pred from by simp[z1c,h168],show z1v cs x=true from by simp[z1v,z5x,h168]];refine Zob (⟨2,[(1,rO 110 7 m (pAt ps p (⟨x.kind,x.cell,13,x.pred,x.succ,x.next,true⟩))),(0,rO 117 5 cs.length (z1x (z4b cs x.next x.pred)))]⟩) ?_
  all_goals(first|trivial|exact⟨rfl,trivial⟩)
 intro h168;refine Zrs [1,3,189] ?_;refine Zcn ?_ ?_
 ·intro h189;refine sg [3] rfl ?_;intro K hK;refine Zo Zl ?_;refine Zd Zl (unlock_spec cs ps p x cs.length m rfl hp hm8 hn1) (id) ?_;refine Zk hK ?_;clear hK K;refine Zrg [] (za (hN0 _ _ ?_));refine Zrs [2] (zb (hQ _ _ ?_));rw[show z1d cs x=⟨x.kind,x.cell,18,x.pred,x.succ,x.next,x.res⟩ from by simp[z1d,h189],show z1c cs p x=unlk cs p from by simp[z1c,h189],show z1v cs x=true from by simp[z1v,z5x,h189]];refine Zob (⟨2,[(1,rO 110 7 m (pAt ps p (⟨x.kind,x.cell,18,x.pred,x.succ,x.next,x.res⟩))),(0,rO 117 5 cs.length (z1x (unlk cs p)))]⟩) ?_
  all_goals(first|trivial|exact⟨rfl,trivial⟩)
 intro h189;refine Zrs [2] (zb (hR0 _ _ (hQ _ _ ?_)));rw[show z1d cs x=x from by simp[z1d,h24,h28,h36,h44,h48,h67,h86,h107,h128,h142,h150,h168,h189],show z1c cs p x=cs from by simp[z1c,h24,h28,h36,h44,h48,h67,h86,h107,h128,h142,h150,h168,h189],show z1v cs x=false from by rw[z1v,qG (by omega)];rfl];refine Zob (⟨2,[(1,rO 110 7 m (pAt ps p (x))),(0,rO 117 5 cs.length (z1x (cs)))]⟩) ?_
 all_goals(first|trivial|exact⟨rfl,trivial⟩)
end
section
open LlHm (gxE axE exE)
open LlBm (oxE)
open D0 (sdE)
def refLock_spec (cs:List Cl)(ps:List Pr)(p:Nat)(x:Pr)(n m:Nat)(hn:cs.length=n)(hp:p<m)(hm:m<=8)(c:Int)(hc:0<=c/\c<n):
  zj prog 145 [.agg [.slc true 0 0 0 n,.slc false 1 0 0 m],.int .i64 p,.int .i64 c] ⟨2,[(0,rO 117 5 n (z1x cs)),(1,rI 110 7 m (pAt ps p x))]⟩
   (fun s H1=>s= .bool (lkK cs c==0)/\H1=⟨2,[(0,rO 117 5 n (z1x (lockC cs c p)))]⟩):=by
 subst hn;refine Zf false 21 [.tmp 6] func145 ntmps145 results145 fun w0 own0 β0 Q hQ hQn=> ?_;refine Zrs [1,2,3] (z6 ?_);refine Zrs [1,2,3,13] ?_;refine Zcn ?_ ?_
 ·intro h13;refine Zrs [6] (zb (hQ _ _ ?_));have h0:¬lkK cs c=0:=h13;rw[lockC,qc h0,show(lkK cs c==0)=false by simpa using h0];refine Zob (⟨2,[(0,rO 117 5 cs.length (z1x cs))]⟩) ?_
  all_goals(first|trivial|exact⟨rfl,trivial⟩)
 intro h13;refine z7 (sg [] rfl ?_);intro K hK;iterate 8 (refine Zo Zl ?_)
 rw[put_K cs c (p+1) (by omega)];refine Zad ?_;refine Zk hK ?_;clear hK K;refine Zrs [6] (zb (hQ _ _ ?_));have h0:lkK cs c=0:=h13;rw[lockC,qe h0,show(lkK cs c==0)=true by simpa using h0];refine Zob (⟨2,[(0,rO 117 5 cs.length (z1x (setK cs c (p+1))))]⟩) ?_
 all_goals(first|trivial|exact⟨rfl,trivial⟩)
def refUnlock_spec (cs:List Cl)(ps:List Pr)(p:Nat)(x:Pr)(n m:Nat)(hn:cs.length=n)(hp:p<m)(hm:m<=8)(hx:n<=1000):
  zj prog 147 [.agg [.slc true 0 0 0 n,.slc false 1 0 0 m],.int .i64 p] ⟨2,[(0,rO 117 5 n (z1x cs)),(1,rI 110 7 m (pAt ps p x))]⟩
   (fun s H1=>s= .tup []/\H1=⟨2,[(0,rO 117 5 n (z1x (unlk cs p)))]⟩):=by
 subst hn;refine Zf false 26 [] func147 ntmps147 results147 fun w0 own0 β0 Q hQ hQn=> ?_;refine Zrs [1,2] ?_;refine Zrs [1,2,4] ?_;refine z8 fun Q0 hN0 hX0 hR0 hE0=> ?_;refine zl (σ:=Nat) (fun i=>i<=cs.length) (fun i=>cs.length-i) (fun i=>[(1,.int .i64 p),(2,.ptr 2 0 0 0),(4,.int .i64 i)]) (fun i=>⟨3,[(2,rV 85 2 1 (fun _=>[.slc true 0 0 0 cs.length,.slc false 1 0 0 m])),(0,rO 117 5 cs.length (z1x (unlkN cs p i))),(1,rI 110 7 m (pAt ps p x))]⟩) 0 (ql _) (ρ:=id) (have xE:=aj @unlkN.eq_1 @unlkN.eq_2;Zgx id) ?_;rintro i hi QL1 hL1 hRL1 hEL1;refine z6 (Zrs [1,2,4,9] ?_);refine Zcn ?_ ?_
 ·intro h9;have hul:=unlkN_len cs p i;refine z7 (z6 ?_);refine z8 fun Q1 hN1 hX1 hR1 hE1=> ?_;refine Zrs [1,2,4,20] ?_;refine Zcm ?_ ?_
  ·intro h20;have h0:lkK (unlkN cs p i) (i:Int)=(p:Int)+1:=by replace h20:=Znb h20;exact h20
   refine z3v [1,2,4] rfl ?_;intro K hK;iterate 6 (refine Zo Zl ?_)
   rw[put_Kn (unlkN cs p i) i 0 (by omega)];refine Zad ?_;refine Zk hK ?_;clear hK K;refine za (hN1 _ _ (Zrg [1,2,4] (za (hL1 _ _ ?_))));rw[iS i];refine⟨i+1,⟨by omega,by omega⟩,id,?_⟩;rw[unlkN,qe h0];exact(Zg id)
  intro h20;have h0:¬lkK (unlkN cs p i) (i:Int)=(p:Int)+1:=by replace h20:=Znb h20;exact h20
  refine z7 (za (hN1 _ _ (Zrg [1,2,4] (za (hL1 _ _ ?_)))));rw[iS i];refine⟨i+1,⟨by omega,by omega⟩,id,?_⟩;rw[unlkN,qc h0];exact(Zg id)
 intro h9;have hi':i=cs.length:=by omega
 subst hi';refine zk (hEL1 _ _ _ (hX0 _ _ (za (hQn _ _ ?_))));rw[unlkN_all];refine Zob (⟨2,[(0,rO 117 5 cs.length (z1x (unlk cs p)))]⟩) ?_
 all_goals(first|trivial|exact⟨rfl,trivial⟩)
def refCheck_specK (cs:List Cl)(ps:List Pr)(p:Nat)(x:Pr)(n m:Nat)(hn:cs.length=n)(hp:p<m)(h:PrOk n x):
  zj prog 146 [.agg [.slc false 0 0 0 n,.slc true 1 0 0 m],.ptr 1 0 p 0] ⟨2,[(0,rI 117 5 n (z1x cs)),(1,rO 110 7 m (pAt ps p x))]⟩
   (fun s H1=>s= .tup []/\H1=⟨2,[(1,rO 110 7 m (pAt ps p (z60 cs x)))]⟩):=by
 subst hn;obtain⟨hc1,hc2,hc3,hc4⟩:=h;refine Zf false 107 [] func146 ntmps146 results146 fun w0 own0 β0 Q hQ hQn=> ?_;refine Zrs [1,2] (z6 ?_);refine Zrq [1,2,4] [0,1,2,3,4,5,6,7,8,9] ?_;refine z8 fun Q0 hN0 hX0 hR0 hE0=> ?_;refine Zrs [1,2,4,17] ?_;refine Zcn ?_ ?_
 ·intro h17;refine Zrd [] [0,1,2,3,4,5,6,7,8,9,10,11,12,13,14,15,16,17,18,19,20] (ws 0 [(17,[1]),(20,[1])]) (ws 0 [(1,[1]),(17,[1]),(18,[1]),(19,[1]),(20,[1])]) ?_;intro K hK;refine Zo (Zi [] []) ?_;refine Zo (Zi [] [1]) ?_;iterate 15 (refine Zo (Zi [] []) ?_)
  refine Zo (Zi [1] [1]) ?_;iterate 2 (refine Zo (Zi [] [1]) ?_)
  refine Zo (Zi [1] [1]) ?_;refine zz (Zpr (hK _ _ ?_));clear hK K;refine za (hN0 _ _ (za (hQn _ _ ?_)));refine Zob (⟨2,[(1,rO 110 7 m (pAt ps p ⟨x.kind,x.cell,18,x.pred,x.succ,x.next,x.succ==x.cell && !(cl cs x.cell.toNat).gone⟩))]⟩) ?_;rw[z60,qe h17]
  all_goals(first|trivial|exact⟨rfl,trivial⟩)
 intro h17;refine z6 (Zrq [1,4,42] [0,1,2,3,4,5,6,7,8,9,10,11,12,13,14,15,16,17,18,19,20,21,22,23,24,25,26,27,28,29,30,31,32,33,34,35,36] ?_);refine Zcm ?_ ?_
 ·intro h42;refine Zrg [] (za (hN0 _ _ (za (hQn _ _ ?_))));have hf:failK cs x=true:=h42;refine Zob (⟨2,[(1,rO 110 7 m (pAt ps p ⟨x.kind,x.cell,5,x.pred,x.succ,x.next,x.res⟩))]⟩) ?_;rw[z60,qc h17,qe hf]
  all_goals(first|trivial|exact⟨rfl,trivial⟩)
 intro h42;refine Zrs [1,4,82] ?_;refine Zcm ?_ ?_
 ·intro h82;refine Zrg [] (za (hN0 _ _ (za (hQn _ _ ?_))));have hf:failK cs x=false:=h42;refine Zob (⟨2,[(1,rO 110 7 m (pAt ps p ⟨x.kind,x.cell,6,x.pred,x.succ,x.next,x.res⟩))]⟩) ?_;rw[z60,qc h17,qc (by rw[hf];exact qh),qe h82]
  all_goals(first|trivial|exact⟨rfl,trivial⟩)
 intro h82;refine Zrs [1,95] ?_;refine Zcm ?_ ?_
 ·intro h95;refine Zrg [] (za (hN0 _ _ (za (hQn _ _ ?_))));have hf:failK cs x=false:=h42;refine Zob (⟨2,[(1,rO 110 7 m (pAt ps p ⟨x.kind,x.cell,9,x.pred,x.succ,x.next,x.res⟩))]⟩) ?_;rw[z60,qc h17,qc (by rw[hf];exact qh),qc (by rw[h82];exact qh),qe h95]
  all_goals(first|trivial|exact⟨rfl,trivial⟩)
 intro h95;refine Zrg [] (za (hN0 _ _ (za (hQn _ _ ?_))));have hf:failK cs x=false:=h42;refine Zob (⟨2,[(1,rO 110 7 m (pAt ps p ⟨x.kind,x.cell,13,x.pred,x.succ,x.next,x.res⟩))]⟩) ?_;rw[z60,qc h17,qc (by rw[hf];exact qh),qc (by rw[h82];exact qh),qc (by rw[h95];exact qh)]
 all_goals(first|trivial|exact⟨rfl,trivial⟩)
def change_spec (cs:List Cl)(ps:List Pr)(p:Nat)(x:Pr)(n m:Nat)(hn:cs.length=n)(hp:p<m)(h:PrOk n x)(hph:x.phase=6\/x.phase=7\/x.phase=8\/x.phase=10\/x.phase=11\/x.phase=12):
  zj prog 148 [.agg [.slc true 0 0 0 n,.slc true 1 0 0 m],.ptr 1 0 p 0] ⟨2,[(0,rO 117 5 n (z1x cs)),(1,rO 110 7 m (pAt ps p x))]⟩
   (fun s H1=>s= .tup []/\H1=⟨2,[(1,rO 110 7 m (pAt ps p (z1d cs x))),(0,rO 117 5 n (z1x (z1c cs p x)))]⟩):=by
 subst hn;obtain⟨hc1,hc2,hc3,hc4⟩:=h;refine Zf false 118 [] func148 ntmps148 results148 fun w0 own0 β0 Q hQ hQn=> ?_;refine Zrs [1,2] (z6 ?_);refine Zrq [1,2,4] [0,1,2,3,4,5,6,7] ?_;refine Zrs [1,2,4,15] ?_;refine z8 fun Q0 hN0 hX0 hR0 hE0=> ?_;refine Zrs [1,2,4,15,34] ?_;refine Zcn ?_ ?_
 ·intro h34;refine z6 ?_;refine Zrd [1] [0,1,2,3,4,5,6,7,8,9,10,11,12,13,14,15] (ws 0 [(12,[0]),(15,[0])]) (ws 0 [(1,[0]),(12,[0]),(13,[0]),(14,[0]),(15,[0])]) ?_;intro K hK;refine Zo (Zi [] []) ?_;refine Zo (Zi [] [0]) ?_;iterate 10 (refine Zo (Zi [] []) ?_)
  refine Zo (Zi [0] [0]) ?_;rw[put_F cs x.cell x.pred (by omega)];refine Zad ?_;iterate 2 (refine Zo (Zi [] [0]) ?_)
  refine Zo (Zi [0] [0]) ?_;rw[put_R (z4b cs x.cell x.pred) x.cell x.succ (by rw[z52];omega)];refine Zad ?_;refine zz (Zpr (hK _ _ ?_));clear hK K;refine Zrg [] (za (hN0 _ _ (za (hQn _ _ ?_))));rw[show z1d cs x=⟨x.kind,x.cell,7,x.pred,x.succ,x.next,x.res⟩ by simp[z1d,h34],show z1c cs p x=z2s (z4b cs x.cell x.pred) x.cell x.succ by simp[z1c,h34]];refine Zob (⟨2,[(1,rO 110 7 m (pAt ps p (⟨x.kind,x.cell,7,x.pred,x.succ,x.next,x.res⟩))),(0,rO 117 5 cs.length (z1x (z2s (z4b cs x.cell x.pred) x.cell x.succ)))]⟩) ?_
  all_goals(first|trivial|exact⟨rfl,trivial⟩)
 intro h34;refine Zrs [1,2,4,15,53] ?_;refine Zcn ?_ ?_
 ·intro h53;refine z6 ?_;refine Zrd [1,4] [0,1,2,3,4,5,6,7,8,9,10,11,12] (ws 0 [(12,[0])]) (ws 0 [(12,[0])]) ?_;intro K hK;iterate 12 (refine Zo (Zi [] []) ?_)
  refine Zo (Zi [0] [0]) ?_;rw[put_R cs x.pred x.cell (by omega)];refine Zad ?_;refine zz (Zpr (hK _ _ ?_));clear hK K;refine sg [1] rfl ?_;intro K hK;iterate 4 (refine Zo Zl ?_)
  rw[put_U (z2s cs x.pred x.cell) x.cell (by rw[z31];omega)];refine Zad ?_;refine Zk hK ?_;clear hK K;refine Zrg [] (za (hN0 _ _ (za (hQn _ _ ?_))));rw[show z1d cs x=⟨x.kind,x.cell,8,x.pred,x.succ,x.next,x.res⟩ by simp[z1d,h53],show z1c cs p x=setU (z2s cs x.pred x.cell) x.cell by simp[z1c,h53]];refine Zob (⟨2,[(1,rO 110 7 m (pAt ps p (⟨x.kind,x.cell,8,x.pred,x.succ,x.next,x.res⟩))),(0,rO 117 5 cs.length (z1x (setU (z2s cs x.pred x.cell) x.cell)))]⟩) ?_
  all_goals(first|trivial|exact⟨rfl,trivial⟩)
 intro h53;refine Zrs [1,2,4,15,73] ?_;refine Zcn ?_ ?_
 ·intro h73;refine z6 ?_;refine Zrd [1] [0,1,2,3,4,5,6,7,8,9,10,11,12] (ws 0 [(12,[0])]) (ws 0 [(12,[0])]) ?_;intro K hK;iterate 12 (refine Zo (Zi [] []) ?_)
  refine Zo (Zi [0] [0]) ?_;rw[put_F cs x.succ x.cell (by omega)];refine Zad ?_;refine zz (Zpr (hK _ _ ?_));clear hK K;refine Zrg [] (za (hN0 _ _ (za (hQn _ _ ?_))));rw[show z1d cs x=⟨x.kind,x.cell,13,x.pred,x.succ,x.next,true⟩ by simp[z1d,h73],show z1c cs p x=z4b cs x.succ x.cell by simp[z1c,h73]];refine Zob (⟨2,[(1,rO 110 7 m (pAt ps p (⟨x.kind,x.cell,13,x.pred,x.succ,x.next,true⟩))),(0,rO 117 5 cs.length (z1x (z4b cs x.succ x.cell)))]⟩) ?_
  all_goals(first|trivial|exact⟨rfl,trivial⟩)
 intro h73;refine Zrs [1,2,4,15,93] ?_;refine Zcn ?_ ?_
 ·intro h93;refine sg [1] rfl ?_;intro K hK;iterate 4 (refine Zo Zl ?_)
  rw[put_G cs x.cell (by omega)];refine Zad ?_;refine Zk hK ?_;clear hK K;refine Zrg [] (za (hN0 _ _ (za (hQn _ _ ?_))));rw[show z1d cs x=⟨x.kind,x.cell,11,x.pred,x.succ,x.next,x.res⟩ by simp[z1d,h93],show z1c cs p x=setG cs x.cell by simp[z1c,h93]];refine Zob (⟨2,[(1,rO 110 7 m (pAt ps p (⟨x.kind,x.cell,11,x.pred,x.succ,x.next,x.res⟩))),(0,rO 117 5 cs.length (z1x (setG cs x.cell)))]⟩) ?_
  all_goals(first|trivial|exact⟨rfl,trivial⟩)
 intro h93;refine Zrs [1,2,101] ?_;refine Zcn ?_ ?_
 ·intro h101;refine z6 ?_;refine Zrd [1] [0,1,2,3,4,5,6,7,8,9,10,11,12] (ws 0 [(12,[0])]) (ws 0 [(12,[0])]) ?_;intro K hK;iterate 12 (refine Zo (Zi [] []) ?_)
  refine Zo (Zi [0] [0]) ?_;rw[put_R cs x.pred x.next (by omega)];refine Zad ?_;refine zz (Zpr (hK _ _ ?_));clear hK K;refine Zrg [] (za (hN0 _ _ (za (hQn _ _ ?_))));rw[show z1d cs x=⟨x.kind,x.cell,12,x.pred,x.succ,x.next,x.res⟩ by simp[z1d,h101],show z1c cs p x=z2s cs x.pred x.next by simp[z1c,h101]];refine Zob (⟨2,[(1,rO 110 7 m (pAt ps p (⟨x.kind,x.cell,12,x.pred,x.succ,x.next,x.res⟩))),(0,rO 117 5 cs.length (z1x (z2s cs x.pred x.next)))]⟩) ?_
  all_goals(first|trivial|exact⟨rfl,trivial⟩)
 intro h101;have h12:x.phase=12:=by omega
 refine z6 ?_;refine Zrd [1] [0,1,2,3,4,5,6,7,8,9,10,11,12] (ws 0 [(12,[0])]) (ws 0 [(12,[0])]) ?_;intro K hK;iterate 12 (refine Zo (Zi [] []) ?_)
 refine Zo (Zi [0] [0]) ?_;rw[put_F cs x.next x.pred (by omega)];refine Zad ?_;refine zz (Zpr (hK _ _ ?_));clear hK K;refine Zrg [] (za (hN0 _ _ (za (hQn _ _ ?_))));rw[show z1d cs x=⟨x.kind,x.cell,13,x.pred,x.succ,x.next,true⟩ by simp[z1d,h12],show z1c cs p x=z4b cs x.next x.pred by simp[z1c,h12]];refine Zob (⟨2,[(1,rO 110 7 m (pAt ps p (⟨x.kind,x.cell,13,x.pred,x.succ,x.next,true⟩))),(0,rO 117 5 cs.length (z1x (z4b cs x.next x.pred)))]⟩) ?_
 all_goals(first|trivial|exact⟨rfl,trivial⟩)
def refStep_spec (cs:List Cl)(ps:List Pr)(p:Nat)(x:Pr)(n m:Nat)(hn:cs.length=n)(hp:p<m)(hm8:m<=8)(hn0:0<n)(hn1:n<=1000)(h:PrOk n x)(hr:0<=rt cs x.cell/\rt cs x.cell<n)(hph:1<=x.phase/\x.phase<=13):
  zj prog 109 [.agg [.slc true 0 0 0 n,.slc true 1 0 0 m],.int .i64 p] ⟨2,[(0,rO 117 5 n (z1x cs)),(1,rO 110 7 m (pAt ps p x))]⟩
   (fun s H1=>s= .bool (z1v cs x)/\H1=⟨2,[(1,rO 110 7 m (pAt ps p (z1d cs x))),(0,rO 117 5 n (z1x (z1c cs p x)))]⟩):=by
 subst hn;obtain⟨hc1,hc2,hc3,hc4⟩:=h;have hsb:z5x cs x=false->z1v cs x=true:=fun e=>by rw[z1v,e,qB hph];rfl
 refine Zf false 143 [.tmp 4] func109 ntmps109 results109 fun w0 own0 β0 Q hQ hQn=> ?_;refine Zrs [1,2] ?_;refine Zrs [1,2,5] (z6 ?_);refine Zrs [1,2,5,14] ?_;refine z8 fun Q0 hN0 hX0 hR0 hE0=> ?_;refine Zrs [1,2,5,14,18] ?_;refine Zcn ?_ ?_
 ·intro h18;refine z8 fun Q1 hN1 hX1 hR1 hE1=> ?_;refine z6 ?_;refine Zrd [2,5,23] [0,1,2,3,4,5,6,7,8,9,10] [] [] ?_;intro K hK;iterate 9 (refine Zo (Zi [] []) ?_)
  refine Zd (Zi [] []) (below_spec cs cs.length m rfl x.succ x.cell hc3 hc1) (id) ?_;refine Zki hK ?_;clear hK K;refine Zcm ?_ ?_
  ·intro h23;refine Zrd [] [0,1,2,3,4,5,6,7,8,9,10,11,12,13,14,15,16,17,18,19,20] (ws 0 [(17,[1]),(20,[1])]) (ws 0 [(1,[1]),(17,[1]),(18,[1]),(19,[1]),(20,[1])]) ?_;intro K hK;refine Zo (Zi [] []) ?_;refine Zo (Zi [] [1]) ?_;iterate 15 (refine Zo (Zi [] []) ?_)
   refine Zo (Zi [1] [1]) ?_;iterate 2 (refine Zo (Zi [] [1]) ?_)
   refine Zo (Zi [1] [1]) ?_;refine zz (Zpr (hK _ _ ?_));clear hK K;refine za (hN1 _ _ (za (hN0 _ _ (Zrs [4] (zb (hQ _ _ ?_))))));rw[show z1d cs x=⟨x.kind,x.cell,x.phase,x.succ,(cl cs x.succ.toNat).right,x.next,x.res⟩ from by simp[z1d,h18,findK,h23]<;>rfl,show z1c cs p x=cs from by simp[z1c,h18,findK,h23]<;>rfl,show z1v cs x=true from by simp[z1v,z5x,h18,findK,h23]];refine Zob (⟨2,[(1,rO 110 7 m (pAt ps p (⟨x.kind,x.cell,x.phase,x.succ,(cl cs x.succ.toNat).right,x.next,x.res⟩))),(0,rO 117 5 cs.length (z1x (cs)))]⟩) ?_
   all_goals(first|trivial|exact⟨rfl,trivial⟩)
  intro h23;refine Zrs [5,53] ?_;refine Zcn ?_ ?_
  ·intro h53;refine Zrg [] (za (hN1 _ _ (za (hN0 _ _ ?_))));refine Zrs [4] (zb (hQ _ _ ?_));rw[show z1d cs x=⟨x.kind,x.cell,4,x.pred,x.succ,x.next,x.res⟩ from by simp[z1d,h18,findK,h23,h53]<;>rfl,show z1c cs p x=cs from by simp[z1c,h18,findK,h23,h53]<;>rfl,show z1v cs x=true from by simp[z1v,z5x,h18,findK,h23,h53]];refine Zob (⟨2,[(1,rO 110 7 m (pAt ps p (⟨x.kind,x.cell,4,x.pred,x.succ,x.next,x.res⟩))),(0,rO 117 5 cs.length (z1x (cs)))]⟩) ?_
   all_goals(first|trivial|exact⟨rfl,trivial⟩)
  intro h53;refine Zrg [] (za (hN1 _ _ (za (hN0 _ _ ?_))));refine Zrs [4] (zb (hQ _ _ ?_));rw[show z1d cs x=⟨x.kind,x.cell,2,x.pred,x.succ,x.next,x.res⟩ from by simp[z1d,h18,findK,h23,h53]<;>rfl,show z1c cs p x=cs from by simp[z1c,h18,findK,h23,h53]<;>rfl,show z1v cs x=true from by simp[z1v,z5x,h18,findK,h23,h53]];refine Zob (⟨2,[(1,rO 110 7 m (pAt ps p (⟨x.kind,x.cell,2,x.pred,x.succ,x.next,x.res⟩))),(0,rO 117 5 cs.length (z1x (cs)))]⟩) ?_
  all_goals(first|trivial|exact⟨rfl,trivial⟩)
 intro h18;refine Zrs [1,2,5,14,62] ?_;refine Zcn ?_ ?_
 ·intro h62;refine z6 (z6 ?_);refine Zrd [5,71] [0,1,2,3,4,5,6,7] (ws 0 [(6,[0])]) (ws 0 [(6,[0]),(7,[0])]) ?_;intro K hK;iterate 6 (refine Zo (Zi [] []) ?_)
  refine Zd (Zi [0] [0]) (refLock_spec cs ps p x cs.length m rfl hp hm8 x.pred hc2) (id) ?_;refine Zo (Zi [] [0]) ?_;refine zz (Zpr (hK _ _ ?_));clear hK K;refine Zcm ?_ ?_
  ·intro h71;have h0:¬lkK cs x.pred=0:=by simpa using h71
   simp only[lockC,qc h0];refine Zrs [4] (zb (hR0 _ _ (hQ _ _ ?_)));rw[show z1d cs x=x from by simp[z1d,h62,h0]<;>rfl,show z1c cs p x=cs from by simp[z1c,h62,h0]<;>rfl,show z1v cs x=false from by simp[z1v,z5x,h62,h0]];refine Zob (⟨2,[(1,rO 110 7 m (pAt ps p (x))),(0,rO 117 5 cs.length (z1x (cs)))]⟩) ?_
   all_goals(first|trivial|exact⟨rfl,trivial⟩)
  intro h71;have h0:lkK cs x.pred=0:=by simpa using h71
  simp only[lockC,qe h0];refine z7 (Zrg [] (za (hN0 _ _ ?_)));refine Zrs [4] (zb (hQ _ _ ?_));rw[show z1d cs x=⟨x.kind,x.cell,3,x.pred,x.succ,x.next,x.res⟩ from by simp[z1d,h62,h0]<;>rfl,show z1c cs p x=setK cs x.pred (p+1) from by simp[z1c,h62,h0]<;>rfl,show z1v cs x=true from by simp[z1v,z5x,h62,h0]];refine Zob (⟨2,[(1,rO 110 7 m (pAt ps p (⟨x.kind,x.cell,3,x.pred,x.succ,x.next,x.res⟩))),(0,rO 117 5 cs.length (z1x (setK cs x.pred (p+1))))]⟩) ?_
  all_goals(first|trivial|exact⟨rfl,trivial⟩)
 intro h62;refine Zrs [1,2,5,14,75] ?_;refine Zcn ?_ ?_
 ·intro h75;refine z6 (z6 ?_);refine Zrd [5,84] [0,1,2,3,4,5,6,7] (ws 0 [(6,[0])]) (ws 0 [(6,[0]),(7,[0])]) ?_;intro K hK;iterate 6 (refine Zo (Zi [] []) ?_)
  refine Zd (Zi [0] [0]) (refLock_spec cs ps p x cs.length m rfl hp hm8 x.succ hc3) (id) ?_;refine Zo (Zi [] [0]) ?_;refine zz (Zpr (hK _ _ ?_));clear hK K;refine Zcm ?_ ?_
  ·intro h84;have h0:¬lkK cs x.succ=0:=by simpa using h84
   simp only[lockC,qc h0];refine Zrs [4] (zb (hR0 _ _ (hQ _ _ ?_)));rw[show z1d cs x=x from by simp[z1d,h75,h0]<;>rfl,show z1c cs p x=cs from by simp[z1c,h75,h0]<;>rfl,show z1v cs x=false from by simp[z1v,z5x,h75,h0]];refine Zob (⟨2,[(1,rO 110 7 m (pAt ps p (x))),(0,rO 117 5 cs.length (z1x (cs)))]⟩) ?_
   all_goals(first|trivial|exact⟨rfl,trivial⟩)
  intro h84;have h0:lkK cs x.succ=0:=by simpa using h84
  simp only[lockC,qe h0];refine z7 (Zrg [] (za (hN0 _ _ ?_)));refine Zrs [4] (zb (hQ _ _ ?_));rw[show z1d cs x=⟨x.kind,x.cell,4,x.pred,x.succ,x.next,x.res⟩ from by simp[z1d,h75,h0]<;>rfl,show z1c cs p x=setK cs x.succ (p+1) from by simp[z1c,h75,h0]<;>rfl,show z1v cs x=true from by simp[z1v,z5x,h75,h0]];refine Zob (⟨2,[(1,rO 110 7 m (pAt ps p (⟨x.kind,x.cell,4,x.pred,x.succ,x.next,x.res⟩))),(0,rO 117 5 cs.length (z1x (setK cs x.succ (p+1))))]⟩) ?_
  all_goals(first|trivial|exact⟨rfl,trivial⟩)
 intro h75;refine Zrs [1,2,5,14,88] ?_;refine Zcn ?_ ?_
 ·intro h88;refine z3v [] rfl ?_;intro K hK;iterate 2 (refine Zo Zl ?_)
  refine Zd Zl (refCheck_specK cs ps p x cs.length m rfl hp ⟨hc1,hc2,hc3,hc4⟩) (id) ?_;refine Zk hK ?_;clear hK K;refine za (hN0 _ _ (Zrs [4] (zb (hQ _ _ ?_))));rw[show z1d cs x=z60 cs x from by simp[z1d,h88]<;>rfl,show z1c cs p x=cs from by simp[z1c,h88]<;>rfl,show z1v cs x=true from by simp[z1v,z5x,h88]];refine Zob (⟨2,[(1,rO 110 7 m (pAt ps p (z60 cs x))),(0,rO 117 5 cs.length (z1x (cs)))]⟩) ?_
  all_goals(first|trivial|exact⟨rfl,trivial⟩)
 intro h88;refine Zrs [1,2,5,14,93] ?_;refine Zcn ?_ ?_
 ·intro h93;refine sg [2,5] rfl ?_;intro K hK;iterate 2 (refine Zo Zl ?_)
  refine Zd Zl (refUnlock_spec cs ps p x cs.length m rfl hp hm8 hn1) (id) ?_;refine Zk hK ?_;clear hK K;refine Zrg [] (za (hN0 _ _ ?_));refine Zrs [4] (zb (hQ _ _ ?_));rw[show z1d cs x=⟨x.kind,x.cell,1,0,rt cs 0,x.next,x.res⟩ from by simp[z1d,h93]<;>rfl,show z1c cs p x=unlk cs p from by simp[z1c,h93]<;>rfl,show z1v cs x=true from by simp[z1v,z5x,h93]];rw[show rt cs 0=(cl (unlk cs p) 0).right from(rt_unlk cs p 0).symm];refine Zob (⟨2,[(1,rO 110 7 m (pAt ps p (⟨x.kind,x.cell,1,0,(cl (unlk cs p) 0).right,x.next,x.res⟩))),(0,rO 117 5 cs.length (z1x (unlk cs p)))]⟩) ?_
  all_goals(first|trivial|exact⟨rfl,trivial⟩)
 intro h93;refine Zrs [1,2,5,14,112] ?_;refine Zcn ?_ ?_
 ·intro h112;refine z6 (Zrq [1,2,5,6] [0,1,2,3,4,5,6,7,8,9] (z6 ?_));refine sg [5,6,127] rfl ?_;intro K hK;iterate 3 (refine Zo Zl ?_)
  refine Zd Zl (refLock_spec cs ps p x cs.length m rfl hp hm8 (cl cs x.cell.toNat).right hr) (id) ?_;refine Zkl hK ?_;clear hK K;refine Zcm ?_ ?_
  ·intro h127;have h0:¬lkK cs (cl cs x.cell.toNat).right=0:=by simpa using h127
   simp only[lockC,qc h0];have h0:¬lkK cs (rt cs x.cell)=0:=h0;refine Zrs [4] (zb (hR0 _ _ (hQ _ _ ?_)));rw[show z1d cs x=x from by simp[z1d,h112,h0]<;>rfl,show z1c cs p x=cs from by simp[z1c,h112,h0]<;>rfl,show z1v cs x=false from by simp[z1v,z5x,h112,h0]];refine Zob (⟨2,[(1,rO 110 7 m (pAt ps p (x))),(0,rO 117 5 cs.length (z1x (cs)))]⟩) ?_
   all_goals(first|trivial|exact⟨rfl,trivial⟩)
  intro h127;have h0:lkK cs (cl cs x.cell.toNat).right=0:=by simpa using h127
  simp only[lockC,qe h0];have h0:lkK cs (rt cs x.cell)=0:=h0;refine z7 (Zrg [] (za (hN0 _ _ ?_)));refine Zrs [4] (zb (hQ _ _ ?_));rw[show z1d cs x=⟨x.kind,x.cell,10,x.pred,x.succ,(cl cs x.cell.toNat).right,x.res⟩ from by simp[z1d,h112,h0]<;>rfl,show z1c cs p x=setK cs (cl cs x.cell.toNat).right (p+1) from by simp[z1c,h112,h0]<;>rfl,show z1v cs x=true from by simp[z1v,z5x,h112,h0]];refine Zob (⟨2,[(1,rO 110 7 m (pAt ps p (⟨x.kind,x.cell,10,x.pred,x.succ,(cl cs x.cell.toNat).right,x.res⟩))),(0,rO 117 5 cs.length (z1x (setK cs (cl cs x.cell.toNat).right (p+1))))]⟩) ?_
  all_goals(first|trivial|exact⟨rfl,trivial⟩)
 intro h112;refine Zrs [1,2,5,135] ?_;refine Zcn ?_ ?_
 ·intro h135;refine sg [5] rfl ?_;intro K hK;iterate 2 (refine Zo Zl ?_)
  refine Zd Zl (refUnlock_spec cs ps p x cs.length m rfl hp hm8 hn1) (id) ?_;refine Zk hK ?_;clear hK K;refine Zrg [] (za (hN0 _ _ ?_));refine Zrs [4] (zb (hQ _ _ ?_));rw[show z1d cs x=⟨x.kind,x.cell,18,x.pred,x.succ,x.next,x.res⟩ from by simp[z1d,h135]<;>rfl,show z1c cs p x=unlk cs p from by simp[z1c,h135]<;>rfl,show z1v cs x=true from by simp[z1v,z5x,h135]];refine Zob (⟨2,[(1,rO 110 7 m (pAt ps p (⟨x.kind,x.cell,18,x.pred,x.succ,x.next,x.res⟩))),(0,rO 117 5 cs.length (z1x (unlk cs p)))]⟩) ?_
  all_goals(first|trivial|exact⟨rfl,trivial⟩)
 intro h135;refine z3v [] rfl ?_;intro K hK;iterate 2 (refine Zo Zl ?_)
 refine Zd Zl (change_spec cs ps p x cs.length m rfl hp ⟨hc1,hc2,hc3,hc4⟩ (by omega)) (id) ?_;refine Zk hK ?_;clear hK K;refine za (hN0 _ _ (Zrs [4] (zb (hQ _ _ ?_))));rw[hsb (by simp[z5x,h62,h75,h112])];refine Zob (⟨2,[(1,rO 110 7 m (pAt ps p (z1d cs x))),(0,rO 117 5 cs.length (z1x (z1c cs p x)))]⟩) ?_
 all_goals(first|trivial|exact⟨rfl,trivial⟩)
end
end Go.Proofs
