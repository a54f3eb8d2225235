/-
  Walks and plain facts, joined: part 8 of 12.
  Conditions: those that each statement names.
-/
import Derived.Test.YtpnefndionckaaaGreatDoorRog
import Derived.Test.YtpnefndionckaaaGreatDoorRoc
import Derived.Test.YtpnefndionckaaaGreatDoorRod
import Derived.Test.YtpnefndionckaaaGreatDoorRof
import Derived.Test.YtpnefndionckaaaGreatDoorRoe
import Derived.Test.YtpnefndionckaaaGreatDoorChecked
import Derived.Below
import Derived.ChangeSame
import Derived.ChangeSlices
import Derived.ReadAgain
import Derived.OpenShut
import Derived.JoinedOf
import Derived.Handed
import Derived.Shelf.SlSortCmp.NoneTotal
set_option linter.unusedSimpArgs false
set_option linter.unusedVariables false
set_option linter.defProp false
set_option maxRecDepth 4000
set_option maxHeartbeats 8000000
namespace Go.Proofs
open Tryz
open Go.Sk
section
theorem ext_nth {xs ys:List Int}(h:xs.length=ys.length)(he:∀q,q<xs.length->nth xs q=nth ys q):xs=ys:=by
 refine Qz h fun q h1 h2=> ?_;have:=he q h1;rw[z2v h1,z2v h2] at this;exact this
open JnNm (gxE axE oxE exE)
open D0 (sdE)
theorem equalI_spec (xs ys:List Int)(n m:Nat)(hn:xs.length=n)(hm:ys.length=m)(hx:n<=1000000)(hy:m<=1000000):
  zf prog 134 [.slc false 0 0 0 n,.slc false 1 0 0 m] ⟨2,[(0,uQ (.row ⟨false,false,3,1,n,ints xs⟩)),(1,uQ (.row ⟨false,false,3,1,m,ints ys⟩))]⟩
   (fun s H1=>s= .bool (decide (xs=ys))/\H1=⟨2,[]⟩):=by
 subst hn hm;refine zf.ofC false 26 [.tmp 4] func134 rfl rfl ntmps134 results134 rfl ?_;intro w0 own0 β0 Q hQ hQn;simp only[z18];refine Zrs [0,1] ?_;refine z6 ?_;refine Zrs [0,1,10] ?_;refine z7 _ rfl ?_ ?_
 ·intro h10;replace h10:=Znb h10;refine Zrs [4] ?_;refine zd (hQ _ _ ?_);refine zb (H':=⟨2,[]⟩) (.inl rfl) ?_;refine Zou ?_;refine⟨Zs,(Zg id),Zs,?_⟩;rw[qJ (show¬xs=ys from fun e=>by subst e;omega)];exact⟨rfl,by trivial⟩
 ·intro h10;replace h10:=Znb h10;refine za (z6 ?_);refine Zrs [0,1,12,13] ?_;refine zc fun Q0 hN0 hX0 hR0 hE0=> ?_;refine zx (σ:=Nat) (fun i=>i<=xs.length/\∀q,q<i->nth xs q=nth ys q) (fun i=>xs.length-i) (fun i=>[(0,.slc false 0 0 0 xs.length),(1,.slc false 1 0 0 ys.length),(12,.int .i64 xs.length),(13,.int .i64 i)]) (fun _=>⟨2,[(0,uQ (.row ⟨false,false,3,1,xs.length,ints xs⟩)),(1,uQ (.row ⟨false,false,3,1,ys.length,ints ys⟩))]⟩) 0 ⟨qp _,fun q h=>by omega⟩ (ρ:=id) (Zg id) ?_;rintro i hi QL1 hL1 hRL1 hEL1;refine Zrs [0,1,12,13,14] ?_;refine z6 ?_;refine z7 _ rfl ?_ ?_
  ·intro h14;replace h14:=Znb h14;obtain⟨hi1,hi2⟩:=hi;refine za (z6 (zc fun Q1 hN1 hX1 hR1 hE1=> ?_));refine Zrs [0,1,5,12,13] ?_;refine z6 ?_;refine Zrd [0,1,12,13,24] [0,1,2,3,4,5,6,7,8] [[],[],[],[],[],[],[],[],[]] [[],[],[],[],[],[],[],[],[]] ?_;intro K hK;iterate 9 (refine Zo (Zi [] []) ?_)
   refine z11 (Zpr (hK _ _ ?_));clear hK K;refine z7 _ rfl ?_ ?_
   ·intro h24;replace h24:=Znb h24;refine Zrs [4] ?_;refine zd (hR1 _ _ (hRL1 _ _ (hR0 _ _ (hQ _ _ ?_))));refine zb (H':=⟨2,[]⟩) (.inl rfl) ?_;refine Zou ?_;refine⟨Zs,(Zg id),Zs,?_⟩;rw[qJ (show¬xs=ys from fun e=>h24 (by rw[e]))];exact⟨rfl,by trivial⟩
   ·intro h24;replace h24:=Znb h24;refine za (ze (hN1 _ _ ?_));refine Zrg [0,1,12,13] ?_;refine ze (hL1 _ _ ?_);rw[show(i:Int)+1=((i+1:Nat):Int) from by omega];refine⟨i+1,⟨⟨by omega,fun q hq=> ?_⟩,by omega⟩,id,(Zg id)⟩
    by_cases e:q=i
    ·subst e;exact h24
    ·exact hi2 q (by omega)
  ·intro h14;replace h14:=Znb h14;obtain⟨hi1,hi2⟩:=hi;refine zw (hEL1 _ _ _ (hX0 _ _ ?_));refine Zrs [4] ?_;refine zd (hQ _ _ ?_);refine zb (H':=⟨2,[]⟩) (.inl rfl) ?_;refine Zou ?_;refine⟨Zs,(Zg id),Zs,?_⟩;rw[qG (ext_nth (by omega) fun q hq=>hi2 q (by omega))];exact⟨rfl,by trivial⟩
theorem lenB (c b:Nat):((c:Int) !=(b:Int)+2)= !decide (c=b+2):=by
 rw[Qj];simp;omega
def shQ (ns:List Nd)(x:Ly)(ids:List Int)(i:Nat):Bool:=(!sEq (cl x.cs (i+2)).key (findN ns (nth ids i)).key)||(decide (i=0) && x.wd !=(findN ns (nth ids i)).word)
theorem shQ_eq (ns:List Nd)(x:Ly)(ids:List Int)(i:Nat):(!sEq (cl x.cs ((i:Int)+2).toNat).key (findN ns (nth ids i)).key||(i:Int)==0 && x.wd !=(findN ns (nth ids i)).word)=shQ ns x ids i:=by
 rw[shQ,show((i:Int)+2).toNat=i+2 by omega,show((i:Int)==0)=decide (i=0) by rw[Qj];simp]
theorem shpB_eq (ns:List Nd)(x:Ly)(lv:Int)(ids:List Int):shpB ns x lv ids=(x.lvl==lv && decide (x.ids=ids) && decide (x.cs.length=ids.length+2) && !anyB ids.length (shQ ns x ids)):=rfl
theorem shaped_specF (ns:List Nd)(x:Ly)(ids:List Int)(n k m a c p b:Nat)(ht lv:Int)(hn:ns.length=n)(ha:x.ids.length=a)(hc:x.cs.length=c)(hp:x.ps.length=p)(hb:ids.length=b)(hx:n<=1000000)(hy:a<=1000000)(hz:b<=1000000)(hw:c<=1000000):
  zf prog 95 [.agg [.slc false 0 0 0 n,.int .i64 ht,.slc false 4 0 0 k,.slc false 5 0 0 m],.agg [.int .i64 x.lvl,.int .u32 x.wd,.slc false 1 0 0 a,.slc false 2 0 0 c,.slc false 6 0 0 p],.int .i64 lv,.slc false 3 0 0 b]
   ⟨7,[(0,uQ (.row ⟨false,false,62,3,n,nds ns⟩)),(1,uQ (.row ⟨false,false,3,1,a,ints x.ids⟩)),(2,uQ (.row ⟨false,false,117,5,c,z2m x.cs⟩)),(3,uQ (.row ⟨false,false,3,1,b,ints ids⟩))]⟩
   (fun s H1=>s= .bool (shpB ns x lv ids)/\H1=⟨7,[]⟩):=by
 subst hn ha hc hp hb;refine zf.ofC false 71 [.tmp 8] func95 rfl rfl ntmps95 results95 rfl ?_;intro w0 own0 β0 Q hQ hQn;simp only[z18];refine Zrs [2,3,4,5] ?_;refine z6 ?_;refine sg [3,4,5,33] rfl ?_;intro K hK
 have hk1:∀B:Bool,B= !(x.lvl==lv && decide (x.ids=ids) && decide (x.cs.length=ids.length+2))->K [(3,.slc false 3 0 0 ids.length),(4,.ptr 7 0 0 0),(5,.ptr 8 0 0 0),(33,.bool B)] ⟨9,[(8,uQ (.row ⟨true,true,89,5,1,fun _=>[.int .i64 x.lvl,.int .u32 x.wd,.slc false 1 0 0 x.ids.length,.slc false 2 0 0 x.cs.length,.slc false 6 0 0 x.ps.length]⟩)),(7,uQ (.row ⟨true,true,34,4,1,fun _=>[.slc false 0 0 0 ns.length,.int .i64 ht,.slc false 4 0 0 k,.slc false 5 0 0 m]⟩)),(0,uQ (.row ⟨false,false,62,3,ns.length,nds ns⟩)),(1,uQ (.row ⟨false,false,3,1,x.ids.length,ints x.ids⟩)),(2,uQ (.row ⟨false,false,117,5,x.cs.length,z2m x.cs⟩)),(3,uQ (.row ⟨false,false,3,1,ids.length,ints ids⟩))]⟩:=by
  intro B hB;subst hB;refine hK _ _ ?_;clear hK K;refine z7 _ rfl ?_ ?_
  ·intro h33;have h33':(x.lvl==lv && decide (x.ids=ids) && decide (x.cs.length=ids.length+2))=false:=by rw[<-qk];exact h33
   refine Zrs [8] ?_;refine zd (hQ _ _ ?_);refine zb (H':=⟨7,[]⟩) (.inl rfl) ?_;refine Zou ?_;refine⟨Zs,(Zg id),Zs,?_⟩;rw[shpB_eq,h33',QH];exact⟨rfl,by trivial⟩
  ·intro h33;have h33':(x.lvl==lv && decide (x.ids=ids) && decide (x.cs.length=ids.length+2))=true:=by rw[<-qq];exact h33
   have hcl:x.cs.length=ids.length+2:=by
    rw[qh] at h33';exact jt h33'.2
   refine za (z6 ?_);refine Zrs [4,5,34,35,36] ?_;refine zc fun Q0 hN0 hX0 hR0 hE0=> ?_;refine zx (σ:=Nat) (fun i=>i<=ids.length/\∀q,q<i->shQ ns x ids q=false) (fun i=>ids.length-i) (fun i=>[(4,.ptr 7 0 0 0),(5,.ptr 8 0 0 0),(34,.slc false 3 0 0 ids.length),(35,.int .i64 ids.length),(36,.int .i64 i)]) (fun _=>⟨9,[(8,uQ (.row ⟨true,true,89,5,1,fun _=>[.int .i64 x.lvl,.int .u32 x.wd,.slc false 1 0 0 x.ids.length,.slc false 2 0 0 x.cs.length,.slc false 6 0 0 x.ps.length]⟩)),(7,uQ (.row ⟨true,true,34,4,1,fun _=>[.slc false 0 0 0 ns.length,.int .i64 ht,.slc false 4 0 0 k,.slc false 5 0 0 m]⟩)),(0,uQ (.row ⟨false,false,62,3,ns.length,nds ns⟩)),(2,uQ (.row ⟨false,false,117,5,x.cs.length,z2m x.cs⟩)),(3,uQ (.row ⟨false,false,3,1,ids.length,ints ids⟩))]⟩) 0 ⟨qp _,fun q h=>by omega⟩ (ρ:=id) (Zg id) ?_;rintro i hi QL1 hL1 hRL1 hEL1;refine Zrs [4,5,34,35,36,37] ?_;refine z6 ?_;refine z7 _ rfl ?_ ?_
   ·intro h37;replace h37:=Znb h37;obtain⟨hi1,hi2⟩:=hi;refine za (z6 (zc fun Q1 hN1 hX1 hR1 hE1=> ?_));refine Zrs [4,5,9,10,34,35,36] ?_;refine sg [4,5,9,11,34,35,36] rfl ?_;intro K hK;iterate 3 (refine Zo Zl ?_)
    refine Zo Zl ?_;refine Zc1 (find_spec ns (nth ids i) ns.length rfl hx) (id) ?_;iterate 6 (refine Zo Zl ?_)
    refine z8 (Zpr (hK _ _ ?_));clear hK K;refine z6 ?_;refine Zrd [4,5,34,35,36,69] [0,1,2,3,4,5,6,7,8,9,10,11,12,13,14,15,16,17,18,19,20,21] [[],[],[],[],[],[],[],[],[],[],[],[],[],[],[],[],[],[],[],[],[],[]] [[],[],[],[],[],[],[],[],[],[],[],[],[],[],[],[],[],[],[],[],[],[]] ?_;intro K hK;iterate 22 (refine Zo (Zi [] []) ?_)
    refine z11 (Zpr (hK _ _ ?_));clear hK K;refine z7 _ rfl ?_ ?_
    ·intro h69;have h69':shQ ns x ids i=true:=by rw[<-shQ_eq];exact h69
     refine Zrs [8] ?_;refine zd (hR1 _ _ (hRL1 _ _ (hR0 _ _ (hQ _ _ ?_))));refine zb (H':=⟨7,[]⟩) (.inl rfl) ?_;refine Zou ?_;refine⟨Zs,(Zg id),Zs,?_⟩;rw[shpB_eq,z3r (i:=i) (by omega) h69',Qn,Q8];exact⟨rfl,by trivial⟩
    ·intro h69;have h69':shQ ns x ids i=false:=by rw[<-shQ_eq];exact h69
     refine za (ze (hN1 _ _ ?_));refine Zrg [4,5,34,35,36] ?_;refine ze (hL1 _ _ ?_);rw[show(i:Int)+1=((i+1:Nat):Int) from by omega];refine⟨i+1,⟨⟨by omega,fun q hq=> ?_⟩,by omega⟩,id,(Zg id)⟩
     by_cases e:q=i
     ·subst e;exact h69'
     ·exact hi2 q (by omega)
   ·intro h37;replace h37:=Znb h37;obtain⟨hi1,hi2⟩:=hi;refine zw (hEL1 _ _ _ (hX0 _ _ ?_));refine Zrs [8] ?_;refine zd (hQ _ _ ?_);refine zb (H':=⟨7,[]⟩) (.inl rfl) ?_;refine Zou ?_;refine⟨Zs,(Zg id),Zs,?_⟩;rw[shpB_eq,h33',z1s fun q hq=>hi2 q (by omega)];exact⟨rfl,by trivial⟩
 iterate 8 (refine Zo Zl ?_)
 refine z16 ?_;refine z2e rfl rfl ?_;refine Zgr ?_
 first|refine z1r ?_ ?_|refine(fun(h1:false=true->_) (h2:false=false->_)=>qe h1 fun _=>h2 rfl) ?_ ?_|refine qe ?_ ?_
 ·intro hg8
  first
   |(simp at hg8;done)
   |skip
    try replace hg8:=Znb hg8
    refine Zo id ?_;refine Zc1 (equalI_spec x.ids ids x.ids.length ids.length rfl rfl hy hz) (fun q=>if q=0 then 1 else if q=1 then 3 else q) ?_;iterate 12 (refine Zo Zl ?_)
    refine z8 ?_;refine Zpr ?_;refine hk1 _ ?_;simp_all[lenB]
 ·intro hg8;refine⟨.bool false,?_⟩
  first
   |(simp at hg8;done)
   |skip
    try replace hg8:=Znb hg8
    iterate 12 (refine Zo Zl ?_)
    refine z8 ?_;refine Zpr ?_;refine hk1 _ ?_;simp_all[lenB]
end
section
def shPi (i q:Nat):Pn:=fun id k=>if id=1 then(1,3*i+1) else if id=2 then(1,3*i+2) else if id=3 then(2,q+1) else if id=6 then(1,3*i+3) else(id,k)
theorem shapedM_spec (ns:List Nd)(L:List Ly)(hb:lyB L)(ls:List (List Int))(i q n k m w kk:Nat)(ht lv:Int)(hn:ns.length=n)(hx:n<=1000000)(hi:i<k)(hq:q<w)(hz:(ind ls q).length<=1000000):
  zf prog 95 [.agg [.slc false 0 0 0 n,.int .i64 ht,.slc false 4 0 0 kk,.slc false 5 0 0 m],.agg [.int .i64 (lyA L i).lvl,.int .u32 (lyA L i).wd,.slc false 1 (3*i+1) 0 (lyA L i).ids.length,.slc false 1 (3*i+2) 0 (lyA L i).cs.length,.slc false 1 (3*i+3) 0 (lyA L i).ps.length],.int .i64 lv,.slc false 2 (q+1) 0 (ind ls q).length]
   ⟨7,[(0,uQ (.row ⟨false,false,62,3,n,nds ns⟩)),(1,(3*k+1,fam false 3 1 (lyF false L))),(2,(w+1,fam false 3 1 (ilF false ls)))]⟩
   (fun s H1=>s= .bool (shpB ns (lyA L i) lv (ind ls q))/\H1=⟨7,[]⟩):=by
 have h:=shaped_specF ns (lyA L i) (ind ls q) n kk m _ _ _ _ ht lv hn rfl rfl rfl rfl hx (hb.2 i).1 hz (hb.2 i).2.1
 have g:=h.mem (shPi i q) (os1:=[(0,uQ (.row ⟨false,false,62,3,n,nds ns⟩)),(1,(3*k+1,fam false 3 1 (lyF false L))),(2,(w+1,fam false 3 1 (ilF false ls)))])
  (by
   refine⟨⟨by show 0<7;decide,fun k=>rfl,fun k' hk=>⟨Obj.lt_row.2 fun q _=>z4e _ _ q,?_⟩⟩,⟨by show 1<7;decide,fun k=>rfl,fun k' hk=>⟨Obj.lt_row.2 fun q _=>z1t _ _ q,?_⟩⟩,⟨by show 2<7;decide,fun k=>rfl,fun k' hk=>⟨Obj.lt_row.2 fun q _=>cls_lt _ _ q,?_⟩⟩,⟨by show 3<7;decide,fun k=>rfl,fun k' hk=>⟨Obj.lt_row.2 fun q _=>z1t _ _ q,?_⟩⟩,trivial⟩
   ·have:k'=0:=by have:k'<1:=hk;omega
    subst this;exact⟨ql,fun h=>(by cases h),rfl,qd _,fun q _=>(z33 _ _ q).symm⟩
   ·show 3*i+1<3*k+1/\zr _ (fam false 3 1 (lyF false L) (3*i+1)) _
    refine⟨by omega,?_⟩;rw[z2h,lyF_0];exact⟨fun h=>(by cases h),rfl,qd _,fun q _=>(z2k _ _ q).symm⟩
   ·show 3*i+2<3*k+1/\zr _ (fam false 3 1 (lyF false L) ((3*i+1)+1)) _
    refine⟨by omega,?_⟩;rw[z2h,lyF_1];exact⟨fun h=>(by cases h),rfl,qd _,fun q _=>(z4a _ _ q).symm⟩
   ·show q+1<w+1/\zr _ (fam false 3 1 (ilF false ls) (q+1)) _
    refine⟨by omega,?_⟩;rw[z2h,ilF_ap]
    exact⟨fun h=>(by cases h),rfl,qd _,fun q _=>(z2k _ _ q).symm⟩)
  ⟨by simp[SV.lt,SV.ltL],by simp[SV.lt,SV.ltL],by simp[SV.lt],by simp[SV.lt],trivial⟩ (by
   intro id k hid;have hid:id<7:=hid
   show(shPi i q id k).1<7
   simp only[shPi];repeat' split
   all_goals first|exact hid|(show 1<7;decide)|(show 2<7;decide)) (by
   intro x hx k;simp only[qw,QA,j7] at hx;rcases hx with e|e|e<;>subst e
   ·rfl
   ·exact z4d false _ _ L k
   ·exact ilF_fown false _ _ ls k)
 have e:SV.renPL (shPi i q) [.agg [.slc false 0 0 0 n,.int .i64 ht,.slc false 4 0 0 kk,.slc false 5 0 0 m],.agg [.int .i64 (lyA L i).lvl,.int .u32 (lyA L i).wd,.slc false 1 0 0 (lyA L i).ids.length,.slc false 2 0 0 (lyA L i).cs.length,.slc false 6 0 0 (lyA L i).ps.length],.int .i64 lv,.slc false 3 0 0 (ind ls q).length]=[.agg [.slc false 0 0 0 n,.int .i64 ht,.slc false 4 0 0 kk,.slc false 5 0 0 m],.agg [.int .i64 (lyA L i).lvl,.int .u32 (lyA L i).wd,.slc false 1 (3*i+1) 0 (lyA L i).ids.length,.slc false 1 (3*i+2) 0 (lyA L i).cs.length,.slc false 1 (3*i+3) 0 (lyA L i).ps.length],.int .i64 lv,.slc false 2 (q+1) 0 (ind ls q).length]:=rfl;rw[e] at g;refine g.imp ?_;rintro s H' ⟨s0,H0',⟨rfl,rfl⟩,rfl,rfl⟩;exact⟨rfl,rfl⟩
theorem eqCb (a b c a' b' c':Int):EqT prog 58 [.int .i64 a,.int .i64 b,.int .i64 c] [.int .i64 a',.int .i64 b',.int .i64 c']:=
 EqT.of [(false,3,0),(false,3,1),(false,3,2)] (by kernel_rfl) (by kernel_rfl) (by kernel_rfl) (by kernel_rfl)
  ⟨⟨rfl,rfl,by kernel_rfl,rfl,_,z3a⟩,⟨rfl,rfl,by kernel_rfl,rfl,_,z3a⟩,⟨rfl,rfl,by kernel_rfl,rfl,_,z3a⟩,trivial⟩
theorem eqL_cb (c:Cb):eqL [.int .i64 c.kind,.int .i64 c.node,.int .i64 c.lvl] [.int .i64 0,.int .i64 0,.int .i64 0]=decide (c=noCb):=by
 rw[Qj]
 cases c
 simp[eqL,eqS,noCb]
theorem neB (a b:Nat):((a:Int) !=(b:Int))=decide (a≠b):=by
 rw[Qj];simp;omega
def z4l (ns:List Nd)(n:Nat):List (Int×List Int):=(List.range n).flatMap fun(l:Nat)=>(lstN ns (l:Int)).map fun ids=>((l:Int),ids)
theorem lvlP_succ (ns:List Nd)(n:Nat):z4l ns (n+1)=z4l ns n++(lstN ns (n:Int)).map fun ids=>((n:Int),ids):=by
 simp[z4l,JD,List.flatMap_append]
theorem lvlP_pre (ns:List Nd){n m:Nat}(h:n<=m):∃t,z4l ns m=z4l ns n++t:=by
  induction m with
  | zero => have : n = 0 := by omega
            subst this;exact⟨[],by simp⟩
  |succ m ih=>
    by_cases e:n=m+1
    · subst e;exact⟨[],by simp⟩
    · obtain⟨t,ht⟩:=ih (by omega);exact⟨t++(lstN ns (m:Int)).map fun ids=>((m:Int),ids),by rw[lvlP_succ,ht,QB]⟩
theorem lvA_in {ns:List Nd}{h n q:Nat}(hn:n<=h)(hq:q<(lstN ns (n:Int)).length):lvA (lvlL ns h) ((z4l ns n).length+q)=((n:Int),ind (lstN ns (n:Int)) q):=by
 obtain⟨t,ht⟩:=lvlP_pre ns (n:=n+1) (m:=h+1) (by omega);rw[show lvlL ns h=z4l ns (h+1) from rfl,ht,lvlP_succ,lvA,qx,QB,QK (by omega),Qy (by rw[qB];omega)];rw[show(z4l ns n).length+q-(z4l ns n).length=q by omega,qP,qK hq];simp[ind_lt hq]
theorem lvlP_len {ns:List Nd}{n:Nat}:(z4l ns (n+1)).length=(z4l ns n).length+(lstN ns (n:Int)).length:=by rw[lvlP_succ];simp
theorem lvlP_le {ns:List Nd}{n m:Nat}(h:n<=m):(z4l ns n).length<=(z4l ns m).length:=by
 obtain⟨t,ht⟩:=lvlP_pre ns h;rw[ht];simp
theorem lstN_len (ns:List Nd)(lv:Int):(lstN ns lv).length<=ns.length:=by
 unfold lstN
 split
 ·rw[lstG_len];exact qW (clsN_len _ _) (by rw[(z2f ns).length_eq];exact qd _)
 ·simp
theorem ind_len (ns:List Nd)(lv:Int)(q:Nat):(ind (lstN ns lv) q).length<=ns.length:=by
 unfold lstN
 split
 ·by_cases h:q<(z4t (z52 ns) lv).length
  ·rw[ind_lstG _ _ h,qB];exact qW (cnd_len _ _ _) (by rw[(z2f ns).length_eq];exact qd _)
  ·rw[show ind (lstG (z52 ns) lv) q=[] by rw[ind,qx,qQ (by rw[lstG_len];omega)];rfl];simp
 ·simp[ind]
theorem lvlP_bd (ns:List Nd):∀n,(z4l ns n).length<=n*ns.length
 |0=>by simp[z4l]
 |n+1=>by have:=lvlP_bd ns n;have:=lstN_len ns (n:Int);rw[lvlP_len,qV,jp];omega
def JnSm.exE:=aj9 @z17 @zg @zi @zn @zk @z12 @z1a ec2 (aj9 @zj @zt @zo @zl ec13 @zp z43 z4y (aj9 @zu ec3 ec5 @z1d.eq_1 @zz.eq_1 @ints.eq_1 ec33 ec34 (aj3 ec35 ec30 ec31)))
def JnSm.gxE:=aj9 @z17 z43 ec16 z4y ec3 ec7 ec8 @z1d.eq_1 (aj7 @zz.eq_1 @z1v @z1t ec36 ec26 ec29 ec32)
def JnSm.axE:=aj9 @z17 @zg @zi @zn @zk @z12 @z1a ec2 (aj9 @zj @zt @zo @zl ec13 @zp z43 z4y (aj9 @zu ec3 ec5 @z1d.eq_1 @zz.eq_1 ec33 ec34 ec30 (aj9 @z1q @z26 @z2n @z31 ec37 @z40 @ilF_ren @ilR_fold @ilR_ren)))
open JnSm (gxE axE exE)
open JnNm (oxE)
open D0 (sdE)
theorem valid_specF (fo:Fo)(hb:lyB fo.ly)(n k m:Nat)(hn:fo.ns.length=n)(hk:fo.ly.length=k)(hm:fo.cb.length=m)(hn6:n<=20)(hm6:m<=1000000)(hht: -1000000<=fo.ht/\fo.ht<=1000000):
  zf prog 58 [.agg [.slc false 0 0 0 n,.int .i64 fo.ht,.slc false 1 0 0 k,.slc false 3 0 0 m]] ⟨4,[(0,uQ (.row ⟨false,false,62,3,n,nds fo.ns⟩)),(1,uQ (.row ⟨false,false,89,5,k,lyR 2 fo.ly⟩)),(2,(3*k+1,fam false 3 1 (lyF false fo.ly))),(3,uQ (.row ⟨false,false,58,3,m,cbs fo.cb⟩))]⟩
   (fun s H1=>s= .bool (z5j fo)/\H1=⟨4,[]⟩):=by
 obtain⟨ns,ht,L,C⟩:=fo;dsimp only at hb hn hk hm hht ⊢;subst hn hk hm;have hlen:=hb.1;refine zf.ofC false 149 [.tmp 2] func58 rfl rfl ntmps58 results58 rfl ?_;intro w0 own0 β0 Q hQ hQn;simp only[z18];refine Zrs [1] ?_;refine z6 ?_;refine sg [1,39] rfl ?_;intro K hK;iterate 2 (refine Zo Zl ?_)
 refine Zo Zl ?_;refine Zc1 (check_spec ns ns.length rfl (by omega)) (id) ?_;iterate 23 (refine Zo Zl ?_)
 refine z8 (Zpr (hK _ _ ?_));clear hK K;refine z7 _ rfl ?_ ?_
 ·intro h39;have hv:z5j ⟨ns,ht,L,C⟩=false:=by rw[z5j,show headF ⟨ns,ht,L,C⟩=true from h39];rfl
  refine Zrs [2] ?_;refine zd (hQ _ _ ?_);refine zb (H':=⟨4,[]⟩) (.inl rfl) ?_;refine Zou ?_;refine⟨Zs,(Zg id),Zs,?_⟩;rw[hv];exact⟨rfl,by trivial⟩
 ·intro h39;have hh:headF ⟨ns,ht,L,C⟩=false:=h39;obtain⟨hc0,hht2,hC1,hC8⟩:=headF_false.1 hh;dsimp only at hc0 hht2 hC1 hC8;have hbd:=lvlP_bd ns;refine za ?_;refine Zrs [1,3] ?_;refine z6 ?_;refine Zrs [1,3,42,43] ?_;have hhn:((ht.toNat:Nat):Int)=ht:=by omega
  refine zc fun Q0 hN0 hX0 hR0 hE0=> ?_;refine zx (σ:=Nat) (fun i=>i<=ht.toNat+1/\∀j,j<(z4l ns i).length->j<L.length/\shpB ns (lyA L j) (lvA (lvlL ns ht.toNat) j).1 (lvA (lvlL ns ht.toNat) j).2=true) (fun i=>ht.toNat+1-i) (fun i=>[(1,.ptr 4 0 0 0),(3,.int .i64 (z4l ns i).length),(42,.int .i64 (ht+1)),(43,.int .i64 i)]) (fun _=>⟨5,[(4,uQ (.row ⟨true,true,34,4,1,fun _=>[.slc false 0 0 0 ns.length,.int .i64 ht,.slc false 1 0 0 L.length,.slc false 3 0 0 C.length]⟩)),(0,uQ (.row ⟨false,false,62,3,ns.length,nds ns⟩)),(1,uQ (.row ⟨false,false,89,5,L.length,lyR 2 L⟩)),(2,(3*L.length+1,fam false 3 1 (lyF false L))),(3,uQ (.row ⟨false,false,58,3,C.length,cbs C⟩))]⟩) 0 ⟨qp _,fun q h=>absurd h (qI _)⟩ (ρ:=id) (have xE:=@z4l.eq_1;Zgx id) ?_;rintro i hi QL1 hL1 hRL1 hEL1;refine Zrs [1,3,42,43,44] ?_;refine z6 ?_;refine z7 _ rfl ?_ ?_
  ·intro h44;replace h44:=Znb h44;obtain⟨hi1,hi2⟩:=hi;have hbi:=lvlP_bd ns i;refine za (z6 (zc fun Q1 hN1 hX1 hR1 hE1=> ?_));refine Zrs [1,3,4,42,43] ?_;refine sg [1,3,4,42,43,49,50,51] rfl ?_;intro K hK;iterate 3 (refine Zo Zl ?_)
   refine Zo Zl ?_;refine Zc1 (lists_spec ns ns.length rfl i hn6) (id) ?_;have hll:=lstN_len ns (i:Int);have hil:=ind_len ns (i:Int);obtain⟨ls,hls⟩:∃ls,lstN ns (i:Int)=ls:=⟨_,rfl⟩;rw[hls] at hll hil ⊢;iterate 2 (refine Zo Zl ?_)
   refine z8 (Zpr (hK _ _ ?_));clear hK K;refine zc fun Q2 hN2 hX2 hR2 hE2=> ?_;refine zx (σ:=Nat) (fun q=>q<=ls.length/\∀j,j<(z4l ns i).length+q->j<L.length/\shpB ns (lyA L j) (lvA (lvlL ns ht.toNat) j).1 (lvA (lvlL ns ht.toNat) j).2=true) (fun q=>ls.length-q) (fun q=>[(1,.ptr 4 0 0 0),(3,.int .i64 (((z4l ns i).length+q:Nat):Int)),(4,.int .i64 i),(42,.int .i64 (ht+1)),(43,.int .i64 i),(49,.slc true 5 0 0 ls.length),(50,.int .i64 ls.length),(51,.int .i64 q)]) (fun _=>⟨7,[(5,uQ (.row ⟨true,false,22,1,ls.length,ilR true 6 ls⟩)),(6,(ls.length+1,fam true 3 1 (ilF true ls))),(4,uQ (.row ⟨true,true,34,4,1,fun _=>[.slc false 0 0 0 ns.length,.int .i64 ht,.slc false 1 0 0 L.length,.slc false 3 0 0 C.length]⟩)),(0,uQ (.row ⟨false,false,62,3,ns.length,nds ns⟩)),(1,uQ (.row ⟨false,false,89,5,L.length,lyR 2 L⟩)),(2,(3*L.length+1,fam false 3 1 (lyF false L))),(3,uQ (.row ⟨false,false,58,3,C.length,cbs C⟩))]⟩) 0 ⟨qp _,fun j h=>hi2 j h⟩ (ρ:=id) (Zg id) ?_;rintro q hq QL2 hL2 hRL2 hEL2;refine Zrs [1,3,4,42,43,49,50,51,52] ?_;refine z6 ?_;refine z7 _ rfl ?_ ?_
   ·intro h52;replace h52:=Znb h52;obtain⟨hq1,hq2⟩:=hq;have hlq:=hil q;refine za (z6 (zc fun Q3 hN3 hX3 hR3 hE3=> ?_));refine Zrs [1,3,4,6,42,43,49,50,51] ?_;refine z6 (z6 ?_);refine Zrd [1,3,4,42,43,49,50,51,71] [0,1,2,3,4,5,6,7,8,9,10,11,12,13,14,15,16] [[],[],[],[],[],[],[],[],[],[],[],[],[],[],[],[],[]] [[],[],[],[],[],[],[],[],[],[],[],[],[],[],[],[],[]] ?_;intro K hK
    have hk10:∀B:Bool,B=(decide (L.length<=(z4l ns i).length+q)|| !shpB ns (lyA L ((z4l ns i).length+q)) i (ind ls q))->K [(1,.ptr 4 0 0 0),(3,.int .i64 (((z4l ns i).length+q:Nat):Int)),(4,.int .i64 i),(42,.int .i64 (ht+1)),(43,.int .i64 i),(49,.slc true 5 0 0 ls.length),(50,.int .i64 ls.length),(51,.int .i64 q),(71,.bool B)] ⟨7,[(5,uQ (.row ⟨true,false,22,1,ls.length,ilR true 6 ls⟩)),(6,(ls.length+1,fam true 3 1 (ilF true ls))),(4,uQ (.row ⟨true,true,34,4,1,fun _=>[.slc false 0 0 0 ns.length,.int .i64 ht,.slc false 1 0 0 L.length,.slc false 3 0 0 C.length]⟩)),(0,uQ (.row ⟨false,false,62,3,ns.length,nds ns⟩)),(1,uQ (.row ⟨false,false,89,5,L.length,lyR 2 L⟩)),(2,(3*L.length+1,fam false 3 1 (lyF false L))),(3,uQ (.row ⟨false,false,58,3,C.length,cbs C⟩))]⟩:=by
     intro B hB;subst hB;refine hK _ _ ?_;clear hK K;refine z7 _ rfl ?_ ?_
     ·intro h71;have hA:lvA (lvlL ns ht.toNat) ((z4l ns i).length+q)=((i:Int),ind ls q):=by rw[<-hls];exact lvA_in (by omega) (by rw[hls];omega)
      have hv:z5j ⟨ns,ht,L,C⟩=false:=by
       rw[qr,qj,qk] at h71
       cases hz:z5j ⟨ns,ht,L,C⟩ with
       |false=>rfl
       |true=>
        exfalso
        simp only[z5j,qh,qk,qj] at hz;have z1:=hz.1.1.1.2;have z2:=hz.1.1.2
        have z3:(z4l ns i).length+q<(lvlL ns ht.toNat).length:=by
         have:=lvlP_le (ns:=ns) (n:=i+1) (m:=ht.toNat+1) (by omega);rw[lvlP_len,hls] at this
         show _<(z4l ns (ht.toNat+1)).length
         omega
        rcases h71 with g|g
        ·omega
        ·have:=anyB_elim z2 (i:=(z4l ns i).length+q) (by omega);rw[hA,g] at this;cases this
      refine Zrs [2] ?_;refine zd (hR3 _ _ (hRL2 _ _ (hR2 _ _ (hR1 _ _ (hRL1 _ _ (hR0 _ _ (hQ _ _ ?_)))))));refine zb (H':=⟨4,[]⟩) (.inl rfl) ?_;refine Zou ?_;refine⟨Zs,(Zg id),Zs,?_⟩;rw[hv];exact⟨rfl,by trivial⟩
     ·intro h71;have hA:lvA (lvlL ns ht.toNat) ((z4l ns i).length+q)=((i:Int),ind ls q):=by rw[<-hls];exact lvA_in (by omega) (by rw[hls];omega)
      have h71':(z4l ns i).length+q<L.length/\shpB ns (lyA L ((z4l ns i).length+q)) i (ind ls q)=true:=by
       rw[qi,qg,qq] at h71;exact⟨by omega,h71.2⟩
      refine za ?_;refine z3c [1,3,4,42,43,49,50,51] rfl ?_;intro K hK;iterate 2 (refine Zo Zl ?_)
      rw[show(((z4l ns i).length+q:Nat):Int)+1=(((z4l ns i).length+(q+1):Nat):Int) by omega];repeat(with_reducible apply qe;exact sdE)
      refine Zo Zl ?_;refine z8 (Zpr (hK _ _ ?_));clear hK K;refine ze (hN3 _ _ ?_);refine Zrg [1,3,4,42,43,49,50,51] ?_;refine ze (hL2 _ _ ?_);rw[show(q:Int)+1=((q+1:Nat):Int) from by omega];refine⟨q+1,⟨⟨by omega,fun j hj=> ?_⟩,by omega⟩,id,(Zg id)⟩
      by_cases e:j=(z4l ns i).length+q
      ·subst e;rw[hA];exact h71'
      ·exact hq2 j (by omega)
    iterate 14 (refine Zo (Zi [] []) ?_)
    refine runI_cons _ [] [] rfl rfl rfl ?_;refine z2e rfl rfl ?_;refine Zgr ?_
    first|refine z1r ?_ ?_|refine(fun(h1:false=true->_) (h2:false=false->_)=>qe h1 fun _=>h2 rfl) ?_ ?_|refine qe ?_ ?_
    ·intro hg14
     first
      |(simp at hg14;done)
      |skip
       try replace hg14:=Znb hg14
       refine Zo id ?_;refine Zc1 (shapedM_spec ns L hb ls ((z4l ns i).length+q) q ns.length L.length C.length ls.length L.length ht i rfl (by omega) (by omega) (by omega) (by have:=hil q;omega)) (fun q=>if q=0 then 0 else if q=1 then 2 else if q=2 then 6 else if q=4 then 1 else if q=5 then 3 else q) ?_;iterate 2 (refine Zo (Zi [] []) ?_)
       refine z11 ?_;refine Zpr ?_;refine hk10 _ ?_;clear hk10 K hK;have e:decide ((L.length:Int)<=(((z4l ns i).length+q:Nat):Int))=decide (L.length<=(z4l ns i).length+q):=Jx.2 (by omega)
       first
       |(rw[e];done)
       |(rw[qG (show L.length<=(z4l ns i).length+q by omega),Ji])
    ·intro hg14;refine⟨.bool false,?_⟩
     first
      |(simp at hg14;done)
      |skip
       try replace hg14:=Znb hg14
       iterate 2 (refine Zo (Zi [] []) ?_)
       refine z11 ?_;refine Zpr ?_;refine hk10 _ ?_;clear hk10 K hK;have e:decide ((L.length:Int)<=(((z4l ns i).length+q:Nat):Int))=decide (L.length<=(z4l ns i).length+q):=Jx.2 (by omega)
       first
       |(rw[e];done)
       |(rw[qG (show L.length<=(z4l ns i).length+q by omega),Ji])
   ·intro h52;replace h52:=Znb h52;obtain⟨hq1,hq2⟩:=hq;refine zw (hEL2 _ _ _ (hX2 _ _ (ze (hN1 _ _ ?_))));refine Zrg [1,3,42,43] ?_;refine ze (hL1 _ _ ?_);rw[show(i:Int)+1=((i+1:Nat):Int) from by omega];have hqe:(z4l ns i).length+q=(z4l ns (i+1)).length:=by rw[lvlP_len,hls];omega
    rw[hqe] at hq2 ⊢;exact⟨i+1,⟨⟨by omega,hq2⟩,by omega⟩,id,(Zg id)⟩
  ·intro h44;replace h44:=Znb h44;obtain⟨hi1,hi2⟩:=hi;refine zw (hEL1 _ _ _ (hX0 _ _ (z6 ?_)));refine Zrs [1,80] ?_;refine z7 _ rfl ?_ ?_
   ·intro h80;replace h80:=Znb h80;have hie:i=ht.toNat+1:=by omega
    subst hie
    have hv:z5j ⟨ns,ht,L,C⟩=false:=by
     rw[z5j,qJ (show¬L.length=(lvlL ns ht.toNat).length from fun e=>by have:(lvlL ns ht.toNat).length=(z4l ns (ht.toNat+1)).length:=rfl;omega),Q8,QH,QH,QH]
    refine Zrs [2] ?_;refine zd (hQ _ _ ?_);refine zb (H':=⟨4,[]⟩) (.inl rfl) ?_;refine Zou ?_;refine⟨Zs,(Zg id),Zs,?_⟩;rw[hv];exact⟨rfl,by trivial⟩
   ·intro h80;replace h80:=Znb h80;have hie:i=ht.toNat+1:=by omega
    subst hie
    have hle:L.length=(lvlL ns ht.toNat).length:=by
     have e:(lvlL ns ht.toNat).length=(z4l ns (ht.toNat+1)).length:=rfl
     by_cases g:L.length<(z4l ns (ht.toNat+1)).length
     ·have:=(hi2 L.length g).1;omega
     ·omega
    have hs1:anyB L.length (fun i=> !shpB ns (lyA L i) (lvA (lvlL ns ht.toNat) i).1 (lvA (lvlL ns ht.toNat) i).2)=false:=z1s fun j hj=>by
     rw[(hi2 j (by rw[hle] at hj;exact hj)).2];rfl
    refine za (z6 ?_);refine Zrs [1,82,83,84] ?_;refine zc fun Q4 hN4 hX4 hR4 hE4=> ?_;refine zx (σ:=Nat) (fun i=>i<=L.length/\∀q,q<i->(!z2w (lyA L q).cs (lyA L q).ps||decide ((lyA L q).ps.length≠C.length))=false) (fun i=>L.length-i) (fun i=>[(1,.ptr 4 0 0 0),(82,.slc false 1 0 0 L.length),(83,.int .i64 L.length),(84,.int .i64 i)]) (fun _=>⟨5,[(4,uQ (.row ⟨true,true,34,4,1,fun _=>[.slc false 0 0 0 ns.length,.int .i64 ht,.slc false 1 0 0 L.length,.slc false 3 0 0 C.length]⟩)),(0,uQ (.row ⟨false,false,62,3,ns.length,nds ns⟩)),(1,uQ (.row ⟨false,false,89,5,L.length,lyR 2 L⟩)),(2,(3*L.length+1,fam false 3 1 (lyF false L))),(3,uQ (.row ⟨false,false,58,3,C.length,cbs C⟩))]⟩) 0 ⟨qp _,fun q h=>absurd h (qI _)⟩ (ρ:=id) (Zg id) ?_;rintro i hi QL3 hL3 hRL3 hEL3;refine Zrs [1,82,83,84,85] ?_;refine z6 ?_;refine z7 _ rfl ?_ ?_
    ·intro h85;replace h85:=Znb h85;obtain⟨hi1',hi2'⟩:=hi;have hbi:=hb.2 i;refine za (z6 (zc fun Q5 hN5 hX5 hR5 hE5=> ?_));refine Zrs [1,8,82,83,84] ?_;refine sg [1,82,83,84,101] rfl ?_;intro K hK;iterate 2 (refine Zo Zl ?_)
     refine Zo Zl ?_;refine Zc1 (lyLsB L i L.length (by omega) (valid_specK (lyA L i).cs (lyA L i).ps _ _ rfl rfl (by omega) (by omega))) (fun q=>if q=0 then 2 else 0) ?_;iterate 11 (refine Zo Zl ?_)
     refine z8 (Zpr (hK _ _ ?_));clear hK K;refine z7 _ rfl ?_ ?_
     ·intro h101;have h101':(!z2w (lyA L i).cs (lyA L i).ps||decide ((lyA L i).ps.length≠C.length))=true:=by rw[<-neB];exact h101
      have hv:z5j ⟨ns,ht,L,C⟩=false:=by
       rw[z5j,z3r (i:=i) (p:=fun i=> !z2w (lyA L i).cs (lyA L i).ps||decide ((lyA L i).ps.length≠C.length)) (by show i<L.length;omega) h101',Qn,Q8,QH]
      refine Zrs [2] ?_;refine zd (hR5 _ _ (hRL3 _ _ (hR4 _ _ (hQ _ _ ?_))));refine zb (H':=⟨4,[]⟩) (.inl rfl) ?_;refine Zou ?_;refine⟨Zs,(Zg id),Zs,?_⟩;rw[hv];exact⟨rfl,by trivial⟩
     ·intro h101;have h101':(!z2w (lyA L i).cs (lyA L i).ps||decide ((lyA L i).ps.length≠C.length))=false:=by rw[<-neB];exact h101
      refine za (ze (hN5 _ _ ?_));refine Zrg [1,82,83,84] ?_;refine ze (hL3 _ _ ?_);rw[show(i:Int)+1=((i+1:Nat):Int) from by omega];refine⟨i+1,⟨⟨by omega,fun q hq=> ?_⟩,by omega⟩,id,(Zg id)⟩
      by_cases e:q=i
      ·subst e;exact h101'
      ·exact hi2' q (by omega)
    ·intro h85;replace h85:=Znb h85;obtain⟨hi1',hi2'⟩:=hi;have hs2:anyB L.length (fun i=> !z2w (lyA L i).cs (lyA L i).ps||decide ((lyA L i).ps.length≠C.length))=false:=z1s fun q hq=>hi2' q (by omega);refine zw (hEL3 _ _ _ (hX4 _ _ (z6 ?_)));refine Zrs [1,104,105,106] ?_;refine zc fun Q6 hN6 hX6 hR6 hE6=> ?_;refine zx (σ:=Nat) (fun i=>i<=C.length/\∀q,q<i->cbOk ns ht (cbA C q)=true) (fun i=>C.length-i) (fun i=>[(1,.ptr 4 0 0 0),(104,.slc false 3 0 0 C.length),(105,.int .i64 C.length),(106,.int .i64 i)]) (fun _=>⟨5,[(4,uQ (.row ⟨true,true,34,4,1,fun _=>[.slc false 0 0 0 ns.length,.int .i64 ht,.slc false 1 0 0 L.length,.slc false 3 0 0 C.length]⟩)),(0,uQ (.row ⟨false,false,62,3,ns.length,nds ns⟩)),(1,uQ (.row ⟨false,false,89,5,L.length,lyR 2 L⟩)),(2,(3*L.length+1,fam false 3 1 (lyF false L))),(3,uQ (.row ⟨false,false,58,3,C.length,cbs C⟩))]⟩) 0 ⟨qp _,fun q h=>absurd h (qI _)⟩ (ρ:=id) (Zg id) ?_;rintro i hi QL4 hL4 hRL4 hEL4;refine Zrs [1,104,105,106,107] ?_;refine z6 ?_;refine z7 _ rfl ?_ ?_
     ·intro h107;obtain⟨hi1',hi2'⟩:=hi;have h107':(i:Int)<C.length:=by simpa using h107
      refine za (z6 (zc fun Q7 hN7 hX7 hR7 hE7=> ?_));refine Zrs [1,10,104,105,106] ?_;refine sg [1,10,12,104,105,106] rfl ?_;intro K hK;iterate 4 (refine Zo Zl ?_)
      refine Zo Zl ?_;refine Zc1 (find_spec ns (cbA C i).node ns.length rfl (by omega)) (id) ?_;iterate 6 (refine Zo Zl ?_)
      refine z8 (Zpr (hK _ _ ?_));clear hK K;refine Zrs [1,10,13,104,105,106] ?_;refine sg [1,104,105,106,147] rfl ?_;intro K hK;iterate 3 (refine Zo Zl ?_)
      refine qe (eqCb _ _ _ _ _ _) ?_;rw[eqL_cb];repeat(with_reducible apply qe;exact sdE)
      iterate 4 (refine Zo Zl ?_)
      refine z8 (Zpr (hK _ _ ?_));clear hK K;refine z7 _ rfl ?_ ?_
      ·intro h147;have h147':cbOk ns ht (cbA C i)=false:=by rw[<-qk,cbOk,Bool.not_or];exact h147
       have hv:z5j ⟨ns,ht,L,C⟩=false:=by
        rw[z5j,z3r (i:=i) (n:=C.length) (p:=fun p=> !cbOk ns ht (cbA C p)) (by omega) (by rw[h147'];rfl),Qn,Q8]
       refine Zrs [2] ?_;refine zd (hR7 _ _ (hRL4 _ _ (hR6 _ _ (hQ _ _ ?_))));refine zb (H':=⟨4,[]⟩) (.inl rfl) ?_;refine Zou ?_;refine⟨Zs,(Zg id),Zs,?_⟩;rw[hv];exact⟨rfl,by trivial⟩
      ·intro h147;have h147':cbOk ns ht (cbA C i)=true:=by rw[<-qq,cbOk,Bool.not_or];exact h147
       refine za (ze (hN7 _ _ ?_));refine Zrg [1,104,105,106] ?_;refine ze (hL4 _ _ ?_);rw[show(i:Int)+1=((i+1:Nat):Int) from by omega];refine⟨i+1,⟨⟨by omega,fun q hq=> ?_⟩,by omega⟩,id,(Zg id)⟩
       by_cases e:q=i
       ·subst e;exact h147'
       ·exact hi2' q (by omega)
     ·intro h107;obtain⟨hi1',hi2'⟩:=hi;have h107':¬(i:Int)<C.length:=by simpa using h107
      refine zw (hEL4 _ _ _ (hX6 _ _ ?_));refine Zrs [2] ?_;refine zd (hQ _ _ ?_);refine zb (H':=⟨4,[]⟩) (.inl rfl) ?_;refine Zou ?_;refine⟨Zs,(Zg id),Zs,?_⟩;rw[z5j,hh,qG hle,hs1,hs2,z1s fun q hq=>by rw[hi2' q (by have hq:q<C.length:=hq;omega)];rfl];exact⟨rfl,by trivial⟩
end
end Go.Proofs
namespace Go.Sk
open Go.RowKit
section
variable {X:Cx} {Q:Exit->Fr->AH->Prop} {fr:Fr} {H:AH} {l:List Code}
theorem Cs.famE {c:Code}(n:Nat)(e:TypeId)(sz:Nat)(G:Nat->Obj)(hG:∀i,i<n->∃r:Row,G i= .row r/\r.n=0)(h:Cs X (c::l) Q fr ⟨H.nxt+1,(H.nxt,n+1,fam true e sz G)::H.os⟩):Cs X (c::l) Q fr H:=fun β a w hF hS=>by
 have hag:=Env.agree_set β H.nxt (fun _=>none);refine h (β.set H.nxt fun _=>none) a w (hF.agree (QD H.nxt) hag) ?_;refine St.new' hS (fun k L _ he=>by cases he) (fun k k' L L' h h' he he' _=>by cases he) (fun k hk=> ?_) (fun k hk=> ?_)
 ·cases k with
  |zero=>exact .inl ⟨rfl,rfl⟩
  |succ i=>
   obtain⟨r,hr,hn⟩:=hG i (by omega);rw[z2h,hr];exact .inl ⟨hn,rfl⟩
 ·cases k with
  |zero=>exact fun i j s hi _=>absurd hi (qI _)
  |succ i=>
   obtain⟨r,hr,hn⟩:=hG i (by omega);rw[z2h,hr];intro i j s hi _;rw[hn] at hi;exact absurd hi (qI _)
end
structure MuOk (X:Cx) (ρ:Nat->Nat) (f:Nat) (μ:Nat->Nat×Nat):Prop where
 inj:∀k k',0<k->0<k'->μ k=μ k'->k=k'
 z:∀k,0<k->μ k≠(ρ f,0)
 m:∀k,X.m0<=(μ k).1
def MuL (ρ:Nat->Nat)(f:Nat)(μ:Nat->Nat×Nat):List (Nat×Nat×(Nat->Obj))->Prop
 |[]=>True
 |(id,_,_)::l=>(id=f\/∀k,(μ k).1≠ρ id)/\MuL ρ f μ l
theorem MuL.get {ρ:Nat->Nat}{f:Nat}{μ:Nat->Nat×Nat}:∀{os:List (Nat×Nat×(Nat->Obj))},MuL ρ f μ os->∀x∈os,x.1=f\/∀k,(μ k).1≠ρ x.1
 |[],_,_,hm=>by cases hm
 |(_,_,_)::l,h,x,hm=>by
  cases hm with
  |head=>exact h.1
  |tail _ hm=>exact MuL.get h.2 x hm
theorem z54.mkO {X:Cx}{fr:Fr}{H:AH}{fr':Fr}{H':AH}(ρ:Nat->Nat)(f:Nat)(μ:Nat->Nat×Nat)(h2:HGivesJ (anP ρ f μ) H'.nxt H.os H'.os)(hμ:MuOk X ρ f μ)(h3b:MuL ρ f μ H'.os)(h1:frGivesP (anP ρ f μ) H'.nxt fr fr')(h3:injB ρ H'.os=true)(h3u:ownU H'.os)
  (h4:(List.range X.m0).all (fun id=>ρ id==id)=true) (h5:X.m0<=H'.nxt) (h5f:X.m0<=f) (h6:∀x∈H.os,x.1<X.m0->∀k,(x.2.2 k).own=(x.2.2 0).own) (h7:keepB X.m0 H.os H'.os) (h8:bigB X.m0 ρ H'.os=true):z54 X (anP ρ f μ) fr H fr' H' where
 fr:=frGivesP_ok h1
 os id k o' hl:=by
  obtain⟨c,F,hf,hk,rfl⟩:=z1g hl;exact h2.get _ _ _ (z1j hf) k hk
 inj id k o id' k' o' hl hl' ho he:=by
  have hij:InjOn ρ H'.os:= .of h3 h3u
  have hne:∀{id k:Nat} {o:Obj},look H'.os id k=some o->id≠f->∀j,(μ j).1≠ρ id:=fun {id k o} h g=>by
   obtain⟨c,F,hf,hk,rfl⟩:=z1g h;rcases h3b.get _ (z1j hf) with e|e
   ·exact absurd e g
   ·exact e
  unfold anP at he
  by_cases c1:id=f/\0<k<;>by_cases c2:id'=f/\0<k'
  ·rw[qf c1,qf c2] at he;exact⟨c1.1.trans c2.1.symm,hμ.inj _ _ c1.2 c2.2 he⟩
  ·rw[qf c1,qb c2] at he
   exfalso
   by_cases g:id'=f
   ·subst g;have:k'=0:=by omega
    subst this;exact hμ.z _ c1.2 he
   ·exact hne hl' g k (Qr Prod.fst he)
  ·rw[qb c1,qf c2] at he
   exfalso
   by_cases g:id=f
   ·subst g;have:k=0:=by omega
    subst this;exact hμ.z _ c2.2 he.symm
   ·exact hne hl g k' (Qr Prod.fst he).symm
  ·rw[qb c1,qb c2] at he;obtain⟨g1,g2⟩:=Prod.mk.inj he;exact⟨hij _ _ _ _ _ _ hl hl' ho g1,g2⟩
 fix id k hid:=by
  have:=qt.1 h4 id (Qt.2 hid);rw[qy] at this;simp only[anP,this,qb (show¬(id=f/\0<k) by omega)]
 m0:=h5
 keep id k hid ho:=by
  obtain⟨o,ho1,ho2⟩:=ho;obtain⟨c,F,hf,hk,rfl⟩:=z1g ho1;have:=h7 _ (z1j hf) hid (by have:=h6 _ (z1j hf) hid k;simp only at this;rw[<-this];exact ho2);simp only at this
  split at this
  ·rename_i c' F' hf';exact⟨F' k,(zy hf' (by omega)).trans (Obj.opt_of fun e=>by have:=this.2 k;rw[e] at this;cases this),this.2 k⟩
  ·exact this.elim
 big id k o h0 hl ho:=by
  obtain⟨c,F,hf,hk,rfl⟩:=z1g hl;have h9:=qt.1 h8 _ (z1j hf);have h10:=h3u _ (z1j hf) k;simp only[qr,qj,qk] at h9;simp only at h10;rw[ho] at h10;rw[<-h10] at h9;unfold anP
  split
  ·exact hμ.m k
  ·rcases h9 with(h9|h9)|h9
   ·simp only;omega
   ·exact h9
   ·cases h9
theorem HGivesAn.consFO {ρ:Nat->Nat}{f m:Nat}{μ:Nat->Nat×Nat}{os l:List (Nat×Nat×(Nat->Obj))}{c c':Nat}{o o':Bool}{e e':TypeId}{sz sz':Nat}{G G':Nat->Obj}(hf:find os (ρ f)=some (c,fam o e sz G))(hc:0<c)(h1:(o'=true->o=true/\e'=e)/\sz'=sz)
  (h:∀i,i+1<c'->∃c1 F1,find os (μ (i+1)).1=some (c1,F1)/\(μ (i+1)).2<c1/\zr (anP ρ f μ) (F1 (μ (i+1)).2) (G' i)/\(G' i).lt m) (hm:f<m) (ht:HGivesJ (anP ρ f μ) m os l):
  HGivesJ (anP ρ f μ) m os ((f,(c',fam o' e' sz' G'))::l):=by
 refine⟨fun k hk=> ?_,hm,ht⟩
 cases k with
 |zero=>
  have e9:anP ρ f μ f 0=(ρ f,0):=by rw[anP,qb (by omega)]
  rw[e9];refine⟨c,_,hf,hc,?_,fun i j s hi _=>absurd hi (qI _)⟩;simp only[fam,zr,zq];exact⟨h1.1,h1.2,qd _,fun i hi=>absurd hi (qI _)⟩
 |succ i=>
  have e9:anP ρ f μ f (i+1)=μ (i+1):=by rw[anP,qf ⟨rfl,QZ i⟩]
  rw[e9];exact h i hk
theorem goS {X:Cx}{fr:Fr}{H:AH}{fr1:Fr}{H1:AH}(ρ:Nat->Nat)(f:Nat)(μ:Nat->Nat×Nat)(a2:HGivesJ (anP ρ f μ) H1.nxt H.os H1.os)(hμ:MuOk X ρ f μ)(t:MuL ρ f μ H1.os)(q:GpQ X (anP ρ f μ) fr H fr1 H1)(r:GpR X ρ f H1):z54 X (anP ρ f μ) fr H fr1 H1:=
 z54.mkO ρ f μ a2 hμ t q.a1 r.a3 q.a4 r.a5 r.a6 r.a6f q.a7 q.a8 r.a9
end Go.Sk
namespace Go.Proofs
open Tryz
open Go.Sk
section
def mgM (g d e P:Nat):Nat->Nat×Nat:=fun k=>if k<=3*P then(g,k) else if(k-1-3*P)%3=0 then(d,(k-1-3*P)/3+1) else(e,2*((k-1-3*P)/3)+(k-1-3*P)%3)
theorem mgM_old (g d e P:Nat){k:Nat}(h:k<=3*P):mgM g d e P k=(g,k):=qf h
theorem mgM_new (g d e P q:Nat):mgM g d e P (3*(P+q)+1)=(d,q+1)/\mgM g d e P (3*(P+q)+2)=(e,2*q+1)/\mgM g d e P (3*(P+q)+3)=(e,2*q+2):=by
 unfold mgM;refine⟨?_,?_,?_⟩
 ·rw[qb (by omega),qf (by omega),show(3*(P+q)+1-1-3*P)/3=q by omega]
 ·rw[qb (by omega),qb (by omega),show(3*(P+q)+2-1-3*P)/3=q by omega,show(3*(P+q)+2-1-3*P)%3=1 by omega]
 ·rw[qb (by omega),qb (by omega),show(3*(P+q)+3-1-3*P)/3=q by omega,show(3*(P+q)+3-1-3*P)%3=2 by omega]
theorem mgM_ne {d e P g z:Nat}(h:g≠z/\d≠z/\e≠z)(k:Nat):(mgM g d e P k).1≠z:=by
 unfold mgM
 (repeat' split)<;>simp_all
theorem mgM_ok {X:Cx}{ρ:Nat->Nat}{f:Nat}(g d e P:Nat)(h:g≠d/\g≠e/\d≠e)(hg:ρ f=g)(hm:X.m0<=g/\X.m0<=d/\X.m0<=e):MuOk X ρ f (mgM g d e P):=by
 refine⟨fun k k' h1 h2 he=> ?_,fun k h1 he=> ?_,fun k=> ?_⟩
 ·unfold mgM at he
  (repeat' split at he)<;>simp only[jk] at he<;>omega
 ·unfold mgM at he
  (repeat' split at he)<;>simp only[jk] at he<;>omega
 ·unfold mgM
  (repeat' split)
  ·exact hm.1
  ·exact hm.2.1
  ·exact hm.2.2
def lyI (f P:Nat)(ls:List (List Int)):Nat->List SV:=fun q=>[.slc true f (3*(P+q)+1) 0 (ind ls q).length]
theorem lyI_ap (f P:Nat)(ls:List (List Int))(q:Nat):lyI f P ls q=[.slc true f (3*(P+q)+1) 0 (ind ls q).length]:=rfl
theorem lyI_ren' (ρ:Nat->Nat)(f P:Nat)(ls:List (List Int))(q:Nat):SV.renL ρ (lyI f P ls q)=lyI (ρ f) P ls q:=by simp[lyI,SV.renL,SV.ren]
theorem lyI_ren (ρ:Nat->Nat)(f P:Nat)(ls:List (List Int)):(fun q=>SV.renL ρ (lyI f P ls q))=lyI (ρ f) P ls:=by funext q;exact lyI_ren' ρ f P ls q
theorem lyI_lt (m f P:Nat)(ls:List (List Int))(q:Nat):SV.ltL m (lyI f P ls q)↔f<m:=by simp[lyI,SV.ltL,SV.lt]
theorem lyI_renG (ρ:Nat->Nat)(f d e P:Nat)(ls:List (List Int))(q:Nat):SV.renPL (anP ρ f (mgM (ρ f) d e P)) (lyI f P ls q)=ilR true d ls q:=by
 simp only[lyI,ilR,SV.renPL,SV.renP,anP,QZ,JG,Qh,(mgM_new (ρ f) d e P q).1]
theorem lyI_renM2 (ρ:Nat->Nat)(f j b c P:Nat)(ls:List (List Int))(q:Nat):SV.renPL (mvM ρ f (ms2 j b c)) (lyI f P ls q)=lyI (ρ f) P ls q:=by
 simp only[lyI,SV.renPL,SV.renP,mvM,Qh,(ms2_at j b c (P+q)).1]
theorem lyR_renG (ρ:Nat->Nat)(f d e P:Nat)(L:List Ly){i:Nat}(h:i<P):SV.renPL (anP ρ f (mgM (ρ f) d e P)) (lyR f L i)=lyR (ρ f) L i:=by
 simp only[lyR,SV.renPL,SV.renP,anP,QZ,JG,Qh,mgM_old (ρ f) d e P (show 3*i+1<=3*P by omega),mgM_old (ρ f) d e P (show 3*i+2<=3*P by omega),mgM_old (ρ f) d e P (show 3*i+3<=3*P by omega)]
def lyE:Nat->Sk.Obj:=fun i=>if i%2=0 then .row ⟨true,false,117,5,0,z2m []⟩ else .row ⟨true,false,110,7,0,prs []⟩
theorem lyE_0 (i:Nat):∃r:Row,lyE i= .row r/\r.n=0:=by
 unfold lyE
 split
 ·exact⟨_,rfl,rfl⟩
 ·exact⟨_,rfl,rfl⟩
def idLy (ids:List Int):Ly:=⟨0,0,ids,[],[]⟩
def pxL (L:List Ly)(P:Nat)(l:List (List Int)):List Ly:=L.take P++l.map idLy
theorem pxL_lo {L:List Ly}{P:Nat}{l:List (List Int)}{i:Nat}(hP:P<=L.length)(h:i<P):lyA (pxL L P l) i=lyA L i:=by
 rw[pxL,lyA,lyA,qx,qx,Qy (by rw[qO];omega),Qd,qf h]
theorem pxL_hi {L:List Ly}{P:Nat}{l:List (List Int)}{q:Nat}(hP:P<=L.length)(h:q<l.length):lyA (pxL L P l) (P+q)=idLy (ind l q):=by
 have ht:(L.take P).length=P:=by rw[qO];omega
 rw[pxL,lyA,qx,QK (by rw[ht];omega),ht,show P+q-P=q by omega,qP,qK h,ind_lt h];rfl
theorem pxL_nil {L:List Ly}{P:Nat}:pxL L P []=L.take P:=by simp[pxL]
theorem lyF_consG {ρ:Nat->Nat}{f d e P w m:Nat}{os l:List (Nat×Nat×(Nat->Sk.Obj))}{L:List Ly}{ls:List (List Int)}(hP:P<=L.length)(hf:Sk.find os (ρ f)=some (3*P+1,fam true 3 1 (lyF true (L.take P))))
  (hd:Sk.find os d=some (w+1,fam true 3 1 (ilF true ls))) (he:Sk.find os e=some (2*w+1,fam true 3 1 lyE)) (hw:ls.length=w) (hm:f<m) (ht:HGivesJ (anP ρ f (mgM (ρ f) d e P)) m os l):
  HGivesJ (anP ρ f (mgM (ρ f) d e P)) m os ((f,(3*(P+w)+1,fam true 3 1 (lyF true (pxL L P ls))))::l):=by
 refine HGivesAn.consFO hf (by omega) ⟨fun _=>⟨rfl,rfl⟩,rfl⟩ (fun i hi=> ?_) hm ht
 by_cases hlt:i<3*P
 ·rw[mgM_old _ _ _ _ (show i+1<=3*P by omega)];refine⟨_,_,hf,by dsimp only;omega,?_,z3l ..⟩
  show zr _ (lyF true (L.take P) i) _
  exact lyF_givesP _ _ _ _ _ _ id (by rw[pxL_lo hP (by omega),take_ly (by omega)])
 ·obtain⟨q,r,hr,hq⟩:∃q r,r<3/\i=3*(P+q)+r:=⟨(i-3*P)/3,(i-3*P)%3,by omega,by omega⟩;have hqw:q<w:=by omega
  have hx:=pxL_hi (L:=L) (l:=ls) hP (show q<ls.length by omega);obtain⟨g1,g2,g3⟩:=mgM_new (ρ f) d e P q;have h012:r=0\/r=1\/r=2:=by omega
  rcases h012 with g|g|g<;>subst g<;>subst hq
  ·rw[show 3*(P+q)+0+1=3*(P+q)+1 from rfl,g1];refine⟨_,_,hd,by dsimp only;omega,?_,z3l ..⟩
   show zr _ (ilF true ls q) (lyF true _ (3*(P+q)))
   rw[lyF_0,hx,ilF_ap];exact⟨fun _=>⟨rfl,rfl⟩,rfl,qd _,fun q _=>(z2k _ _ q).symm⟩
  ·rw[show 3*(P+q)+1+1=3*(P+q)+2 from rfl,g2];refine⟨_,_,he,by dsimp only;omega,?_,z3l ..⟩
   show zr _ (lyE (2*q)) _
   rw[lyF_1,hx,lyE,qf (by omega)];exact⟨fun _=>⟨rfl,rfl⟩,rfl,qd _,fun q _=>(z4a _ _ q).symm⟩
  ·rw[show 3*(P+q)+2+1=3*(P+q)+3 from rfl,g3];refine⟨_,_,he,by dsimp only;omega,?_,z3l ..⟩
   show zr _ (lyE (2*q+1)) _
   rw[lyF_2,hx,lyE,qb (by omega)];exact⟨fun _=>⟨rfl,rfl⟩,rfl,qd _,fun q _=>(prs_renP _ _ q).symm⟩
end
section
def keyL (c:List Nd):List ByteArray:=c.map (·.key)
def innL (dn:List Int)(c:List Nd):List Bool:=c.map fun x=>dn.contains x.id
def newLy (dn:List Int)(m:Nat)(s:Int×List Nd):Ly:=⟨s.1,(hdN s.2).word,s.2.map (·.id),newK (keyL s.2) (innL dn s.2) s.2.length,List.replicate m noPr⟩
def z3j (ns:List Nd)(dn:List Int)(m:Nat)(ht:Int):Fo:=⟨ns,ht,(z3n ns ht.toNat).map (newLy dn m),List.replicate m noCb⟩
theorem z2i (c:List Nd):(keyL c).length=c.length:=qB ..
theorem z3q (dn:List Int)(c:List Nd):(innL dn c).length=c.length:=qB ..
theorem keyL_at {c:List Nd}{k:Nat}(h:k<c.length):kAt (keyL c) k=(nd c k).key:=by
 rw[z51 h,kAt,qx,qK (by rw[z2i];exact h)];simp[keyL]
theorem innL_at {dn:List Int}{c:List Nd}{k:Nat}(h:k<c.length):bAt (innL dn c) k=dn.contains (nd c k).id:=by
 rw[z51 h,bAt,qx,qK (by rw[z3q];exact h)];simp[innL]
theorem newK_cell (keys:List ByteArray)(inn:List Bool){n k:Nat}(hn:keys.length=n)(hk:k<n):(cl (newK keys inn n) (k+2)).key=kAt keys k/\(cl (newK keys inn n) (k+2)).gone= !bAt inn k:=by
 subst hn;have hlP:(z3o keys inn keys.length).length=keys.length+2:=z3e ..;obtain⟨r,f,h1,_,_⟩:=lnk2_cell (ordN keys inn keys.length) (z3o keys inn keys.length) 0 (by omega) (fun x hx=>by have:=ordN_mem hx;omega) (k+2);rw[newK,h1,cellK_at _ _ _ (by omega),qb (by omega)];exact⟨rfl,rfl⟩
theorem lyA_new {ns:List Nd}{dn:List Int}{m:Nat}{h i:Nat}(hi:i<(z3n ns h).length):lyA ((z3n ns h).map (newLy dn m)) i=newLy dn m (shA (z3n ns h) i):=by
 rw[lyA_lt (by rw[qB];exact hi),shA_lt hi,j4]
theorem cbA_new (m p:Nat):cbA (List.replicate m noCb) p=noCb:=by
 rw[cbA,qx,jO];split<;>rfl
structure MkF (ns:List Nd) (m:Nat) (ht:Int):Prop where
 ck:z1o ns=0
 six:ns.length<=6
 two:2<=m
 four:m<=4
 h0:0<=ht
 h16:ht<=16
section
variable {ns:List Nd} {dn:List Int} {m:Nat} {ht:Int}
theorem newF_sh (hc:z1o ns=0)(hs:ns.length<=20)(h0:0<=ht)(h16:ht<=16)(m1:1<=m)(m8:m<=8):Fsh (z3j ns dn m ht):=by
 refine⟨hc,hs,h0,h16,by simp[z3j];omega,by simp[z3j];omega,by simp[z3j],fun i hi=> ?_⟩;have hi':i<(z3n ns ht.toNat).length:=by simpa [z3j] using hi
 show LyOk (lyA ((z3n ns ht.toNat).map (newLy dn m)) i) (shA (z3n ns ht.toNat) i) (List.replicate m noCb).length
 rw[lyA_new hi',Qk];refine⟨rfl,rfl,by rw[newLy];exact newK_length ..,fun k hk=> ?_,rfl,by rw[newLy];exact Qk⟩
 show(cl (newK (keyL _) (innL dn _) _) (k+2)).key=_
 rw[(newK_cell _ _ (z2i _) hk).1,keyL_at hk]
theorem newF_gone (hc:z1o ns=0)(hs:ns.length<=20)(h0:0<=ht)(h16:ht<=16)(m1:1<=m)(m8:m<=8){x:Nd}(hx:x∈ns){lv:Int}(l0:0<=lv)(lh:lv<=ht):goneF (z3j ns dn m ht).ly x.id lv= !dn.contains x.id:=by
 obtain⟨i,k,a⟩:=(newF_sh (dn:=dn) hc hs h0 h16 m1 m8).place hx l0 lh;have hi:=a.hi;have hk:=a.hk;have hi':i<(z3n ns ht.toNat).length:=by simpa [z3j] using hi
 rw[goneF,a.pI,a.pK,qE];have e:lyA (z3j ns dn m ht).ly i=newLy dn m (shA (z3n ns ht.toNat) i):=lyA_new hi';rw[e] at hk ⊢;have hk':k<(shA (z3n ns ht.toNat) i).2.length:=by simpa [newLy] using hk
 show(cl (newK (keyL _) (innL dn _) _) ((k:Int)+2).toNat).gone=_
 rw[show((k:Int)+2).toNat=k+2 by omega,(newK_cell _ _ (z2i _) hk').2,innL_at hk'];have:=a.nde;rw[show(z3j ns dn m ht).ns=ns from rfl,show(z3j ns dn m ht).ht=ht from rfl] at this;rw[this]
theorem mk_new (h:MkF ns m ht){i:Nat}(hi:i<(z3n ns ht.toNat).length):Mk (keyL (shA (z3n ns ht.toNat) i).2) (innL dn (shA (z3n ns ht.toNat) i).2) m:=by
 have h2:=h.two;have h4:=h.four;have hs:=(newF_sh (dn:=dn) h.ck (qW h.six (by decide)) h.h0 h.h16 (m:=m) (by omega) (by omega)).sub (i:=i) (by simpa [z3j] using hi);have hs:(shA (z3n ns ht.toNat) i).2.Sublist (z52 ns):=hs;have hl:=hs.length_le;rw[<-(z2f ns).length_eq] at hl;have hg:=good_sub hs (good_perm (z2f _) h.ck);have hgi:=(good_iff _).1 hg;have h6:=h.six;refine⟨by rw[z2i];omega,by rw[z3q,z2i],fun k hk=> ?_,?_,h.two,h.four⟩
 ·rw[z2i] at hk;rw[keyL_at hk];have:=hgi.2.1 _ (nd_mem hk);simp only[badN,qi] at this;simp_all
 ·rw[keyL,j9,jF];exact hgi.2.2.imp fun h=>(twinN_false h).2
theorem FI_new (h:MkF ns m ht)(dn:List Int):FI (z3j ns dn m ht) fun i=>ordN (keyL (shA (z3n ns ht.toNat) i).2) (innL dn (shA (z3n ns ht.toNat) i).2) (shA (z3n ns ht.toNat) i).2.length:=by
 have h2:=h.two;have h4:=h.four;have hk0:∀p,(cbA (z3j ns dn m ht).cb p).kind=0:=fun p=>by show(cbA (List.replicate m noCb) p).kind=0;rw[cbA_new];rfl
 have hS:=newF_sh (dn:=dn) h.ck (qW h.six (by decide)) h.h0 h.h16 (show 1<=m by omega) (show m<=8 by omega);refine⟨hS,fun i hi=> ?_,fun p hp=> ?_,fun p i hp hi _=> ?_,fun p i _ _ hk=>absurd (hk0 p) hk,fun p q _ _ hk=>absurd (hk0 p) hk,fun x hx _ lv l0 lh=> ?_,fun p _ hk=>absurd (hk0 p) hk⟩
 ·have hi':i<(z3n ns ht.toNat).length:=by simpa [z3j] using hi
  have e:lyA (z3j ns dn m ht).ly i=newLy dn m (shA (z3n ns ht.toNat) i):=lyA_new hi';rw[e];have:=inv_made (mk_new (dn:=dn) h hi');rw[z2i] at this;exact this
 ·show cbOk _ _ (cbA (List.replicate m noCb) p)=true
  rw[cbA_new,cbOk];rfl
 ·have hi':i<(z3n ns ht.toNat).length:=by simpa [z3j] using hi
  have e:lyA (z3j ns dn m ht).ly i=newLy dn m (shA (z3n ns ht.toNat) i):=lyA_new hi';rw[e]
  show z48 (pr (List.replicate m noPr) p)=false
  rw[show pr (List.replicate m noPr) p=noPr by rw[pr,qx,jO];split<;>rfl]
  rfl
 ·rw[newF_gone h.ck (qW h.six (by decide)) h.h0 h.h16 (by omega) (by omega) hx l0 lh,newF_gone h.ck (qW h.six (by decide)) h.h0 h.h16 (by omega) (by omega) hx (JI _) h.h0]
end
end
section
noncomputable def lsCap (c n p m:Nat):Nat×(Nat->Sk.Obj):=uQ (.row ⟨false,true,85,2,1,fun _=>[.slc true c 0 0 n,.slc true p 0 0 m]⟩)
noncomputable def lsCapF (c n p m:Nat):Nat×(Nat->Sk.Obj):=uQ (.row ⟨false,true,85,2,1,fun _=>[.slc false c 0 0 n,.slc false p 0 0 m]⟩)
def LlNm.exE:=aj9 @zg @zi @zn @zk ec1 ec2 @zj @zt (aj9 @zu ec3 ec4 @clCap.eq_1 @z47.eq_1 ec5 ec6 @z1d.eq_1 (aj6 @zz.eq_1 @z1c @z21 @lsCap.eq_1 @lsCapF.eq_1 @ints.eq_1))
def LlNm.gxE:=aj9 ec3 ec4 @clCap.eq_1 @z47.eq_1 ec7 ec8 @z1d.eq_1 @zz.eq_1 (aj5 @z1v @ints_lt'K @lsCap.eq_1 @lsCapF.eq_1 @ints.eq_1)
def LlNm.axE:=aj9 @zg @zi @zn @zk ec1 ec2 @zj @zt (aj9 @zu ec3 ec4 @clCap.eq_1 @z47.eq_1 ec5 ec6 @z1d.eq_1 (aj8 @zz.eq_1 @z1c @z21 @lsCap.eq_1 @lsCapF.eq_1 @z1q @z2n @z31))
open LlNm (gxE axE exE)
open LlBm (oxE)
open D0 (sdE)
theorem cmpN_spec (cs:List Cl)(n m:Nat)(hn:cs.length=n)(a b:Int)(ha:0<=a/\a<n)(hb:0<=b/\b<n):
  zf prog 90 [.int .i64 a,.int .i64 b,.ptr 0 0 0 0] ⟨3,[(0,lsCap 1 n 2 m),(1,inCl cs),(2,noPrs)]⟩ (fun s H1=>s= .int .i64 (cmpI cs a b)/\H1=⟨3,[]⟩):=by
 refine zf.ofC false 10 [.tmp 5] func90 rfl rfl ntmps90 results90 rfl ?_;intro w0 own0 β0 Q hQ hQn;simp only[z18];refine Zrs [0,1,2] ?_;refine z6 ?_;refine sg [9] rfl ?_;intro K hK;iterate 3 (refine Zo Zl ?_)
 refine Zo Zl ?_;refine Zc1 (less_specK cs n m hn a b ha hb) (fun q=>q+1) ?_;refine z8 (Zpr (hK _ _ ?_));clear hK K;refine z7 _ rfl ?_ ?_
 ·intro h9
  refine Zrs [5] ?_;refine zd (hQ _ _ ?_);refine zb (H':=⟨3,[]⟩) (.inl rfl) ?_;refine Zou ?_;refine⟨Zs,(Zg id),Zs,?_⟩;rw[cmpI,qf h9];exact⟨rfl,trivial⟩
 ·intro h9
  refine za ?_;refine Zrs [5] ?_;refine zd (hQ _ _ ?_);refine zb (H':=⟨3,[]⟩) (.inl rfl) ?_;refine Zou ?_;refine⟨Zs,(Zg id),Zs,?_⟩;rw[cmpI,qb (by rw[h9];exact qn)];exact⟨rfl,trivial⟩
def CmpOk (f:FuncId):Prop:=∀(cs:List Cl) (n m:Nat),cs.length=n->∀a b:Int,(0<=a/\a<n)->(0<=b/\b<n)->zf prog f [.int .i64 a,.int .i64 b,.ptr 0 0 0 0] ⟨3,[(0,lsCap 1 n 2 m),(1,inCl cs),(2,noPrs)]⟩ (fun s H1=>s= .int .i64 (cmpI cs a b)/\H1=⟨3,[]⟩)
theorem cmpOkN:CmpOk 90:=fun cs n m hn a b ha hb=>cmpN_spec cs n m hn a b ha hb
noncomputable def cmpSv (f:FuncId):SV:= .fn f [.ptr 1 0 0 0]
end
end Go.Proofs
namespace Go.Sk
open Go.RowKit Go.WideShapes Go.ChangeShapes
theorem below_sameAt {w w':World}(h:Below w.heap.size w w'){p:MemPlace}(hp:p.block<w.heap.size):w.sameAt w' p:=by
 cases p with
 |cell b off=>exact QW (h.block b hp)
 |map b=>exact h.block b hp
section
variable {H:Type} {enc:TypeId×Value->H} {P:Program}
theorem trodAll_carry {w w':World}{base:Nat}{sp:Nat->Bool}{held:Bool}:∀{ts:List TypeId} {vs:List Value} {ds:List (DataW H)} {ps:List MemPlace},DataW.TrodAll enc P w base sp held ts vs ds ps->(∀p∈ps,w.sameAt w' p)->
  DataW.TrodAll enc P w' base sp held ts vs ds ps
 |[],[],[],_,h,_=>h
 |_::_,_::_,_::_,_,⟨p,q,⟨n,h1⟩,h2,e⟩,hs=>
  ⟨p,q,⟨n,DataW.trod_carry n _ _ _ h1 fun x hx=>hs x (by rw[e];exact Qx _ hx)⟩,trodAll_carry h2 (fun x hx=>hs x (by rw[e];exact Qg _ hx)),e⟩
theorem trodAll_len {w:World}{base:Nat}{sp:Nat->Bool}{held:Bool}:∀{ts:List TypeId} {vs:List Value} {ds:List (DataW H)} {ps:List MemPlace},DataW.TrodAll enc P w base sp held ts vs ds ps->ds.length=ts.length
 |[],[],[],_,_=>rfl
 |_::_,_::_,_::_,_,⟨_,_,_,h2,_⟩=>by simp[trodAll_len h2]
theorem law_post {f:Func}{s:ChangeSpec}{apart fresh handsOn again:Bool}{W W':World}{args:Array Value}{ds gs:List (DataW H)}{before:List MemPlace}(hl:laidOutB P=true)(hm:mapsRowed P=true)
  (hz:∀t e,t<P.types.size->P.underlying t=some (.slice e)->0<P.cellsOf e) (hts:∀t∈f.params.toList,t<P.types.size) (hv:s.vars=[])
  (hW:DataW.Whole enc P f.params.toList s.vars apart W args.toList ds gs before) (hb:Below W.heap.size W W') {tb:TypeId} (hres:f.resultTypes= #[tb]) (hbool:P.underlying tb=some .bool)
  (hfn:∀ds:List (DataW H),ds.length=f.params.toList.length->s.fn H ds={results:=[.lit (.bool true)],args:=ds}):s.post enc P f apart fresh handsOn again W args (.bool true) W':=by
 have hW':=hW;obtain⟨p,q,hA,hV,rfl,hfz,hnd⟩:=hW;rw[hv] at hV
 have hq:gs=[]/\q=[]:=by
  cases gs with
  |nil=>exact⟨rfl,hV⟩
  |cons _ _=>exact hV.elim
 obtain⟨rfl,rfl⟩:=hq;have hfn':=hfn (ds++[]) (by rw[jg];exact trodAll_len hA);have hlt:∀x∈p,x.block<W.heap.size:=DataW.TrodAll.lt hA
 have hargs:∀sp:Nat->Bool,(∀x∈p++[],sp x.block=true)->DataW.TrodAll enc P W' 0 sp true f.params.toList args.toList ds p:=fun sp hsp=>
  trodAll_carry (DataW.TrodAll.respare (kids_rows hl hm) hz hts hA fun x hx=>hsp x (Qx _ hx)) fun x hx=>below_sameAt hb (hlt x hx)
 have hrl:((Value.bool true).resultList f.resultTypes.size)=[.bool true]:=by rw[hres];rfl
 have hres':∀(b:Nat) (sp:Nat->Bool) (hd:Bool),DataW.TrodAll enc P W' b sp hd f.resultTypes.toList ((Value.bool true).resultList f.resultTypes.size) (s.fn H (ds++[])).results []:=fun b sp hd=>by
  rw[hrl,hfn',hres];exact trodAll_mk1 (shut_bool hbool true)
 have hvars:∀sp:Nat->Bool,DataW.TrodVars enc P W' sp s.vars (s.fn H (ds++[])).vars []:=fun sp=>by rw[hfn',hv];rfl
 have hargs':∀sp:Nat->Bool,(∀x∈p++[],sp x.block=true)->DataW.TrodAll enc P W' 0 sp true f.params.toList args.toList (s.fn H (ds++[])).args p:=fun sp hsp=>by
  rw[hfn'];simpa using hargs sp hsp
 have hold:∀x∈p++[],(fun b=>decide (b<W.heap.size)) x.block=true:=fun x hx=>by simpa using hlt x (by simpa using hx)
 refine⟨ds,[],p++[],[],p,[],hW',hres' _ _ _,hargs' _ hold,hvars _,World.keptBut_mono (fun x hx=>⟨hx,?_⟩) (hb.frame (· ∈p++[])),fun _=>⟨?_,_,_,([]++p)++[],⟨[]++p,[],trodAll_append (hargs' _ (fun _ _=>rfl)) (hres' _ _ _),hvars _,rfl,?_,?_⟩,?_⟩⟩
 ·exact .inr (.inl (by simpa using hx))
 ·intro j t r ht hr;rw[hrl] at hr;rw[hres] at ht
  cases j with
  |zero=>simp at ht hr;subst ht hr;exact okWide_bool_mk hbool _
  |succ j=>simp at hr
 ·intro b off hp;have hin:MemPlace.cell b off∈p++[]:=by simpa using hp
  rw[hb.frozen (hlt _ (by simpa using hin))];exact hfz b off hin
 ·intro ha;simpa using hnd ha
 ·intro x hx _;simpa using hx
end
theorem zf.top {P:Program}{f:FuncId}{args:List SV}{H0:AH}(hent:Ent P f)(hF:zf P f args H0 (fun s _=>s= .bool true))(β:Env)(w:World)(vs:List Value)
  (hh:∀id k o,look H0.os id k=some o->o.own=false/\id<H0.nxt/\o.lt H0.nxt/\o.holds β w (β id k)) (hd:z2g β args vs) (hl:SV.ltL H0.nxt args) (htab:∀g,tabG P g=true->g<w.heap.size/\TabAt w g) (htabB:∀g,tabBG P g=true->g<w.heap.size/\TabBAt w g):
  Calls P f vs.toArray w fun e w'=>e= .returned (.bool true)/\Below w.heap.size w w':=by
 let own0:Nat->Nat->Prop:=fun id k=> ∃o,look H0.os id k=some o/\o.own=true
 let X:Cx:={P:=P,n:=0,w0:=w,own0:=own0,m0:=H0.nxt,β0:=β}
 have no:∀id k o,look H0.os id k=some o->¬o.own=true:=fun id k o h=>by rw[(hh id k o h).1];simp
 have no0:∀id k,¬own0 id k:=fun id k ⟨o,h1,h2⟩=>no id k o h1 h2
 have hS:St X β H0 w:={
  os:=rfl,tape:=rfl,output:=rfl,size:=qd _,fix:=fun _ _ _=>rfl
  holds:=fun id k o h=>(hh id k o h).2.2.2
  sep:=fun id k id' k' o o' L L' h _ ho=>absurd ho (no id k o h)
  old:=fun _ _ _=>rfl
  mine:=fun id k o L h ho=>absurd ho (no id k o h)
  keep:=fun id k h=>absurd h (no0 id k)
  m0:=qd _
  lt:=fun id k o h=>⟨(hh id k o h).2.1,(hh id k o h).2.2.1⟩
  tabs:=⟨fun g hg=>⟨(htab g hg).1,(htab g hg).2,fun id k _ h _=>absurd h (no0 id k)⟩,fun g hg=>⟨(htabB g hg).1,(htabB g hg).2,fun id k _ h _=>absurd h (no0 id k)⟩⟩
  drawn:=qd _}
 refine((hF X β w vs rfl rfl rfl rfl rfl hS hd hl).calls hent).mono fun e w' ⟨v,he,β',s,H',hs,_,hdv,_,hS'⟩=> ?_;subst hs;simp only[den] at hdv;subst hdv
 exact⟨he,hS'.os,hS'.tape,hS'.output,hS'.size,fun b hb=>hS'.old b hb fun id k o L h ho hβ=>by
  rcases hS'.mine id k o L h ho hβ with⟨_,h1⟩|⟨_,h2⟩
  ·exact absurd h1 (no0 id k)
  ·have:w.heap.size<=L.blk:=h2
   omega⟩
end Go.Sk
namespace Go.Sk
open Go.RowKit Go.Shelf Go.Lib
theorem world_grow {W w':World}(h1:w'.os=W.os)(h2:w'.tape=W.tape)(h3:w'.output=W.output)(h4:W.heap.size<=w'.heap.size)(h5:∀b,b<W.heap.size->w'.heap[b]? =W.heap[b]?)(h6:W.drawn<=w'.drawn):∃q os',w'=Go.Sort.grow (W.drewN q) os':=by
 refine⟨w'.drawn-W.drawn,w'.heap.extract W.heap.size w'.heap.size,?_⟩;obtain⟨h,t,d,o,u⟩:=w';obtain⟨H,T,D,O,U⟩:=W;dsimp only at*;subst h1 h2 h3
 have e:h=H++h.extract H.size h.size:=by
  apply Array.ext_getElem?;intro k
  by_cases hk:k<H.size
  ·rw[j8 hk,h5 k hk]
  ·rw[Array.getElem?_append_right (by omega),Array.getElem?_extract]
   by_cases hk2:k<h.size
   ·rw[qf (by omega),show H.size+(k-H.size)=k by omega]
   ·rw[qb (by omega),QG (by omega)]
 simp only[Go.Sort.grow,World.drewN,World.mk.injEq];exact⟨e,trivial,by omega,trivial,trivial⟩
theorem zf.reads {P:Program}{g:FuncId}{args0:List SV}{Hc:AH}{r:Int}(hF:zf P g args0 Hc (fun s _=>s= .int .i64 r))(hno:∀id k o,look Hc.os id k=some o->o.own=false)(hent:Ent P g)
  {X:Cx} {β:Env} {H:AH} {W:World} (hP:X.P=P) (hS:St X β H W) (ρ:Nat->Nat) (hg:z4h ρ Hc.nxt H.os Hc.os) {vs:List Value} (hd:z2g β (SV.renL ρ args0) vs) (hl0:SV.ltL Hc.nxt args0):
  Calls P g vs.toArray W fun e w'=>e= .returned (.int .i64 r)/\∃q os',w'=Go.Sort.grow (W.drewN q) os':=by
 subst hP
 let Y:Cx:=⟨X.P,0,W,fun id k=> ∃o,look Hc.os id k=some o/\o.own=true,Hc.nxt,β.via ρ,false⟩
 have hn:∀id k,¬∃o,look Hc.os id k=some o/\o.own=true:=fun id k ⟨o,h1,h2⟩=>by rw[hno id k o h1] at h2;cases h2
 have hY:St Y (β.via ρ) Hc W:=by
  refine⟨rfl,rfl,rfl,qd _,fun _ _ _=>rfl,fun id k o h=> ?_,fun id k id' k' o o' L L' h h' ho hb hb' he=>(hn id k ⟨o,h,ho⟩).elim,fun _ _ _=>rfl,fun id k o L h ho _=>(hn id k ⟨o,h,ho⟩).elim,fun id k ho=>(hn id k ho).elim,qd _,fun id k o h=>⟨(hg.look h).1,(hg.look h).2.1⟩,⟨fun g hgt=> ?_,fun g hgt=> ?_⟩,qd _⟩
  ·obtain⟨_,_,o0,h1,h2⟩:=hg.look h;exact objGives_holds h2 (hS.holds _ _ _ h1)
  ·obtain⟨_,hlt2,htab⟩:=hS.tab hgt;exact⟨hlt2,htab,fun id k L ho hb=>(hn id k ho).elim⟩
  ·obtain⟨_,hlt2,htab⟩:=hS.tabB hgt;exact⟨hlt2,htab,fun id k L ho hb=>(hn id k ho).elim⟩
 refine((hF Y (β.via ρ) W vs rfl rfl rfl rfl rfl hY ((denL_ren _ _).1 hd) hl0).calls hent).mono ?_;rintro e w' ⟨v,rfl,β',s0,H',hR,_,hds,_,hS'⟩;subst hR;simp only[den] at hds;subst hds;refine⟨rfl,world_grow hS'.os hS'.tape hS'.output hS'.size (fun b hb=>hS'.old b hb fun id k o L h ho hb' he=> ?_) hS'.drawn⟩;rcases hS'.mine _ _ _ _ h ho hb' with⟨_,h2⟩|⟨_,h2⟩
 ·exact hn id k h2
 ·have:Y.w0.heap.size=W.heap.size:=rfl;omega
theorem St.refun {X:Cx}{β:Env}{H:AH}{w:World}(hS:St X β H w){os':List (Nat×Nat×(Nat->Obj))}
  (h:∀id k o,look os' id k=some o->∃o0,look H.os id k=some o0/\o0.own=o.own/\(∀q,o0.holds β w q->o.holds β w q)/\(o0.lt H.nxt->o.lt H.nxt))
  (h2:∀id k o0,look H.os id k=some o0->∃o,look os' id k=some o/\o.own=o0.own):St X β ⟨H.nxt,os'⟩ w where
 os:=hS.os
 tape:=hS.tape
 output:=hS.output
 size:=hS.size
 fix:=hS.fix
 holds id k o ho:=by
  obtain⟨o0,h3,_,h5,_⟩:=h id k o ho;exact h5 _ (hS.holds _ _ _ h3)
 sep id k id' k' o o' L L' ho ho' hw:=by
  obtain⟨o0,h3,h4,_⟩:=h id k o ho;obtain⟨o1,h5,_⟩:=h id' k' o' ho';exact hS.sep _ _ _ _ _ _ _ _ h3 h5 (h4.trans hw)
 old b hb hn:=hS.old b hb fun id k o L ho hw hbb=>by
  obtain⟨o1,h3,h4⟩:=h2 id k o ho;exact hn id k o1 L h3 (h4.trans hw) hbb
 mine id k o L ho hw:=by
  obtain⟨o0,h3,h4,_⟩:=h id k o ho;exact hS.mine _ _ _ _ h3 (h4.trans hw)
 keep id k hk:=by
  obtain⟨q1,o,q2,q3⟩:=hS.keep id k hk;obtain⟨o1,h3,h4⟩:=h2 id k o q2;exact⟨q1,o1,h3,h4.trans q3⟩
 m0:=hS.m0
 lt id k o ho:=by
  obtain⟨o0,h3,_,_,h6⟩:=h id k o ho;have:=hS.lt _ _ _ h3;exact⟨this.1,h6 this.2⟩
 tabs:=hS.tabs
 drawn:=hS.drawn
theorem zf.mono {P:Program}{f:FuncId}{args:List SV}{H0:AH}{R R':SV->AH->Prop}(hF:zf P f args H0 R)(h:∀s H,R s H->R' s H):zf P f args H0 R':=fun X β w vs h1 h2 h3 h4 h5 h6 h7 h8=>
 (hF X β w vs h1 h2 h3 h4 h5 h6 h7 h8).mono fun _ _ ⟨v,he,β',s,H',hR,r⟩=>⟨v,he,β',s,H',h _ _ hR,r⟩
section
variable {α:Type} [Inhabited α]
def vals (val:α->Int)(d:Array α):Nat->List SV:=fun i=>[.int .i64 (val d[i]!)]
theorem St.sorted {X:Cx}{β:Env}{H:AH}{w:World}(hS:St X β H w)(val:α->Int){e:TypeId}{n:Nat}{f:Nat->List SV}(hl:look H.os 0 0=some (.row ⟨true,false,e,1,n,f⟩)){os':List (Nat×Nat×(Nat->Obj))}(dk:Array α)(hdk:dk.size=n)
  (hos:∀id' k',look os' id' k'=if id'=0/\k'=0 then some (.row ⟨true,false,e,1,n,vals val dk⟩) else look H.os id' k') {L:Loc} (hb:β 0 0=some L) (m:Nat) (os:Array Go.Obj):
  St X β ⟨H.nxt,os'⟩ (Go.Proofs.sortWorld (fun x:α=>Value.int .i64 (val x)) w L.blk 0 m dk os):=by
 have hh:=hS.holds _ _ _ hl;rw[hb] at hh;rcases hh with⟨_,hc⟩|⟨L',hL',hsz,hlt,hcells,hown⟩
 ·cases hc
 cases hL'
 obtain⟨ho1,ho2,ho3,cur,hcur,hcs⟩:=hown rfl
 have hbk:(Go.Sort.putRow (fun x:α=>Value.int .i64 (val x)) w L.blk 0 dk).heap[L.blk]? =some (.cells (Go.Sort.putCells (fun x:α=>Value.int .i64 (val x)) 0 dk cur) e (0,0)):=by
  simp only[Go.Sort.putRow,Go.Sort.mapBlock,jW,Qh,hcur,Q9,Go.Sort.onCells]
 have h1:St X β ⟨H.nxt,os'⟩ (Go.Sort.putRow (fun x:α=>Value.int .i64 (val x)) w L.blk 0 dk):=by
  refine St.upd hS hl rfl hb (o':= .row ⟨true,false,e,1,n,vals val dk⟩) rfl hos ⟨rfl,rfl,rfl,rfl,Go.Sort.size_putRow ..,fun b hbne=> ?_⟩ (.inr ⟨L,rfl,hsz,?_,fun i hi=>⟨rfl,fun j s hs=> ?_⟩,fun _=>⟨ho1,ho2,ho3,_,hbk,?_⟩⟩) ?_
  ·simp only[Go.Sort.putRow,Go.Sort.mapBlock,jW];rw[qb (by omega)]
  ·rw[Go.Sort.size_putRow];exact hlt
  ·cases j with
   |succ j=>cases hs
   |zero=>
    cases hs
    refine⟨rfl,.int .i64 (val dk[i]!),?_,by simp only[den]⟩;have hi':i<n:=hi;have hcell:w.cell? ⟨L.blk,i,none⟩=cur[i]? :=by simp[World.cell?,hcur]
    have hic:i<cur.size:=by
     rw[hcs];have:(⟨true,false,e,1,n,f⟩:Row).sz=1:=rfl;have h2:(⟨true,false,e,1,n,f⟩:Row).n=n:=rfl;simp only[JJ];exact q8 hi' ho2
    have hL1:L.sz=1:=hsz;rw[show L.off+i*L.sz+0=i by rw[ho1,hL1];omega];simp only[World.cell?,hbk,Go.Sort.putCells,Array.getElem?_mapIdx,Jd hic,Q9,qp,QE,QX,J0,JL,qF,Qw];rw[qf (by omega)]
  ·simp only[Go.Sort.putCells,Array.size_mapIdx];exact hcs
  ·intro i j s hi hj
   cases j with
   |succ j=>cases hj
   |zero=>cases hj;trivial
 refine h1.ext ⟨⟨rfl,rfl,rfl,?_,fun k hk=> ?_⟩,?_⟩
 ·show _<=((Go.Sort.putRow _ (Go.Sort.ahead w m) L.blk 0 dk).heap++os).size
  simp only[JR,Go.Sort.size_putRow]
  show w.heap.size<=w.heap.size+_
  omega
 ·show((Go.Sort.putRow _ (Go.Sort.ahead w m) L.blk 0 dk).heap++os)[k]? =_
  rw[j8 (by rw[Go.Sort.size_putRow] at hk ⊢;exact hk)]
  rfl
 ·show w.drawn<=w.drawn+m
  omega
def z5b (cf:α->α->Int)(d:Array α):Array α:=(d.toList.mergeSort fun x y=> !(Go.Proofs.ltOf cf) y x).toArray
omit [Inhabited α] in
theorem sortedOf_size (cf:α->α->Int)(d:Array α):(z5b cf d).size=d.size:=by simp[z5b]
theorem sortFn_spec {P:Program}{ρs:Ren}(L:Go.Proofs.SlLaysF.n6 P ρs)(hentS:Ent P (ρs.f 6))(g:FuncId)(hent:Ent P g)(cap:List SV)(N:Nat)(os:List (Nat×Nat×(Nat->Obj)))(e:TypeId)(n:Nat)(f:Nat->List SV)
  (val:α->Int) (d:Array α) (hn:d.size=n) (hf:∀i,i<n->f i=[.int .i64 (val d[i]!)]) (cf:α->α->Int) (hO:Go.Sort.SWO (Go.Proofs.ltOf cf)) (hT:∀x y,Go.Proofs.ltOf cf x y=false->Go.Proofs.ltOf cf y x=false->x=y)
  (ρ:Nat->Nat) (Hc:AH) (hno:∀id k o,look Hc.os id k=some o->o.own=false) (hgv:∀f',z4h ρ Hc.nxt ((0,uQ (.row ⟨true,false,e,1,n,f'⟩))::os) Hc.os)
  (capc:List SV) (hcap:SV.renL ρ capc=cap) (hcl:SV.ltL Hc.nxt capc) (hos:∀id k o,look os id k=some o->o.own=false) (hcmp:∀x y:α,zf P g (.int .i64 (val x):: .int .i64 (val y)::capc) Hc (fun s _=>s= .int .i64 (cf x y))) (hsz:n<=1000000):
  zf P (ρs.f 6) [.slc true 0 0 0 n,.fn g cap] ⟨N,(0,uQ (.row ⟨true,false,e,1,n,f⟩))::os⟩
   (fun s H1=>s= .tup []/\H1=⟨N,[(0,uQ (.row ⟨true,false,e,1,n,vals val (z5b cf d)⟩))]⟩):=by
 intro X β w vs hP hm hw hβ ho hS hdl hl;refine .inl ⟨hentS,?_⟩;subst hP hn;simp only[z2g,den] at hdl;obtain⟨v0,r0,h0,⟨v1,r1,⟨cb,hcb,rfl⟩,⟨rfl,rfl⟩⟩,rfl⟩:=hdl;have hl0:look ((0,uQ (.row ⟨true,false,e,1,d.size,vals val d⟩))::os) 0 0=some (.row ⟨true,false,e,1,d.size,vals val d⟩):=rfl
 have hS:St X β ⟨N,(0,uQ (.row ⟨true,false,e,1,d.size,vals val d⟩))::os⟩ w:=by
  refine hS.refun (fun id k o h=> ?_) fun id k o h=> ?_
  ·rw[z1e] at h
   split at h
   ·rename_i he;obtain rfl:=he
    split at h
    ·rename_i hk
     cases h
     have hk0:k=0:=by omega
     subst hk0;refine⟨_,rfl,rfl,fun q hq=> ?_,fun _ i j s hi hj=> ?_⟩
     ·rcases hq with⟨h1,h2⟩|⟨L,h1,h2,h3,h4,h5⟩
      ·exact .inl ⟨h1,h2⟩
      ·refine .inr ⟨L,h1,h2,h3,fun i hi=> ?_,h5⟩;have:=h4 i hi;rw[show(⟨true,false,e,1,d.size,f⟩:Row).f i=vals val d i from hf i hi] at this;exact this
     ·cases j with
      |succ j=>cases hj
      |zero=>cases hj;trivial
    ·cases h
   ·rename_i he;exact⟨o,by show look ((0,_)::os) id k=some o;rw[z1e,qb he];exact h,rfl,fun _ h=>h,fun h=>h⟩
  ·have h':look ((0,uQ (.row ⟨true,false,e,1,d.size,f⟩))::os) id k=some o:=h;clear h;rw[z1e] at h'
   split at h'
   ·rename_i he;obtain rfl:=he
    split at h'
    ·rename_i hk
     cases h'
     have hk0:k=0:=by omega
     subst hk0;exact⟨_,hl0,rfl⟩
    ·cases h'
   ·rename_i he;exact⟨o,by rw[z1e,qb he];exact h',rfl⟩
 have fin:∀{w2:World} {f':Nat->List SV},St X β ⟨N,(0,uQ (.row ⟨true,false,e,1,d.size,f'⟩))::os⟩ w2->St X β ⟨N,[(0,uQ (.row ⟨true,false,e,1,d.size,f'⟩))]⟩ w2:=fun hS2=>by
  refine hS2.less rfl (fun id k o h=> ?_) fun id k o _ h hown=> ?_
  ·rw[z1e] at h ⊢
   split at h
   ·rename_i he;rw[qf he];exact h
   ·cases h
  ·rw[z1e] at h ⊢
   split at h
   ·rename_i he;rw[qf he];exact h
   ·rw[hos id k o h] at hown;cases hown
 have own:∀f':Nat->List SV,OwnAll ⟨N,(0,uQ (.row ⟨true,false,e,1,d.size,f⟩))::os⟩ [(0,uQ (.row ⟨true,false,e,1,d.size,f'⟩))]:=fun f' x hx=>by
  rw[qL] at hx;subst hx;exact⟨fun _=>rfl,.inr ⟨_,qm ..,rfl,rfl,rfl⟩⟩
 by_cases hz:d.size=0
 ·have hd0:z5b cf d=d:=by
   have:d= #[]:=Array.eq_empty_of_size_eq_zero hz;subst this;simp[z5b]
  have hv0:∃p c,v0= .slice p 0 c:=by
   obtain⟨a,c,rfl,_⟩:=z3u h0;exact⟨a,c,by rw[hz]⟩
  obtain⟨p,c,rfl⟩:=hv0;refine(Go.Proofs.AnyF.slices_SortFunc_none (P:=X.P) (ρ:=ρs) {L with} p c (.func (.func g) #[] cb.toArray) w).mono ?_;rintro e1 w' ⟨rfl,rfl⟩;rw[hd0];exact⟨_,rfl,β,.tup [],_,⟨rfl,rfl⟩,own _,by simp only[den];exact⟨[],rfl,rfl⟩,trivial,fin hS⟩
 ·have h0':∃Lc cc,β 0 0=some Lc/\v0= .slice (some ⟨Lc.blk,0,none⟩) d.size cc:=by
   unfold z4u at h0;rw[qf rfl] at h0;rcases h0 with⟨_,h,_⟩|⟨Lc,cc,h1,_,_,_,_,h2⟩
   ·exact absurd h hz
   ·exact⟨Lc,cc,h1,h2⟩
  obtain⟨Lc,cc,hb,rfl⟩:=h0';have hh:=hS.holds _ _ _ hl0;rw[hb] at hh;rcases hh with⟨hc,_⟩|⟨L',hL',hsz1,hblk,hcells,hown⟩
  ·exact absurd hc hz
  cases hL'
  obtain⟨ho1,ho2,ho3,cur,hcur,hcs⟩:=hown rfl;have hL1:Lc.sz=1:=hsz1
  have hH:Go.Sort.Holds (fun x:α=>Value.int .i64 (val x)) w Lc.blk 0 d:=fun j hj=>by
   obtain⟨_,v,h1,h2⟩:=(hcells j hj).2 0 _ rfl;simp only[den] at h2;subst h2;refine⟨?_,by simp[World.frozen?,hcur]⟩;rw[<-h1]
   congr 2
   rw[ho1,hL1];omega
  have hlook:∀(dk:Array α) (id' k':Nat),look ((0,uQ (.row ⟨true,false,e,1,d.size,vals val dk⟩))::os) id' k'=if id'=0/\k'=0 then some (.row ⟨true,false,e,1,d.size,vals val dk⟩) else look ((0,uQ (.row ⟨true,false,e,1,d.size,vals val d⟩))::os) id' k':=fun dk id' k'=>by
   simp only[z1e,uQ]
   by_cases h1:id'=0
   ·subst h1
    by_cases h2:k'=0
    ·subst h2;simp[Obj.opt]
    ·simp[h2]
   ·have h1':¬0=id':=fun e=>h1 e.symm;simp[h1,h1']
  have hsd:=fun(dk:Array α) (hdk:dk.size=d.size) (m:Nat) (os2:Array Go.Obj)=>hS.sorted val hl0 (os':=(0,uQ (.row ⟨true,false,e,1,d.size,vals val dk⟩))::os) dk hdk (hlook dk) hb m os2
  have hC:Go.Proofs.CmpLays1 X.P g cb.toArray (fun x:α=>Value.int .i64 (val x)) cf Lc.blk 0 d.size w:=fun m os2 dk hdk x y=>by
   have h1:=(hcmp x y).reads hno hent rfl (hsd dk hdk m os2) ρ (hgv _) (vs:= .int .i64 (val x):: .int .i64 (val y)::cb) (by
    simp only[SV.renL,SV.ren,z2g,den]
    exact⟨_,_,rfl,⟨_,_,rfl,by rw[hcap];exact hcb,rfl⟩,rfl⟩) (by simp only[SV.ltL,SV.lt,QX];exact hcl)
   simpa using h1
  refine(Go.Proofs.Any.slices_SortFunc_total L (fun x:α=>Value.int .i64 (val x)) (fun _=>rfl) cf hO g cb.toArray Lc.blk 0 cc d w hent hC hH hblk (by omega) hT).mono ?_;rintro e1 w' ⟨rfl,m,os2,rfl⟩;exact⟨_,rfl,β,.tup [],_,⟨rfl,rfl⟩,own _,by simp only[den];exact⟨[],rfl,rfl⟩,trivial,fin (hsd (z5b cf d) (sortedOf_size cf d) m os2)⟩
end
end Go.Sk
namespace Go.Proofs
open Tryz
open Go.Sk
section
theorem uniq_pw {lt:Int->Int->Bool}(irr:∀a,lt a a=false)(asy:∀a b,lt a b=true->lt b a=false):∀{l m:List Int},l.Pairwise (fun a b=>lt a b=true)->m.Pairwise (fun a b=>lt a b=true)->(∀z,z∈l↔z∈m)->l=m
 |[],[],_,_,_=>rfl
 |[],b::m,_,_,h=>absurd ((h b).2 (qm ..)) QA
 |a::l,[],_,_,h=>absurd ((h a).1 (qm ..)) QA
 |a::l,b::m,hl,hm,h=>by
  obtain⟨h1,h2⟩:=Qu.1 hl;obtain⟨h3,h4⟩:=Qu.1 hm
  have e:a=b:=by
   rcases qw.1 ((h a).1 (qm ..)) with e|e
   ·exact e
   ·rcases qw.1 ((h b).2 (qm ..)) with e'|e'
    ·exact e'.symm
    ·have:=asy _ _ (h1 b e');rw[h3 a e] at this;cases this
  subst e;rw[uniq_pw irr asy h2 h4 fun z=> ?_]
  have hne:∀z,z∈l->z≠a:=fun z hz e=>by
   have:=h1 z hz;rw[e,irr] at this;cases this
  have hne':∀z,z∈m->z≠a:=fun z hz e=>by
   have:=h3 z hz;rw[e,irr] at this;cases this
  constructor
  ·intro hz;exact(qw.1 ((h z).1 (qo _ hz))).resolve_left (hne z hz)
  ·intro hz;exact(qw.1 ((h z).2 (qo _ hz))).resolve_left (hne' z hz)
theorem foldl_pw {lt:Int->Int->Bool}(irr:∀a,lt a a=false)(tr:∀a b c,lt a b=true->lt b c=true->lt a c=true):∀(xs l:List Int),l.Pairwise (fun a b=>lt a b=true)->(l++xs).Nodup->(∀a∈l++xs,∀b∈l++xs,a≠b->lt a b=false->lt b a=true)->(xs.foldl (insR lt) l).Pairwise (fun a b=>lt a b=true)
 |[],l,hl,_,_=>hl
 |x::xs,l,hl,hn,ht=>by
  have hmem:∀z,z∈insR lt l x++xs↔z∈l++x::xs:=fun z=>by
   simp only[qR,insR_mem,qw]
   constructor
   ·rintro((a|a)|a)
    ·exact .inr (.inl a)
    ·exact .inl a
    ·exact .inr (.inr a)
   ·rintro(a|a|a)
    ·exact .inl (.inr a)
    ·exact .inl (.inl a)
    ·exact .inr a
  have hx:x∉l:=fun hx=>(je.1 hn).2.2 x hx x (qm ..) rfl;have hpw:=insR_pw tr hl (x:=x) fun y hy hlt=>ht x (Qg _ (qm ..)) y (Qx _ hy) (fun e=>hx (e ▸ hy)) hlt;refine foldl_pw irr tr xs (insR lt l x) hpw ?_ fun a ha b hb=>ht a ((hmem a).1 ha) b ((hmem b).1 hb);have h2:=je.1 hn;have h3:=jD.1 h2.2.1;refine je.2 ⟨?_,h3.2,fun a ha b hb e=> ?_⟩
  ·exact hpw.imp fun {a b} h e=>by subst e;rw[irr] at h;cases h
  ·subst e;rcases insR_mem.1 ha with e|e
   ·subst e;exact h3.1 hb
   ·exact h2.2.2 a e a (qo _ hb) rfl
theorem srtR_pw {lt:Int->Int->Bool}(irr:∀a,lt a a=false)(tr:∀a b c,lt a b=true->lt b c=true->lt a c=true){xs:List Int}(hn:xs.Nodup)(ht:∀a∈xs,∀b∈xs,a≠b->lt a b=false->lt b a=true):(srtR lt xs).Pairwise (fun a b=>lt a b=true):=
 foldl_pw irr tr xs [] Jo (by simpa using hn) (by simpa using ht)
structure InR (n:Nat) where
 val:Int
 inn:val=0\/(0<=val/\val<n)
theorem InR.ext' {n:Nat}{x y:InR n}(h:x.val=y.val):x=y:=by
 cases x;cases y;cases h;rfl
@[reducible] def InR.inh (n:Nat):Inhabited (InR n):=⟨⟨0,.inl rfl⟩⟩
theorem InR.ok {n:Nat}(hn:0<n)(x:InR n):0<=x.val/\x.val<n:=by
 rcases x.inn with e|e
 ·omega
 ·exact e
def cmpOf (lt:Int->Int->Bool)(a b:Int):Int:=if lt a b then -1 else 1
theorem cmpOf_lt (lt:Int->Int->Bool)(a b:Int):decide (cmpOf lt a b<0)=lt a b:=by
 unfold cmpOf
 cases lt a b<;>rfl
theorem sortInts {P:Program}{ρs:Go.Shelf.Ren}(L:SlLaysF.n6 P ρs)(hentS:Ent P (ρs.f 6))(g:FuncId)(hent:Ent P g)(cap:List SV)(N:Nat)(os:List (Nat×Nat×(Nat->Sk.Obj)))(e:TypeId)(lt:Int->Int->Bool)(n:Nat)(hn:0<n)
  (xs:List Int) (hxs:∀x∈xs,0<=x/\x<n) (hnd:xs.Nodup) (irr:∀a,lt a a=false) (tr:∀a b c,lt a b=true->lt b c=true->lt a c=true) (tot:∀a b:Int,(0<=a/\a<n)->(0<=b/\b<n)->a≠b->lt a b=false->lt b a=true)
  (ρ:Nat->Nat) (Hc:AH) (hno:∀id k o,Sk.look Hc.os id k=some o->o.own=false) (hgv:∀f',z4h ρ Hc.nxt ((0,uQ (.row ⟨true,false,e,1,xs.length,f'⟩))::os) Hc.os)
  (capc:List SV) (hcap:SV.renL ρ capc=cap) (hcl:SV.ltL Hc.nxt capc) (hos:∀id k o,Sk.look os id k=some o->o.own=false)
  (hcmp:∀a b:Int,(0<=a/\a<n)->(0<=b/\b<n)->zf P g (.int .i64 a:: .int .i64 b::capc) Hc (fun s _=>s= .int .i64 (cmpOf lt a b))) (hsz:xs.length<=1000000):
  zf P (ρs.f 6) [.slc true 0 0 0 xs.length,.fn g cap] ⟨N,(0,uQ (.row ⟨true,false,e,1,xs.length,ints xs⟩))::os⟩
   (fun s H1=>s= .tup []/\H1=⟨N,[(0,uQ (.row ⟨true,false,e,1,(srtR lt xs).length,ints (srtR lt xs)⟩))]⟩):=by
 letI:Inhabited (InR n):=InR.inh n
 have hdef:InR.val (default:InR n)=0:=rfl
 let cf:InR n->InR n->Int:=fun x y=>cmpOf lt x.val y.val
 let d:Array (InR n):=(xs.attach.map fun x=>(⟨x.1,.inr (hxs x.1 x.2)⟩:InR n)).toArray
 have hdl:d.toList.map InR.val=xs:=by
  show(xs.attach.map fun x=>(⟨x.1,.inr (hxs x.1 x.2)⟩:InR n)).map InR.val=xs
  rw[jZ];simp
 have hds:d.size=xs.length:=by simp[d]
 have hlt:∀x y,ltOf cf x y=lt x.val y.val:=fun x y=>cmpOf_lt lt _ _
 have htot:∀x y:InR n,lt x.val y.val=false->lt y.val x.val=false->x=y:=fun x y h1 h2=>by
  by_cases h:x.val=y.val
  ·exact InR.ext' h
  ·have:=tot _ _ (x.ok hn) (y.ok hn) h h1;rw[h2] at this;cases this
 have hO:Go.Sort.SWO (ltOf cf):=⟨fun x=>by rw[hlt];exact irr _,fun x y z h1 h2=>by rw[hlt] at*;exact tr _ _ _ h1 h2,fun x y z h1 h2=>by
  rw[hlt] at*
  cases h:lt x.val z.val with
  |false=>rfl
  |true=>
   by_cases hxy:x=y
   ·rw[hxy,h2] at h;cases h
   ·have h3:lt y.val x.val=true:=by
     cases h4:lt y.val x.val with
     |true=>rfl
     |false=>exact absurd (htot x y h1 h4) hxy
    have:=tr _ _ _ h3 h
    rw[h2] at this;cases this⟩
 have hval:∀(c:Array (InR n)) (i:Nat),InR.val c[i]! =nth (c.toList.map InR.val) i:=fun c i=>by
  simp only[nth,List.getD,qP,QC]
  by_cases h:i<c.size
  ·rw[getElem!_pos c i h,Jd h];rfl
  ·rw[getElem!_neg c i h,QG (by omega)];exact hdef
 have hperm:(z5b cf d).toList.Perm d.toList:=List.mergeSort_perm _ _
 have hsrt:(z5b cf d).toList.map InR.val=srtR lt xs:=by
  have hmem:∀z,z∈(z5b cf d).toList.map InR.val↔z∈srtR lt xs:=fun z=>by
   rw[srtR_mem,<-hdl,Qq,Qq]
   constructor
   ·rintro⟨a,h1,h2⟩;exact⟨a,hperm.mem_iff.1 h1,h2⟩
   ·rintro⟨a,h1,h2⟩;exact⟨a,hperm.mem_iff.2 h1,h2⟩
  have hnd2:((z5b cf d).toList.map InR.val).Nodup:=(hperm.map InR.val).nodup_iff.2 (by rw[hdl];exact hnd)
  have hle:(z5b cf d).toList.Pairwise (fun a b=>(!(ltOf cf) b a)=true):=List.pairwise_mergeSort (le:=fun x y=> !(ltOf cf) y x) (fun a b c h1 h2=>by
   simp only[qk] at*
   exact hO.ntrans _ _ _ h2 h1) (fun a b=>by
   simp only[hlt]
   cases h1:lt b.val a.val with
   |false=>rfl
   |true=>
    cases h2:lt a.val b.val with
    |false=>rfl
    |true=>have:=tr _ _ _ h1 h2;rw[irr] at this;cases this) _
  refine uniq_pw irr (fun a b h=> ?_) ?_ (srtR_pw irr tr hnd fun a ha b hb=>tot a b (hxs a ha) (hxs b hb)) hmem
  ·cases h2:lt b a with
   |false=>rfl
   |true=>have:=tr _ _ _ h h2;rw[irr] at this;cases this
  ·rw[jF];have hnd3:=jF.1 hnd2;refine(hle.and hnd3).imp fun {a b} h=> ?_;have h1:=h.1;rw[hlt,qk] at h1;exact tot _ _ (b.ok hn) (a.ok hn) (fun e=>h.2 e.symm) h1
 have hsl:(srtR lt xs).length=xs.length:=srtR_length lt xs;have h:=sortFn_spec L hentS g hent cap N os e xs.length (ints xs) InR.val d hds (fun i _=>by rw[hval,hdl];rfl) cf hO (fun x y h1 h2=>by rw[hlt] at h1 h2;exact htot x y h1 h2) ρ Hc hno hgv capc hcap hcl hos (fun x y=>hcmp _ _ (x.ok hn) (y.ok hn)) hsz
 have hv:vals InR.val (z5b cf d)=ints (srtR lt xs):=by
  funext i
  simp only[vals,ints];rw[hval,hsrt]
 rw[hv] at h;rw[hsl];exact h
end
section
def Tryz.sortL_ren:Go.Shelf.Ren:=⟨fun|6=>89|15=>129|14=>128|28=>168|29=>169|20=>160|21=>161|22=>162|23=>163|24=>164|25=>165|26=>166|27=>167|46=>190|47=>191|48=>192|49=>193|50=>194|57=>197|n=>n,fun|22=>22|24=>3|25=>75|3=>3|39=>158|0=>0|53=>60|55=>194|4=>4|46=>186|45=>185|50=>190|5=>5|9=>9|66=>204|70=>208|76=>212|77=>107|n=>n,fun n=>n⟩
theorem Tryz.sortL:Go.Proofs.SlLaysF.n6 prog Tryz.sortL_ren where
 mixed:=by kernel_rfl
 f6:=⟨"slices.SortFunc[[]int,int]",by decide,Tryz.func89.trans (Qr some (by kernel_rfl))⟩
 f14:=⟨"slices.pdqsortCmpFunc[int]",by decide,Tryz.func128.trans (Qr some (by kernel_rfl))⟩
 f15:=Tryz.func129.trans (Qr some (by kernel_rfl))
 f20:=⟨"slices.insertionSortCmpFunc[int]",by decide,Tryz.func160.trans (Qr some (by kernel_rfl))⟩
 f21:=⟨"slices.heapSortCmpFunc[int]",by decide,Tryz.func161.trans (Qr some (by kernel_rfl))⟩
 f22:=⟨"slices.breakPatternsCmpFunc[int]",by decide,Tryz.func162.trans (Qr some (by kernel_rfl))⟩
 f23:=⟨"slices.choosePivotCmpFunc[int]",by decide,Tryz.func163.trans (Qr some (by kernel_rfl))⟩
 f24:=⟨"slices.reverseRangeCmpFunc[int]",by decide,Tryz.func164.trans (Qr some (by kernel_rfl))⟩
 f25:=⟨"slices.partialInsertionSortCmpFunc[int]",by decide,Tryz.func165.trans (Qr some (by kernel_rfl))⟩
 f26:=⟨"slices.partitionEqualCmpFunc[int]",by decide,Tryz.func166.trans (Qr some (by kernel_rfl))⟩
 f27:=⟨"slices.partitionCmpFunc[int]",by decide,Tryz.func167.trans (Qr some (by kernel_rfl))⟩
 f28:=Tryz.func168.trans (Qr some (by kernel_rfl))
 f29:=Tryz.func169.trans (Qr some (by kernel_rfl))
 f46:=⟨"slices.siftDownCmpFunc[int]",by decide,Tryz.func190.trans (Qr some (by kernel_rfl))⟩
 f47:=Tryz.func191.trans (Qr some (by kernel_rfl))
 f48:=Tryz.func192.trans (Qr some (by kernel_rfl))
 f49:=⟨"slices.medianAdjacentCmpFunc[int]",by decide,Tryz.func193.trans (Qr some (by kernel_rfl))⟩
 f50:=⟨"slices.medianCmpFunc[int]",by decide,Tryz.func194.trans (Qr some (by kernel_rfl))⟩
 f57:=⟨"slices.order2CmpFunc[int]",by decide,Tryz.func197.trans (Qr some (by kernel_rfl))⟩
 t0:=underlying0
 a0:=Tryz.isAgg0
 z0:=Tryz.sizeOf0
 v0:=Tryz.zeroValue0
 t3:=underlying3
 a3:=Tryz.isAgg3
 z3:=Tryz.sizeOf3
 v3:=Tryz.zeroValue3
 t4:=underlying4
 a4:=Tryz.isAgg4
 z4:=Tryz.sizeOf4
 v4:=Tryz.zeroValue4
 t5:=underlying5
 a5:=Tryz.isAgg5
 z5:=Tryz.sizeOf5
 v5:=Tryz.zeroValue5
 t9:=underlying9
 a9:=Tryz.isAgg9
 z9:=Tryz.sizeOf9
 v9:=Tryz.zeroValue9
 t22:=underlying22
 a22:=Tryz.isAgg22
 z22:=Tryz.sizeOf22
 v22:=Tryz.zeroValue22
 a24:=Tryz.isAgg3
 z24:=Tryz.sizeOf3
 t25:=underlying75
 a25:=Tryz.isAgg75
 z25:=Tryz.sizeOf75
 v25:=Tryz.zeroValue75
 t39:=underlying158
 a39:=Tryz.isAgg158
 z39:=Tryz.sizeOf158
 v39:=Tryz.zeroValue158
 t45:=underlying185
 a45:=Tryz.isAgg185
 z45:=Tryz.sizeOf185
 v45:=Tryz.zeroValue185
 t46:=underlying186
 a46:=Tryz.isAgg186
 z46:=Tryz.sizeOf186
 v46:=Tryz.zeroValue186
 t50:=underlying190
 a50:=Tryz.isAgg190
 z50:=Tryz.sizeOf190
 v50:=Tryz.zeroValue190
 t53:=underlying60
 a53:=Tryz.isAgg60
 z53:=Tryz.sizeOf60
 v53:=Tryz.zeroValue60
 t55:=underlying194
 a55:=Tryz.isAgg194
 z55:=Tryz.sizeOf194
 v55:=Tryz.zeroValue194
 t66:=underlying204
 a66:=Tryz.isAgg204
 z66:=Tryz.sizeOf204
 v66:=Tryz.zeroValue204
 t70:=underlying208
 a70:=Tryz.isAgg208
 z70:=Tryz.sizeOf208
 v70:=Tryz.zeroValue208
 t76:=underlying212
 a76:=Tryz.isAgg212
 z76:=Tryz.sizeOf212
 v76:=Tryz.zeroValue212
 t77:=underlying107
 a77:=Tryz.isAgg107
 z77:=Tryz.sizeOf107
 v77:=Tryz.zeroValue107
theorem entSort:Ent prog 89:=Ent.of func89 (by kernel_rfl) (by kernel_rfl)
theorem entN:Ent prog 90:=Ent.of func90 (by kernel_rfl) (by kernel_rfl)
theorem memOk_of {n:Nat}{xs:List Int}(h:MemOk n xs):∀x∈xs,0<=x/\x<n:=fun x hx=>by
 obtain⟨i,hi,e⟩:=Qe hx;have:=h i hi;rw[z2v hi,e] at this;exact this
theorem look_no {l:List (Nat×Nat×(Nat->Sk.Obj))}(h:∀x∈l,∀k,(x.2.2 k).own=false):∀id k o,Sk.look l id k=some o->o.own=false:=fun id k o ho=>by
 obtain⟨c,F,hf,_,rfl⟩:=z1g ho;exact h _ (z1j hf) k
theorem sort_specK (f:FuncId)(hf:CmpOk f)(hent:Ent prog f)(cs:List Cl)(n m:Nat)(hn:cs.length=n)(hn0:0<n)(xs:List Int)(k:Nat)(hk:xs.length=k)(hk2:k<=1000000)(hxs:MemOk n xs)(hnd:xs.Nodup)(hd:Dst cs):
  zf prog 89 [.slc true 0 0 0 k,cmpSv f] ⟨4,[(0,zz xs),(1,lsCap 2 n 3 m),(2,inCl cs),(3,noPrs)]⟩
   (fun s H1=>s= .tup []/\H1=⟨4,[(0,zz (srtI (z1l cs) xs))]⟩):=by
 subst hk hn;rw[srtI_srtR];unfold cmpSv
 exact sortInts Tryz.sortL entSort f hent [.ptr 1 0 0 0] 4 [(1,lsCap 2 cs.length 3 m),(2,inCl cs),(3,noPrs)] 3 (z1l cs) cs.length hn0 xs (memOk_of hxs) hnd (lessC_irr cs) (fun _ _ _=>z2o) (fun a b ha hb h=>hd.total ha hb h)
  (fun q=>q+1) ⟨3,[(0,lsCap 1 cs.length 2 m),(1,inCl cs),(2,noPrs)]⟩ (look_no (by simp[lsCap,inCl,noPrs,uQ,Obj.own])) (fun _=>by simp[z4h,Sk.find,uQ,z19,z34,SV.renL,SV.ren,Obj.lt_row,SV.ltL,SV.lt,lsCap,inCl,noPrs,cls_ren',cls_lt]) [.ptr 0 0 0 0] rfl (by simp[SV.ltL,SV.lt])
  (look_no (by simp[lsCap,inCl,noPrs,uQ,Obj.own])) (fun a b ha hb=>(hf cs cs.length m rfl a b ha hb).mono fun s _ h=>h.1) hk2
end
section
theorem insAtI_length {l:List Int}{k:Nat}{x:Int}(h:k<=l.length):(insAtI l k x).length=l.length+1:=by
 simp[insAtI];omega
theorem nth_insAtI {l:List Int}{k:Nat}{x:Int}(h:k<=l.length)(q:Nat):nth (insAtI l k x) q=if q<k then nth l q else if q=k then x else nth l (q-1):=by
 by_cases h1:q<k
 ·rw[qf h1,insAtI,z3g (by simp;omega),z3g (by simp;omega)];simp only[nth,List.getD,Qd,qf h1]
 ·rw[qb h1]
  by_cases h2:q=k
  ·subst h2;rw[qf rfl,insAtI,z3g (by simp;omega),z5q (by simp;omega)];simp only[qO,QS h,jb];rfl
  ·rw[qb h2,insAtI,z5q (by simp;omega)];simp only[nth,List.getD,QL,qU,qO,Qf,QS h]
   congr 2;omega
theorem ins_rowsI {ys:List Int}{k:Nat}(hk:k<=ys.length)(x:Int){q:Nat}(hq:q<ys.length+1):
  (if q=k then SV.int .i64 x::(z5r (ints (ys++[0])) (k+1) (min (ys.length+1-k) (ys.length-k)) (srcF (ints (ys++[0])) k) k).tail
   else z5r (ints (ys++[0])) (k+1) (min (ys.length+1-k) (ys.length-k)) (srcF (ints (ys++[0])) k) q)=[SV.int .i64 (nth (insAtI ys k x) q)]:=by
 have hm:min (ys.length+1-k) (ys.length-k)=ys.length-k:=by omega
 rw[hm,nth_insAtI hk]
 by_cases c1:q=k
 ·subst c1;rw[qf rfl,qb (by omega),qf rfl];simp only[z5r];rw[qb (by omega)]
  rfl
 ·rw[qb c1];simp only[z5r,srcF]
  by_cases c2:q<k
  ·rw[qb (by omega),qf c2];simp only[ints];rw[z3g (by omega)]
  ·rw[qf (by omega),qb c2,qb c1];simp only[ints];rw[show k+(q-(k+1))=q-1 by omega,z3g (by omega)]
end
section
theorem Tryz.zB:zeroB prog 4=true:=by kernel_rfl
theorem Tryz.tyBools:z1m prog 81=⟨true,.slice 4,1,24,[]⟩:=by kernel_rfl
theorem Tryz.tyStrsK:z1m prog 80=⟨true,.slice 9,1,24,[]⟩:=by kernel_rfl
theorem Tryz.szStrs:z28 prog 80=1:=by kernel_rfl
theorem Tryz.szBools:z28 prog 81=1:=by kernel_rfl
theorem Tryz.tyMapS:z1m prog 133=⟨true,.map 9 4,1,8,[]⟩:=by kernel_rfl
def strsK (l:List ByteArray):Nat->List SV:=fun i=>[.str (kAt l i)]
def bos (l:List Bool):Nat->List SV:=fun i=>[.bool (bAt l i)]
theorem strs_ap (l:List ByteArray)(i:Nat):strsK l i=[.str (kAt l i)]:=rfl
theorem bos_ap (l:List Bool)(i:Nat):bos l i=[.bool (bAt l i)]:=rfl
theorem strs_renK (ρ:Nat->Nat)(l:List ByteArray):(fun i=>SV.renL ρ (strsK l i))=strsK l:=by funext i;simp[strsK,SV.renL,SV.ren]
theorem strs_ren'K (ρ:Nat->Nat)(l:List ByteArray)(i:Nat):SV.renL ρ (strsK l i)=strsK l i:=jr (strs_renK ρ l) i
theorem strs_ltK (m:Nat)(l:List ByteArray)(i:Nat):SV.ltL m (strsK l i):=by simp[strsK,SV.ltL,SV.lt]
theorem bos_ren (ρ:Nat->Nat)(l:List Bool):(fun i=>SV.renL ρ (bos l i))=bos l:=by funext i;simp[bos,SV.renL,SV.ren]
theorem bos_ren' (ρ:Nat->Nat)(l:List Bool)(i:Nat):SV.renL ρ (bos l i)=bos l i:=jr (bos_ren ρ l) i
theorem bos_lt (m:Nat)(l:List Bool)(i:Nat):SV.ltL m (bos l i):=by simp[bos,SV.ltL,SV.lt]
def inStr (l:List ByteArray):Nat×(Nat->Sk.Obj):=uQ (.row ⟨false,false,9,1,l.length,strsK l⟩)
def inBo (l:List Bool):Nat×(Nat->Sk.Obj):=uQ (.row ⟨false,false,4,1,l.length,bos l⟩)
theorem rowsOf_cl' (k:ByteArray)(a b c:Int)(g:Bool):z4f 5 1 [SV.str k,SV.int .i64 a,SV.int .i64 b,SV.int .i64 c,SV.bool g]=z2m [⟨k,a,b,c,g⟩]:=rowsOf_cl ⟨k,a,b,c,g⟩
theorem prs_zero (m:Nat):(fun _=>[SV.int .i64 0,SV.int .i64 0,SV.int .i64 0,SV.int .i64 0,SV.int .i64 0,SV.int .i64 0,SV.bool false])=prs (List.replicate m noPr):=by
 funext i
 have:pr (List.replicate m noPr) i=noPr:=by
  unfold pr;simp only[List.getD,jO]
  split<;>rfl
 simp only[prs,this]
 rfl
theorem kAt_lt {l:List ByteArray}{i:Nat}(h:i<l.length):kAt l i=l[i]:=by simp[kAt,List.getD,h]
theorem take_kAt {l:List ByteArray}{i:Nat}(h:i<l.length):l.take (i+1)=l.take i++[kAt l i]:=by
 rw[kAt_lt h,List.take_add_one,qK h];rfl
theorem any_take {l:List ByteArray}(hd:l.Nodup){i:Nat}(h:i<l.length):(l.take i).any (· ==kAt l i)=false:=by
 rw[Jp];intro x hx;obtain⟨j,hj,rfl⟩:=Qe hx;rw[qO] at hj;rw[kAt_lt h,jd];intro e;have e':l[j]=l[i]:=by rwa [MapKept.bytes_beq] at e
 have:=Qc.1 hd j i (by omega) h (by omega);exact this e'
theorem ex_map (a b:Nat):(∃kt et,Kd.map a b=Kd.map kt et)↔True:=⟨fun _=>trivial,fun _=>⟨a,b,rfl⟩⟩
theorem memOk_mems (inn:List Bool)(n:Nat):MemOk (n+2) (mems inn n):=fun i hi=>by
 rw[z2v hi];obtain⟨j,hj,_,e⟩:=z59.1 (qM hi);rw[e];omega
def endC (k:Int):Cl:=⟨⟨#[]⟩,0,0,k,false⟩
def celG (h:Int)(f:Nat->Int)(keys:List ByteArray)(i:Nat):List Cl:=[endC h,endC h]++(List.range i).map fun j=>⟨kAt keys j,0,0,f j,false⟩
theorem celG_length (h:Int)(f:Nat->Int)(keys:List ByteArray)(i:Nat):(celG h f keys i).length=i+2:=by simp[celG]
theorem celG_succ (h:Int)(f:Nat->Int)(keys:List ByteArray)(i:Nat):celG h f keys (i+1)=celG h f keys i++[⟨kAt keys i,0,0,f i,false⟩]:=by simp[celG,JD]
theorem celG_at (h:Int)(f:Nat->Int)(keys:List ByteArray)(i:Nat){q:Nat}(hq:q<i+2):cl (celG h f keys i) q=if q<2 then endC h else⟨kAt keys (q-2),0,0,f (q-2),false⟩:=by
 unfold celG
 by_cases c:q<2
 ·rw[qf c,cl_append_lt (by simpa using c)];rcases(show q=0\/q=1 by omega) with rfl|rfl<;>rfl
 ·rw[qb c,cl_append_ge (by simpa using c),cl_lt (by simp;omega)];simp
theorem lessC_cel {h:Int}{f:Nat->Int}{keys:List ByteArray}{i:Nat}{a b:Int}(ha:2<=a/\a<i+2)(hb:2<=b/\b<i+2):z1l (celG h f keys i) a b=ltK keys a b:=by
 have e1:(a==1)=false:=by simp;omega
 have e2:(b==0)=false:=by simp;omega
 have e3:(a==0)=false:=by simp;omega
 have e4:(b==1)=false:=by simp;omega
 unfold z1l ltK;rw[e1,e2,e3,e4,celG_at _ _ _ _ (by omega),celG_at _ _ _ _ (by omega),qb (show¬a.toNat<2 by omega),qb (show¬b.toNat<2 by omega)];simp only[ji,qF,Qw]
 split
 ·rename_i e;have:a=b:=by simpa using e
  subst this;simp[sLt,bl_irr']
 ·rfl
def ordR (keys:List ByteArray)(inn:List Bool):Nat->List Int
 |0=>[0]
 |i+1=>if bAt inn i then insR (z1l (celG 0 (fun _=>0) keys (i+1))) (ordR keys inn i) ((i:Int)+2) else ordR keys inn i
theorem ordR_eq (keys:List ByteArray)(inn:List Bool):∀i,ordR keys inn i=0::srtR (ltK keys) (mems inn i)
 |0=>rfl
 |i+1=>by
  simp only[ordR,mems]
  split
  ·rw[srtR_snoc,ordR_eq keys inn i,insR_zero (lessC_zero ..)]
   congr 1
   refine insR_congr fun y hy=> ?_;obtain⟨j,hj,_,rfl⟩:=z59.1 ((srtR_mem _).1 hy);exact lessC_cel (by omega) (by omega)
  ·exact ordR_eq keys inn i
def lnk (cs:List Cl)(last:Int):List Int->List Cl
 |[]=>cs
 |c::l=>lnk (z2p cs last c) c l
theorem setR_length (cs:List Cl)(c v:Int):(z2p cs c v).length=cs.length:=by simp[z2p]
theorem lnk_length:∀(l:List Int) (cs:List Cl) (a:Int),(lnk cs a l).length=cs.length
 |[],_,_=>rfl
 |c::l,cs,a=>by rw[lnk,lnk_length l,setR_length]
def celO (keys:List ByteArray)(i:Nat):List Cl:=celG 0 (fun _=>0) keys i
theorem ordN_of (keys:List ByteArray)(inn:List Bool)(n:Nat):srtI (z1l (z3o keys inn n)) (mems inn n)++[1]=ordN keys inn n:=by
 rw[srtI_srtR,srt_memsK _ _ n n (qd _),ordN]
def lefL (cs:List Cl)(a:Int):List Int->List Cl
 |[]=>cs
 |c::l=>lefL (z4g cs c a) c l
theorem cl_set (cs:List Cl)(k q:Nat)(v:Cl)(hq:q<cs.length):cl (cs.set k v) q=if q=k then v else cl cs q:=by
 split
 ·rename_i e;subst e;exact cl_set_eq hq
 ·rename_i e;exact cl_set_ne (Qv e)
def setB (cs:List Cl)(c:Nat)(b:Bool):List Cl:=cs.set c {cl cs c with gone:=b}
theorem setB_len (cs:List Cl)(c:Nat)(b:Bool):(setB cs c b).length=cs.length:=by simp[setB]
theorem cl_setR (cs:List Cl)(c v:Int){q:Nat}(hq:q<cs.length):cl (z2p cs c v) q=if q=c.toNat then {cl cs q with right:=v} else cl cs q:=by
 unfold z2p;rw[cl_set _ _ _ _ hq];split
 ·rename_i e;rw[e]
 ·rfl
theorem cl_setF (cs:List Cl)(c v:Int){q:Nat}(hq:q<cs.length):cl (z4g cs c v) q=if q=c.toNat then {cl cs q with left:=v} else cl cs q:=by
 unfold z4g;rw[cl_set _ _ _ _ hq];split
 ·rename_i e;rw[e]
 ·rfl
theorem cl_setB (cs:List Cl)(c:Nat)(b:Bool){q:Nat}(hq:q<cs.length):cl (setB cs c b) q=if q=c then {cl cs q with gone:=b} else cl cs q:=by
 unfold setB;rw[cl_set _ _ _ _ hq];split
 ·rename_i e;rw[e]
 ·rfl
theorem setR_setF (cs:List Cl)(c v d w:Int):z2p (z4g cs d w) c v=z4g (z2p cs c v) d w:=by
 refine cl_ext (by rw[z2s,z5a,z5a,z2s]) fun q hq=> ?_;rw[z2s,z5a] at hq;rw[cl_setR _ _ _ (by rw[z5a];exact hq),cl_setF _ _ _ hq,cl_setF _ _ _ (by rw[z2s];exact hq),cl_setR _ _ _ hq]
 split<;>split<;>rfl
theorem setR_setB (cs:List Cl)(c v:Int)(d:Nat)(b:Bool):z2p (setB cs d b) c v=setB (z2p cs c v) d b:=by
 refine cl_ext (by rw[z2s,setB_len,setB_len,z2s]) fun q hq=> ?_;rw[z2s,setB_len] at hq;rw[cl_setR _ _ _ (by rw[setB_len];exact hq),cl_setB _ _ _ hq,cl_setB _ _ _ (by rw[z2s];exact hq),cl_setR _ _ _ hq]
 split<;>split<;>rfl
theorem lnk_setF:∀(l:List Int) (cs:List Cl) (a d w:Int),lnk (z4g cs d w) a l=z4g (lnk cs a l) d w
 |[],_,_,_,_=>rfl
 |c::l,cs,a,d,w=>by rw[lnk,lnk,setR_setF,lnk_setF l]
theorem lnk_setB:∀(l:List Int) (cs:List Cl) (a:Int) (d:Nat) (b:Bool),lnk (setB cs d b) a l=setB (lnk cs a l) d b
 |[],_,_,_,_=>rfl
 |c::l,cs,a,d,b=>by rw[lnk,lnk,setR_setB,lnk_setB l]
theorem lnk2_eq:∀(l:List Int) (cs:List Cl) (a:Int),lnk2 cs a l=lefL (lnk cs a l) a l
 |[],_,_=>rfl
 |c::l,cs,a=>by rw[lnk2,lnk,lefL,lnk2_eq l,lnk_setF]
def gonN (cs:List Cl)(inn:List Bool):Nat->List Cl
 |0=>cs
 |i+1=>setB (gonN cs inn i) (i+2) (!bAt inn i)
theorem gonN_len (cs:List Cl)(inn:List Bool):∀i,(gonN cs inn i).length=cs.length
 |0=>rfl
 |i+1=>by rw[gonN,setB_len,gonN_len cs inn i]
theorem lnk_gonN (l:List Int)(cs:List Cl)(a:Int)(inn:List Bool):∀i,lnk (gonN cs inn i) a l=gonN (lnk cs a l) inn i
 |0=>rfl
 |i+1=>by rw[gonN,gonN,lnk_setB,lnk_gonN l cs a inn i]
theorem gonN_at (cs:List Cl)(inn:List Bool):∀i q,q<cs.length->cl (gonN cs inn i) q=if 2<=q/\q<i+2 then {cl cs q with gone:= !bAt inn (q-2)} else cl cs q
 |0,q,hq=>by rw[qb (by omega)];rfl
 |i+1,q,hq=>by
  rw[gonN,cl_setB _ _ _ (by rw[gonN_len];exact hq),gonN_at cs inn i q hq]
  by_cases e:q=i+2
  ·subst e;rw[qf rfl,qb (by omega),qf (by omega)]
   congr 1
  ·rw[qb e]
   by_cases g:2<=q/\q<i+2
   ·rw[qf g,qf (by omega)]
   ·rw[qb g,qb (by omega)]
theorem cellK_gon (keys:List ByteArray)(inn:List Bool)(n:Nat):z3o keys inn n=gonN (celO keys n) inn n:=by
 have hl:(celO keys n).length=n+2:=celG_length ..;refine cl_ext (by rw[z3e,gonN_len,hl]) fun q hq=> ?_;rw[z3e] at hq;rw[cellK_at _ _ _ hq,gonN_at _ _ _ _ (by rw[hl];exact hq),celO,celG_at _ _ _ _ hq]
 by_cases c:q<2
 ·rw[qf c,qf c,qb (by omega)];rfl
 ·rw[qb c,qb c,qf (by omega)]
theorem newK_ref (keys:List ByteArray)(inn:List Bool)(n:Nat):lefL (gonN (lnk (celO keys n) 0 (ordN keys inn n)) inn n) 0 (ordN keys inn n)=newK keys inn n:=by
 rw[newK,lnk2_eq,cellK_gon,lnk_gonN]
theorem lt_blk {m:Nat}{o:Bool}{ks:z56}:(Sk.Obj.blk o ks).lt m↔True:=QF
theorem cls_zero:(fun _=>[SV.str ⟨#[]⟩,SV.int .i64 0,SV.int .i64 0,SV.int .i64 0,SV.bool false]:Nat->List SV)=z2m [noCl,noCl]:=by
 funext i
 match i with
 |0=>rfl
 |1=>rfl
 |i+2=>rfl
end
section
theorem rowsOf_cz:(fun _=>[SV.str ⟨#[]⟩,SV.int .i64 0,SV.int .i64 0,SV.int .i64 0,SV.bool false]:Nat->List SV)=z2m [endC 0,endC 0]:=by
 funext i
 match i with
 |0=>rfl
 |1=>rfl
 |i+2=>rfl
def ec38:=aj6 @Tryz.tyStrsK @Tryz.szStrs @Tryz.tyBools @Tryz.szBools @strs_ap @bos_ap
def ec39:=aj @inStr.eq_1 @inBo.eq_1
def ec40:=aj @app_cls @rowsOf_cl'
def LlWm.exE:=aj9 @zg @zi @zn @zk ec1 ec2 @zj @zt (aj9 @zu ec9 ec3 ec4 ec10 @z1d.eq_1 @zz.eq_1 ec38 (aj6 ec39 ec40 @rowsOf_cz @z21 @z1c @ints.eq_1))
def ec41:=aj4 @strs_ren'K @strs_ltK @bos_ren' @bos_lt
def LlWm.gxE:=aj9 ec3 ec4 ec7 ec10 @renL_ite ec11 @z1d.eq_1 @zz.eq_1 (aj3 ec41 ec39 @ints.eq_1)
def ec42:=aj @strs_renK @bos_ren
def LlWm.axE:=aj9 @zg @zi @zn @zk ec1 ec2 @zj @zt (aj9 @zu ec9 ec3 ec4 ec10 @z1d.eq_1 @zz.eq_1 ec38 (aj9 ec39 ec40 @rowsOf_cz @z21 @z1c @z1q @z2n @pAt_ren (aj3 @renL_ite ec42 @z31)))
open LlWm (gxE axE exE)
open LlBm (oxE)
open D0 (sdE)
theorem newError_spec (keys:List ByteArray)(inn:List Bool)(n m:Nat)(hn:keys.length=n)(hi:inn.length=n)(hn12:n<=64)(hm1:1<=m)(hm8:m<=8)(hk:∀i,i<n->okKey (kAt keys i)=true)(hd:keys.Nodup):
  zf prog 132 [.slc false 0 0 0 n,.slc false 1 0 0 n,.int .i64 m] ⟨2,[(0,inStr keys),(1,inBo inn)]⟩
   (fun s H1=>s= .int .i64 0/\H1=⟨2,[]⟩):=by
 subst hn;refine zf.ofC false 59 [.tmp 6] func132 rfl rfl ntmps132 results132 rfl ?_;intro w0 own0 β0 Q hQ hQn;simp only[z18];refine Zrs [0,1,2] ?_;refine z6 (zc fun Q0 hN0 hX0 hR0 hE0=> ?_);refine Zrs [0,1,2,10] ?_;refine z7 _ rfl ?_ ?_
 ·intro h10
  exfalso;simp only[qr,qh,qi,qv,qk,qq,qj,qg,qy,qz,qX,ne_eq,Qa,q9,qH,qu] at h10;omega
 ·intro h10
  refine Zrs [0,1,14] ?_;refine z7 _ rfl ?_ ?_
  ·intro h14
   exfalso;simp only[qr,qh,qi,qv,qk,qq,qj,qg,qy,qz,qX,ne_eq,Qa,q9,qH,qu] at h14;omega
  ·intro h14
   refine Zrs [0,21] ?_;refine z7 _ rfl ?_ ?_
   ·intro h21
    exfalso;simp at h21
   ·intro h21
    refine za (ze (hN0 _ _ (z6 ?_)));refine Zrs [0,7] ?_;refine zc fun Q1 hN1 hX1 hR1 hE1=> ?_;refine zx (σ:=Nat) (fun i=>i<=keys.length) (fun i=>keys.length-i) (fun i=>[(0,.slc false 0 0 0 keys.length),(7,.int .i64 i)]) (fun i=>⟨2,[(0,inStr keys)]⟩) 0 (qp _) (ρ:=id) (Zg id) ?_;rintro i hle QL1 hL1 hRL1 hEL1;refine z6 ?_;refine Zrs [0,7,30] ?_;refine z7 _ rfl ?_ ?_
    ·intro h30;replace h30:=Znb h30;have hli:i<keys.length:=by omega
     refine za (z6 (zc fun Q2 hN2 hX2 hR2 hE2=> ?_));refine sg [0,7,38] rfl ?_;intro K hK;iterate 4 (refine Zo Zl ?_)
     refine Zo Zl ?_;refine Zc1 (refValidKey_spec (kAt keys i)) (id) ?_;refine Zo Zl ?_;refine z8 (Zpr (hK _ _ ?_));clear hK K;refine z7 _ rfl ?_ ?_
     ·intro h38
      exfalso;rw[hk i hli] at h38;cases h38
     ·intro h38
      refine za (ze (hN2 _ _ ?_));refine Zrg [0,7] ?_;refine ze (hL1 _ _ ?_);rw[show(i:Int)+1=((i+1:Nat):Int) from by omega];exact⟨i+1,⟨by omega,by omega⟩,id,(Zg id)⟩
    ·intro h30
     refine zw (hEL1 _ _ _ (hX1 _ _ (z6 ?_)));refine Zrs [0,8] ?_;refine zc fun Q3 hN3 hX3 hR3 hE3=> ?_;refine zx (σ:=Nat) (fun i=>i<=keys.length) (fun i=>keys.length-i) (fun i=>[(0,.slc false 0 0 0 keys.length),(8,.int .i64 i)]) (fun i=>⟨2,[(0,inStr keys)]⟩) 0 (qp _) (ρ:=id) (Zg id) ?_;rintro a ha QL2 hL2 hRL2 hEL2;refine z6 ?_;refine Zrs [0,8,42] ?_;refine z7 _ rfl ?_ ?_
     ·intro h42;replace h42:=Znb h42;have hla:a<keys.length:=by omega
      refine za (z6 (zc fun Q4 hN4 hX4 hR4 hE4=> ?_));refine Zrs [0,8,9] ?_;refine zc fun Q5 hN5 hX5 hR5 hE5=> ?_;refine zx (σ:=Nat) (fun k=>k<=a) (fun k=>a-k) (fun k=>[(0,.slc false 0 0 0 keys.length),(8,.int .i64 a),(9,.int .i64 k)]) (fun i=>⟨2,[(0,inStr keys)]⟩) 0 (qp _) (ρ:=id) (Zg id) ?_;rintro k hka QL3 hL3 hRL3 hEL3;refine z6 ?_;refine Zrs [0,8,9,47] ?_;refine z7 _ rfl ?_ ?_
      ·intro h47;replace h47:=Znb h47;have hlk:k<a:=by omega
       refine za (z6 (zc fun Q6 hN6 hX6 hR6 hE6=> ?_));refine z6 ?_;refine Zrd [0,8,9,58] [0,1,2,3,4,5,6,7,8] [[],[],[],[],[],[],[],[],[]] [[],[],[],[],[],[],[],[],[]] ?_;intro K hK;iterate 9 (refine Zo (Zi [] []) ?_)
       refine z11 (Zpr (hK _ _ ?_));clear hK K;refine z7 _ rfl ?_ ?_
       ·intro h58
        exfalso;rw[sEq_iff,qj] at h58;exact kAt_inj hd hla hlk h58
       ·intro h58
        refine za (ze (hN6 _ _ ?_));refine Zrg [0,8,9] ?_;refine ze (hL3 _ _ ?_);rw[show(k:Int)+1=((k+1:Nat):Int) from by omega];exact⟨k+1,⟨by omega,by omega⟩,id,(Zg id)⟩
      ·intro h47
       refine zw (hEL3 _ _ _ (hX5 _ _ (ze (hN4 _ _ ?_))));refine Zrg [0,8] ?_;refine ze (hL2 _ _ ?_);rw[show(a:Int)+1=((a+1:Nat):Int) from by omega];exact⟨a+1,⟨by omega,by omega⟩,id,(Zg id)⟩
     ·intro h42
      refine zw (hEL2 _ _ _ (hX3 _ _ ?_));refine Zrs [6] ?_;refine zd (hQ _ _ ?_);refine zb (H':=⟨2,[]⟩) (.inl rfl) ?_;refine Zou ?_;refine⟨Zs,(Zg id),Zs,?_⟩
      all_goals first|trivial|exact⟨rfl,trivial⟩
end
section
theorem app_intsL (xs ys:List Int):app (fun i=>[SV.int .i64 (nth xs i)]) xs.length (fun i=>[SV.int .i64 (nth ys i)])=ints (xs++ys):=ints_append xs ys
theorem celO_succ (keys:List ByteArray)(i:Nat):celO keys (i+1)=celO keys i++[⟨kAt keys i,0,0,0,false⟩]:=celG_succ ..
theorem celO_len (keys:List ByteArray)(i:Nat):(celO keys i).length=i+2:=celG_length ..
noncomputable def bxL (c n p:Nat):Nat×(Nat->Sk.Obj):=uQ (.row ⟨true,true,85,2,1,fun _=>[.slc true c 0 0 n,.slc true p 0 0 0]⟩)
theorem ordR_mem {keys:List ByteArray}{inn:List Bool}{i q:Nat}(h:q<(ordR keys inn i).length):0<=nth (ordR keys inn i) q/\nth (ordR keys inn i) q<i+2:=by
 rw[z2v h];have hm:(ordR keys inn i)[q]∈0::srtR (ltK keys) (mems inn i):=(ordR_eq keys inn i) ▸ qM h
 generalize (ordR keys inn i)[q]=z at hm
 rw[qw,srtR_mem] at hm;rcases hm with rfl|h
 ·omega
 ·obtain⟨j,hj,_,rfl⟩:=z59.1 h;omega
def ordZ (keys:List ByteArray)(inn:List Bool)(n:Nat):List Int:=0::ordN keys inn n
theorem ordZ_mem {keys:List ByteArray}{inn:List Bool}{n q:Nat}(h:q<(ordZ keys inn n).length):0<=nth (ordZ keys inn n) q/\nth (ordZ keys inn n) q<n+2:=by
 rw[z2v h];have hm:=qM h
 generalize (ordZ keys inn n)[q]=z at hm
 rw[ordZ,qw] at hm;rcases hm with rfl|hm
 ·omega
 ·have:=ordN_mem hm;omega
theorem ordZ_of (keys:List ByteArray)(inn:List Bool)(n:Nat):ordR keys inn n++[1]=ordZ keys inn n:=by rw[ordR_eq,ordZ,ordN];rfl
theorem ordR_zero (keys:List ByteArray)(inn:List Bool)(i:Nat):nth (ordR keys inn i) 0=0:=by rw[ordR_eq];rfl
theorem ordR_pos (keys:List ByteArray)(inn:List Bool)(i:Nat):1<=(ordR keys inn i).length/\(ordR keys inn i).length<=i+1:=by
 rw[ordR_eq,QI,srtR_length];have:=mems_length inn i;omega
def LlXm.exE:=aj9 @zg @zi @zn @zk ec1 ec2 @zj @zt (aj9 @zu ec9 ec3 ec4 ec10 @z1d.eq_1 @zz.eq_1 ec38 (aj8 ec39 ec40 @rowsOf_cz @z21 @z1c @ints.eq_1 @app_intsL @bxL.eq_1))
def LlXm.gxE:=aj9 ec3 ec4 ec7 ec10 @renL_ite ec11 @z1d.eq_1 @zz.eq_1 (aj4 ec41 ec39 @ints.eq_1 @bxL.eq_1)
def LlXm.axE:=aj9 @zg @zi @zn @zk ec1 ec2 @zj @zt (aj9 @zu ec9 ec3 ec4 ec10 @z1d.eq_1 @zz.eq_1 ec38 (aj9 ec39 ec40 @rowsOf_cz @z21 @z1c @app_intsL @bxL.eq_1 @z1q (aj5 @z2n @pAt_ren @renL_ite ec42 @z31)))
open LlXm (gxE axE exE)
open LlBm (oxE)
open D0 (sdE)
theorem chained_spec (keys:List ByteArray)(inn:List Bool)(n:Nat)(hn:keys.length=n)(hi:inn.length=n)(hn12:n<=64):
  zf prog 133 [.slc false 0 0 0 n,.slc false 1 0 0 n] ⟨2,[(0,inStr keys),(1,inBo inn)]⟩
   (fun s H1=>s= .tup [.slc true 2 0 0 (n+2),.slc true 3 0 0 (ordZ keys inn n).length]/\H1=⟨4,[(3,zz (ordZ keys inn n)),(2,uQ (.row ⟨true,false,117,5,n+2,z2m (lnk (celO keys n) 0 (ordN keys inn n))⟩))]⟩):=by
 subst hn;refine zf.ofC false 92 [.tmp 4,.tmp 5] func133 rfl rfl ntmps133 results133 rfl ?_;intro w0 own0 β0 Q hQ hQn;simp only[z18];refine Zrs [0,1] ?_;refine Zrs [0,1,6] ?_;refine Zrs [0,1,6,7] ?_;refine z6 ?_;refine Zrs [0,1,6,7,8] ?_;refine z4w 3 1 110 7 (prs []) rfl rfl rfl rfl rfl rfl rfl rfl (by dsimp only;omega) (by simp[SV.ltL,SV.lt]) ?_;simp only[setO,↓reduceIte,Nat.reduceEqDiff,Nat.reduceAdd,QN,QM,reduceCtorEq,uQ];rw[show([endC 0,endC 0]:List Cl)=celO keys 0 from rfl,show([0]:List Int)=ordR keys inn 0 from rfl];refine zc fun Q0 hN0 hX0 hR0 hE0=> ?_;refine zx (σ:=Nat) (fun i=>i<=keys.length) (fun i=>keys.length-i) (fun i=>[(0,.slc false 0 0 0 keys.length),(1,.slc false 1 0 0 keys.length),(6,.ptr 3 0 0 0),(7,.slc true 4 0 0 (ordR keys inn i).length),(8,.int .i64 i)]) (fun i=>⟨6,[(5,uQ (.row ⟨true,false,110,7,0,prs []⟩)),(4,zz (ordR keys inn i)),(3,bxL 2 (celO keys i).length 5),(2,z2x (celO keys i)),(0,inStr keys),(1,inBo inn)]⟩) 0 (qp _) (ρ:=id) (have xE:=aj @celO_len (aj @ordR.eq_1 @ordR.eq_2);Zgx id) ?_;rintro i hle QL1 hL1 hRL1 hEL1;refine z6 ?_;refine Zrs [0,1,6,7,8,20] ?_;refine z7 _ rfl ?_ ?_
 ·intro h20;replace h20:=Znb h20;have hli:i<keys.length:=by omega
  have hcl:=celO_len keys i;have hcl1:=celO_len keys (i+1);have hol:=ordR_pos keys inn i;refine za (z6 (zc fun Q1 hN1 hX1 hR1 hE1=> ?_));refine z6 ?_;refine Zrd [0,1,6,7,8] [0,1,2,3,4,5,6,7,8,9,10] [[],[],[],[],[],[],[],[],[2],[],[3]] [[],[],[],[],[],[],[],[],[2],[2],[2,3]] ?_;intro K hK;iterate 8 (refine Zo (Zi [] []) ?_)
  refine Zo (Zi [2] [2]) ?_;rw[<-celO_succ,show(celO keys i).length+1=(celO keys (i+1)).length by omega];repeat(with_reducible apply qe;exact sdE)
  refine Zo (Zi [] [2]) ?_;refine Zo (Zi [3] [2,3]) ?_;refine z11 (Zpr (hK _ _ ?_));clear hK K;refine z6 ?_;refine Zrs [0,1,6,7,8,37] ?_;refine z7 _ rfl ?_ ?_
  ·intro h37;have hin:bAt inn i=false:=by simpa using h37
   refine zw (hX1 _ _ ?_);refine Zrg [0,1,6,7,8] ?_;refine ze (hL1 _ _ ?_);have ho2:ordR keys inn (i+1)=ordR keys inn i:=by rw[ordR,qb (by rw[hin];exact qn)]
   rw[show(i:Int)+1=((i+1:Nat):Int) from by omega];refine⟨i+1,⟨by omega,by omega⟩,fun q=>if q=2 then 7 else q,?_⟩;simp only[ho2];exact(Zg (fun q=>if q=2 then 7 else q))
  ·intro h37;have hin:bAt inn i=true:=by simpa using h37
   refine za ?_;refine Zrs [0,1,6,7,8,9] ?_;refine z6 (zc fun Q2 hN2 hX2 hR2 hE2=> ?_);refine zx (σ:=Nat) (fun k=>(1<=k/\k<=(ordR keys inn i).length)/\∀q,k<=q->q<(ordR keys inn i).length->z1l (celO keys (i+1)) ((i:Int)+2) (nth (ordR keys inn i) q)=true) (fun k=>k) (fun k=>[(0,.slc false 0 0 0 keys.length),(1,.slc false 1 0 0 keys.length),(6,.ptr 3 0 0 0),(7,.slc true 4 0 0 (ordR keys inn i).length),(8,.int .i64 i),(9,.int .i64 k)]) (fun _=>⟨6,[(5,uQ (.row ⟨true,false,110,7,0,prs []⟩)),(4,zz (ordR keys inn i)),(3,bxL 2 (celO keys (i+1)).length 5),(2,z2x (celO keys (i+1))),(0,inStr keys),(1,inBo inn)]⟩) (ordR keys inn i).length ⟨⟨hol.1,qd _⟩,fun q q1 q2=>by omega⟩ (ρ:=fun q=>if q=2 then 7 else q) (Zg (fun q=>if q=2 then 7 else q)) ?_;rintro k hk QL2 hL2 hRL2 hEL2;refine z6 (z6 ?_);refine Zrd [0,1,6,7,8,9,48] [0,1,2,3,4,5,6,7,8] [[],[],[],[],[],[],[],[],[]] [[],[],[],[],[],[],[],[],[]] ?_;intro K hK;iterate 6 (refine Zo (Zi [] []) ?_)
   obtain⟨⟨hk1,hk2⟩,hk3⟩:=hk;rw[show(k:Int)-1=((k-1:Nat):Int) from by omega];repeat(with_reducible apply qe;exact sdE)
   iterate 2 (refine Zo (Zi [] []) ?_)
   refine Zo (Zi [] []) ?_;refine Zc1 (below_spec (celO keys (i+1)) (celO keys (i+1)).length 0 rfl ((i:Int)+2) (nth (ordR keys inn i) (k-1)) (by omega) (by have:=ordR_mem (keys:=keys) (inn:=inn) (i:=i) (q:=k-1) (by omega);omega)) (fun q=>if q=0 then 2 else 5) ?_;refine z11 (Zpr (hK _ _ ?_));clear hK K;refine z7 _ rfl ?_ ?_
   ·intro h48
    have hk4:1<k:=by
     rcases Ql 1 k with h|h
     ·exact h
     ·have hkk:k=1:=by omega
      subst hkk;rw[show 1-1=0 from rfl,ordR_zero,lessC_zero] at h48
      cases h48
    refine za (zc fun Q3 hN3 hX3 hR3 hE3=> ?_);refine Zrg [0,1,6,7,8,9] ?_;refine ze (hN3 _ _ (ze (hL2 _ _ ?_)));rw[show(k:Int)-1=((k-1:Nat):Int) from by omega];refine⟨k-1,⟨⟨⟨by omega,by omega⟩,fun q q1 q2=> ?_⟩,by omega⟩,id,(Zg id)⟩
    by_cases e:q=k-1
    ·subst e;exact h48
    ·exact hk3 q (by omega) q2
   ·intro h48
    refine zw (hEL2 _ _ _ (hX2 _ _ ?_));refine Zrs [0,1,6,7,8,9] ?_;refine z6 ?_;refine Zrd [0,1,6,7,8,9] [0,1,2,3,4,5,6,7] [[],[],[],[],[],[],[],[7]] [[],[],[],[],[],[],[],[7]] ?_;intro K hK;iterate 3 (refine Zo (Zi [] []) ?_)
    rw[show(k:Int)+1=((k+1:Nat):Int) from by omega];repeat(with_reducible apply qe;exact sdE)
    iterate 4 (refine Zo (Zi [] []) ?_)
    refine Zo (Zi [7] [7]) ?_;refine z11 (Zpr (hK _ _ ?_));clear hK K;refine Zrg [0,1,6,7,8] ?_;refine ze (hN1 _ _ ?_);refine Zrg [0,1,6,7,8] ?_;refine ze (hL1 _ _ ?_)
    have hins:ordR keys inn (i+1)=insAtI (ordR keys inn i) k ((i:Int)+2):=by
     rw[ordR,qf hin];exact insR_at (lt:=z1l (celO keys (i+1))) (ordR keys inn i) k hk2 hk3 fun _=>h48
    have hlen:=insAtI_length (x:=(i:Int)+2) hk2;rw[show(i:Int)+1=((i+1:Nat):Int) from by omega];refine⟨i+1,⟨by omega,by omega⟩,fun j=>if j=4 then 7 else j,?_⟩;simp only[hins,hlen];exact(gvS (fun j=>if j=4 then 7 else j) ⟨Zs,(by simp[z4h,Sk.find,uQ,z19.eq_1,z19.eq_2,z19.eq_3,z34,SV.renL,SV.ren,Obj.lt_row,SV.ltL,SV.lt,gxE];exact⟨by omega,fun q hq=>ins_rowsI hk2 ((i:Int)+2) (by omega)⟩),Zs,Zs,Zs⟩ ⟨rfl,rfl,qc rfl,rfl⟩)
 ·intro h20;replace h20:=Znb h20;have hni:i=keys.length:=by omega
  subst hni;have hcl:=celO_len keys keys.length;have hol:=ordR_pos keys inn keys.length;have hO:=ordZ_of keys inn keys.length;have hOl:(ordR keys inn keys.length).length+1=(ordZ keys inn keys.length).length:=by rw[<-hO];simp
  refine zw (hEL1 _ _ _ (hX0 _ _ ?_));refine sg [6,7] rfl ?_;intro K hK;iterate 3 (refine Zo Zl ?_)
  rw[hO,hOl];repeat(with_reducible apply qe;exact sdE)
  refine Zo Zl ?_;refine z8 (Zpr (hK _ _ ?_));clear hK K;refine z6 ?_;refine Zrs [6,7,10] ?_;refine zc fun Q4 hN4 hX4 hR4 hE4=> ?_;refine zx (σ:=Nat×List Cl) (fun σ=>((1<=σ.1/\σ.1<=(ordZ keys inn keys.length).length)/\σ.2.length=(celO keys keys.length).length)/\lnk σ.2 (nth (ordZ keys inn keys.length) (σ.1-1)) ((ordZ keys inn keys.length).drop σ.1)=lnk (celO keys keys.length) 0 (ordN keys inn keys.length)) (fun σ=>(ordZ keys inn keys.length).length-σ.1) (fun σ=>[(6,.ptr 3 0 0 0),(7,.slc true 4 0 0 (ordZ keys inn keys.length).length),(10,.int .i64 σ.1)]) (fun σ=>⟨6,[(5,uQ (.row ⟨true,false,110,7,0,prs []⟩)),(4,zz (ordZ keys inn keys.length)),(3,bxL 2 (celO keys keys.length).length 5),(2,uQ (.row ⟨true,false,117,5,(celO keys keys.length).length,z2m σ.2⟩))]⟩) (1,celO keys keys.length) ⟨⟨⟨qd _,by dsimp only;omega⟩,rfl⟩,rfl⟩ (ρ:=fun q=>if q=4 then 7 else q) (Zg (fun q=>if q=4 then 7 else q)) ?_;rintro⟨j,cs⟩ hj QL3 hL3 hRL3 hEL3;refine z6 ?_;refine Zrs [6,7,10,73] ?_;refine z7 _ rfl ?_ ?_
  ·intro h73;replace h73:=Znb h73;obtain⟨⟨⟨hj1,hj2⟩,hj3⟩,hj4⟩:=hj;dsimp only at hj1 hj2 hj3 hj4;have hjl:j<(ordZ keys inn keys.length).length:=by omega
   have hz1:=ordZ_mem (keys:=keys) (inn:=inn) (n:=keys.length) (q:=j) (by omega);have hz2:=ordZ_mem (keys:=keys) (inn:=inn) (n:=keys.length) (q:=j-1) (by omega);refine za (z6 (zc fun Q5 hN5 hX5 hR5 hE5=> ?_));refine Zrd [6,7,10] [0,1,2,3,4,5,6,7,8,9,10,11,12,13] [[],[],[],[],[],[],[],[],[],[],[],[],[],[2]] [[],[],[],[],[],[],[],[],[],[],[],[],[],[2]] ?_;intro K hK;iterate 5 (refine Zo (Zi [] []) ?_)
   rw[show(j:Int)-1=((j-1:Nat):Int) from by omega];repeat(with_reducible apply qe;exact sdE)
   iterate 8 (refine Zo (Zi [] []) ?_)
   refine Zo (Zi [2] [2]) ?_;rw[cls_put' cs (nth (ordZ keys inn keys.length) (j-1)).toNat ⟨(cl cs (nth (ordZ keys inn keys.length) (j-1)).toNat).key,(cl cs (nth (ordZ keys inn keys.length) (j-1)).toNat).left,nth (ordZ keys inn keys.length) j,(cl cs (nth (ordZ keys inn keys.length) (j-1)).toNat).lock,(cl cs (nth (ordZ keys inn keys.length) (j-1)).toNat).gone⟩ (by omega)];repeat(with_reducible apply qe;exact sdE)
   refine z11 (Zpr (hK _ _ ?_));clear hK K;refine ze (hN5 _ _ ?_);refine Zrg [6,7,10] ?_;refine ze (hL3 _ _ ?_);rw[show(j:Int)+1=((j+1:Nat):Int) from by omega];refine⟨(j+1,z2p cs (nth (ordZ keys inn keys.length) (j-1)) (nth (ordZ keys inn keys.length) j)),⟨⟨⟨⟨by dsimp only;omega,by dsimp only;omega⟩,by dsimp only;rw[setR_length];exact hj3⟩,?_⟩,by dsimp only;omega⟩,id,?_⟩
   ·dsimp only;rw[<-hj4,jo hjl,lnk,<-z2v hjl]
    rfl
   ·unfold z2p;exact(Zg id)
  ·intro h73;replace h73:=Znb h73;obtain⟨⟨⟨hj1,hj2⟩,hj3⟩,hj4⟩:=hj;dsimp only at hj1 hj2 hj3 hj4;rw[jS (by omega)] at hj4;have hj6:cs=lnk (celO keys keys.length) 0 (ordN keys inn keys.length):=hj4;refine zw (hEL3 _ _ _ (hX4 _ _ ?_));refine Zrs [4,5] ?_;refine zd (hQ _ _ ?_);rw[<-hj6];refine zm (fun q=>if q=3 then 4 else q) (.tup [.slc true 2 0 0 (celO keys keys.length).length,.slc true 3 0 0 (ordZ keys inn keys.length).length]) (⟨4,[(3,zz (ordZ keys inn keys.length)),(2,uQ (.row ⟨true,false,117,5,(celO keys keys.length).length,z2m cs⟩))]⟩) (.inl rfl) ?_;refine Zou ?_;refine⟨Zs,Zs,(Zg (fun q=>if q=3 then 4 else q)),Zs,?_⟩
   all_goals(rw[hcl];first|trivial|exact⟨rfl,rfl⟩)
end
end Go.Proofs
