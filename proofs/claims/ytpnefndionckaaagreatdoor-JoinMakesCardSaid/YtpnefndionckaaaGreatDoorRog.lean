/-
  Walks and plain facts, joined: part 7 of 12.
  Conditions: those that each statement names.
-/
import Derived.Test.YtpnefndionckaaaGreatDoorRof
import Derived.Test.YtpnefndionckaaaGreatDoorRoc
import Derived.Test.YtpnefndionckaaaGreatDoorRoe
import Derived.Test.YtpnefndionckaaaGreatDoorRod
set_option linter.unusedSimpArgs false
set_option linter.unusedVariables false
set_option linter.defProp false
set_option maxRecDepth 4000
set_option maxHeartbeats 8000000
namespace Go.Proofs
open Tryz
open Go.Sk
section
theorem Stb.perm {xs ys:List Nd}(h:Stb xs ys):xs.Perm ys:=by
 rw[List.perm_iff_count];intro x
 have h1:∀l:List Nd,l.count x=(l.filter (cls x.key x.id)).count x:=fun l=>by
  rw[List.count_filter];simp[cls]
 exact(h1 xs).trans ((Qr (List.count x) (h x.key x.id)).trans (h1 ys).symm)
theorem z2f (xs:List Nd):xs.Perm (z52 xs):=(srtN_stb xs).perm
theorem anyB_iff {n:Nat}{p:Nat->Bool}:anyB n p=false↔∀i,i<n->p i=false:=⟨fun h i hi=>anyB_elim h hi,z1s⟩
theorem good_iff (xs:List Nd):z1o xs=0↔xs.length<=64/\(∀x∈xs,badN x=false)/\xs.Pairwise fun a b=>twinN a b=false:=by
 rw[z1o]
 by_cases c1:64<xs.length
 ·rw[qf c1];exact⟨fun h=>by omega,fun h=>by omega⟩
 ·rw[qb c1]
  cases c2:anyB xs.length (fun i=>badN (nd xs i)) with
  |true=>
   rw[qf rfl];refine⟨fun h=>by omega,fun h=> ?_⟩;rw[z1s fun i hi=>by rw[z51 hi];exact h.2.1 _ (qM hi)] at c2
   cases c2
  |false=>
   rw[qb qn];rw[anyB_iff] at c2
   cases c3:anyB xs.length (fun i=>anyB i fun k=>twinN (nd xs k) (nd xs i)) with
   |true=>
    rw[qf rfl];refine⟨fun h=>by omega,fun h=> ?_⟩
    rw[z1s fun i hi=>z1s fun k hk=>by
     rw[z51 hi,z51 (show k<xs.length by omega)]
     exact Qc.1 h.2.2 k i (by omega) hi hk] at c3
    cases c3
   |false=>
    rw[qb qn];rw[anyB_iff] at c3;refine⟨fun _=>⟨by omega,fun x hx=> ?_,Qc.2 fun k i hk hi hki=> ?_⟩,fun _=>rfl⟩
    ·obtain⟨i,hi,rfl⟩:=Qe hx;have:=c2 i hi;rwa [z51 hi] at this
    ·have:=anyB_iff.1 (c3 i hi) k hki;rwa [z51 hi,z51 hk] at this
theorem good_perm {xs ys:List Nd}(h:xs.Perm ys)(hg:z1o xs=0):z1o ys=0:=by
 rw[good_iff] at*;obtain⟨h1,h2,h3⟩:=hg;refine⟨by rw[<-h.length_eq];exact h1,fun x hx=>h2 x (h.mem_iff.2 hx),?_⟩;exact(h.pairwise_iff (R:=fun a b=>twinN a b=false) (fun {x y} hh=>by rw[twinN_comm];exact hh)).1 h3
theorem twinN_false {a b:Nd}(h:twinN a b=false):a.id≠b.id/\a.key≠b.key:=by
 simp only[twinN,sEq_iff,qi,qg] at h;exact h
theorem nd_mem {xs:List Nd}{i:Nat}(h:i<xs.length):nd xs i∈xs:=by rw[z51 h];exact qM h
theorem good_sub {xs ys:List Nd}(h:ys.Sublist xs)(hg:z1o xs=0):z1o ys=0:=by
 rw[good_iff] at*;obtain⟨h1,h2,h3⟩:=hg;exact⟨qW h.length_le h1,fun x hx=>h2 x (h.mem hx),h3.sublist h⟩
end
section
theorem Tryz.tyIntss:z1m prog 78=⟨true,.slice 22,1,24,[]⟩:=by kernel_rfl
theorem Tryz.szIntss:z28 prog 78=1:=by kernel_rfl
theorem Tryz.zInts:z32 prog 22=some [.nils]:=by kernel_rfl
theorem z1t (m:Nat)(l:List Int)(i:Nat):SV.ltL m (ints l i):=by simp[ints,SV.ltL,SV.lt]
theorem z2k (π:Pn)(xs:List Int)(i:Nat):SV.renPL π (ints xs i)=ints xs i:=by simp[ints,SV.renPL,SV.renP]
def ind (cs:List (List Int))(i:Nat):List Int:=cs.getD i []
def ilR (g:Bool)(f:Nat)(cs:List (List Int)):Nat->List SV:=fun i=>[.slc g f (i+1) 0 (ind cs i).length]
def ilF (o:Bool)(cs:List (List Int)):Nat->Sk.Obj:=fun i=> .row ⟨o,false,3,1,(ind cs i).length,ints (ind cs i)⟩
theorem ilR_ap (g:Bool)(f:Nat)(cs:List (List Int))(i:Nat):ilR g f cs i=[.slc g f (i+1) 0 (ind cs i).length]:=rfl
theorem ilR_fold (g:Bool)(f:Nat)(cs:List (List Int)):(fun i=>[SV.slc g f (i+1) 0 (ind cs i).length])=ilR g f cs:=rfl
theorem ilF_ap (o:Bool)(cs:List (List Int))(i:Nat):ilF o cs i= .row ⟨o,false,3,1,(ind cs i).length,ints (ind cs i)⟩:=rfl
theorem ilR_ren (ρ:Nat->Nat)(g:Bool)(f:Nat)(cs:List (List Int)):(fun i=>SV.renL ρ (ilR g f cs i))=ilR g (ρ f) cs:=by funext i;simp[ilR,SV.renL,SV.ren]
theorem ilR_ren' (ρ:Nat->Nat)(g:Bool)(f:Nat)(cs:List (List Int))(i:Nat):SV.renL ρ (ilR g f cs i)=ilR g (ρ f) cs i:=jr (ilR_ren ρ g f cs) i
theorem ilR_lt (m:Nat)(g:Bool)(f:Nat)(cs:List (List Int))(i:Nat):SV.ltL m (ilR g f cs i)↔f<m:=by simp[ilR,SV.ltL,SV.lt]
theorem ilF_gives (ρ:Nat->Nat)(o o':Bool)(cs:List (List Int))(i:Nat):z19 ρ (ilF o cs i) (ilF o' cs i)↔(o'=true->o=true):=by
 simp[ilF,z19,z34,z1v]
theorem ilFm_lt (m:Nat)(o:Bool)(cs:List (List Int))(i:Nat):(ilF o cs i).lt m:=Obj.lt_row.2 fun q _=>z1t m _ q
theorem ilF_own (o:Bool)(cs:List (List Int))(i:Nat):(ilF o cs i).own=o:=rfl
theorem ilF_fown (o:Bool)(e:Go.TypeId)(sz:Nat)(cs:List (List Int))(k:Nat):(fam o e sz (ilF o cs) k).own=o:=fam_own1 (ilF_own o cs) k
theorem ilF_ren (ρ:Nat->Nat)(o:Bool)(cs:List (List Int)):(fun i=>(ilF o cs i).ren ρ)=ilF o cs:=by
 funext i;simp[ilF,Obj.ren,Row.ren,z1q]
theorem ilR_renP (ρ:Nat->Nat)(g:Bool)(f j a:Nat)(cs:List (List Int))(i:Nat):SV.renPL (mvP ρ f j a) (ilR g f cs i)=if i=j then [.slc g a 0 0 (ind cs i).length] else [.slc g (ρ f) (i+1) 0 (ind cs i).length]:=by
 simp only[ilR,SV.renPL,SV.renP,mvP,QX,jL]
 split<;>rfl
theorem clR_renO (ρ:Nat->Nat)(g:Bool)(f j a h:Nat)(hh:h≠f)(cs:List (List Nd))(i:Nat):SV.renPL (mvP ρ f j a) (clR g h cs i)=clR g (ρ h) cs i:=by
 simp[clR,SV.renPL,SV.renP,mvP,hh]
theorem ilF_givesP (π:Pn)(o o':Bool)(cs cs':List (List Int))(i:Nat)(h:o'=true->o=true)(e:ind cs' i=ind cs i):zr π (ilF o cs i) (ilF o' cs' i):=⟨fun h2=>⟨h h2,rfl⟩,rfl,by rw[e];exact qd _,fun q _=>by rw[e];exact(z2k π _ q).symm⟩
theorem ilF_newP (π:Pn)(n:Nat)(l:List Int)(cs:List (List Int))(i:Nat)(hn:l.length=n)(e:ind cs i=l):zr π (.row ⟨true,false,3,1,n,ints l⟩) (ilF true cs i):=⟨fun _=>⟨rfl,rfl⟩,rfl,by rw[e,hn];exact qd _,fun q _=>by rw[e];exact(z2k π _ q).symm⟩
theorem ind_append {cs:List (List Int)}{c:List Int}{i:Nat}(h:i<cs.length):ind (cs++[c]) i=ind cs i:=by simp[ind,List.getD,Qy h]
theorem ind_last (cs:List (List Int))(c:List Int):ind (cs++[c]) cs.length=c:=by simp[ind,List.getD]
theorem ind_lt {cs:List (List Int)}{i:Nat}(h:i<cs.length):ind cs i=cs[i]:=by simp[ind,List.getD,h]
def ec30:=aj @Tryz.tyIntss @Tryz.szIntss
def ec31:=aj @ilR_ap @ilF_ap
def InGm.exE:=aj9 @zg @zi @zj @zo @zl ec13 @zp z43 (aj9 z4y ec28 ec22 @z29 ec23 ec24 ec30 @Tryz.zInts (aj8 @zk @z12 @zn ec31 @ints.eq_1 @z1c @z21 @zz.eq_1))
def ec32:=aj5 @ilR_ren' @ilR_lt @ilF_gives @ilFm_lt @ilF_fown
def InGm.gxE:=aj9 z43 ec16 z4y ec25 ec26 ec29 ec32 @z1v (aj @z1t @zz.eq_1)
def InGm.axE:=aj9 @zg @zi @zj @zo @zl ec13 @zp z43 (aj9 z4y ec28 ec22 @z29 ec24 ec30 @Tryz.zInts @zk (aj9 @z12 @zn @z1c @z21 @zz.eq_1 @z1q @z26 @z40 (aj3 ec27 @ilF_ren @ilR_ren)))
open InGm (gxE axE exE)
open D0 (oxE sdE)
theorem ordered_spec (xs:List Nd)(n:Nat)(hn:xs.length=n)(hx:n<=20):
  zf prog 79 [.slc false 0 0 0 n] ⟨1,[(0,uQ (.row ⟨false,false,62,3,n,nds xs⟩))]⟩
   (fun s H1=>s= .tup [.slc true 1 0 0 n,.bool (decide (z1o xs=0))]/\H1=⟨2,[(1,uQ (.row ⟨true,false,62,3,n,nds (z52 xs)⟩))]⟩):=by
 refine zf.ofC false 9 [.tmp 2,.tmp 3] func79 rfl rfl ntmps79 results79 rfl ?_;intro w0 own0 β0 Q hQ hQn;simp only[z18];refine Zrs [0] ?_;refine sg [2,3] rfl ?_;intro K hK;refine Zo Zl ?_;refine Zo Zl ?_;refine Zc1 (sort_spec xs n hn hx) (id) ?_;refine Zo Zl ?_;refine Zo Zl ?_;refine Zc1 (check_spec xs n hn (by omega)) (id) ?_;iterate 3 (refine Zo Zl ?_)
 refine z8 (Zpr (hK _ _ ?_));clear hK K;refine zd (hQ _ _ ?_);refine zb (H':=⟨2,[(1,uQ (.row ⟨true,false,62,3,n,nds (z52 xs)⟩))]⟩) (.inl rfl) ?_;refine Zou ?_;refine⟨Zs,(Zg id),Zs,?_⟩
 all_goals first|trivial|exact⟨by rw[<-decide_eq];rfl,trivial⟩
theorem level_spec (n:Int):zf prog 50 [.int .i64 n] ⟨0,[]⟩ (fun s H1=>s= .bool (decide (0<=n) && decide (n<=16))/\H1=⟨0,[]⟩):=by
 refine zf.ofC false 9 [.tmp 2] func50 rfl rfl ntmps50 results50 rfl ?_;intro w0 own0 β0 Q hQ hQn;simp only[z18];refine Zrs [0] ?_;refine Zrs [2] ?_;refine zd (hQ _ _ ?_);refine zb (H':=⟨0,[]⟩) (.inl rfl) ?_;refine Zou ?_;refine⟨Zs,(Zg id),Zs,?_⟩
 all_goals first|trivial|exact⟨rfl,trivial⟩
end
section
def lstN (xs:List Nd)(lv:Int):List (List Int):=if z1o xs=0/\0<=lv/\lv<=16 then lstG (z52 xs) lv else []
theorem lstG_len (s:List Nd)(lv:Int):(lstG s lv).length=(z4t s lv).length:=by simp[lstG]
theorem ind_lstG (s:List Nd)(lv:Int){i:Nat}(h:i<(z4t s lv).length):ind (lstG s lv) i=(cnd (z4t s lv) i).map (·.id):=by
 rw[ind_lt (by rw[lstG_len];exact h),cnd_lt h];simp[lstG]
theorem clsN_len (s:List Nd)(lv:Int):(z4t s lv).length<=s.length:=by
 unfold z4t
 split
 ·simp
 ·have:=clsG_len' lv s [];simpa using this
theorem cnd_len (s:List Nd)(lv:Int)(i:Nat):(cnd (z4t s lv) i).length<=s.length:=by
 by_cases h:i<(z4t s lv).length
 ·have h16:lv<=16:=by
   by_cases g:16<lv
   ·rw[z4t,qf g] at h;simp at h
   ·omega
  have:=(clsN_ok h16 s).1.eq (cnd (z4t s lv) i) (by rw[cnd_lt h];exact qM h);rw[this];exact jC ..
 ·have:cnd (z4t s lv) i=[]:=by simp[cnd,List.getD,Nat.not_lt.1 h]
  rw[this];simp
theorem app_intsN {xs ys:List Int}{n:Nat}(h:xs.length=n):app (ints xs) n (ints ys)=ints (xs++ys):=by subst h;exact z21 xs ys
theorem take_ind {ls:List (List Int)}{i:Nat}(h:i<ls.length):ls.take (i+1)=ls.take i++[ind ls i]:=by
 rw[ind_lt h,jm h]
theorem map_take_id {c:List Nd}{j:Nat}(h:j<c.length):(c.take (j+1)).map (·.id)=(c.take j).map (·.id)++[(nd c j).id]:=by
 rw[take_nd h,List.map_append];rfl
def InHm.exE:=aj9 @zg @zi @zj @zo @zl ec13 @zp z43 (aj9 z4y ec28 ec22 @z29 ec23 ec30 @Tryz.zInts @zk (aj7 @z12 @zn ec31 @ints.eq_1 @z1c @z21 @zz.eq_1))
def InHm.axE:=aj9 @zg @zi @zj @zo @zl ec13 @zp z43 (aj9 z4y ec28 ec22 @z29 ec30 @Tryz.zInts @zk @z12 (aj9 @zn @z1c @z21 @zz.eq_1 @z1q @z26 @z40 ec27 (aj4 @clR_fold @ilF_ren @ilR_fold @ilR_ren)))
open InGm (gxE)
open InHm (axE exE)
open D0 (oxE sdE)
theorem lists_spec (xs:List Nd)(n:Nat)(hn:xs.length=n)(lv:Int)(hx:n<=20):
  zf prog 48 [.slc false 0 0 0 n,.int .i64 lv] ⟨1,[(0,uQ (.row ⟨false,false,62,3,n,nds xs⟩))]⟩
   (fun s H1=>s= .slc true 1 0 0 (lstN xs lv).length/\H1=⟨3,[(1,uQ (.row ⟨true,false,22,1,(lstN xs lv).length,ilR true 2 (lstN xs lv)⟩)),(2,((lstN xs lv).length+1,fam true 3 1 (ilF true (lstN xs lv))))]⟩):=by
 subst hn;have hsl:(z52 xs).length=xs.length:=(z2f xs).length_eq.symm;refine zf.ofC false 54 [.tmp 4] func48 rfl rfl ntmps48 results48 rfl ?_;intro w0 own0 β0 Q hQ hQn;simp only[z18];refine Zrs [0,1] ?_;refine sg [1,5,6] rfl ?_;intro K hK;refine Zo Zl ?_;refine Zo Zl ?_;refine Zc1 (ordered_spec xs xs.length rfl hx) (id) ?_;iterate 5 (refine Zo Zl ?_)
 refine z8 (Zpr (hK _ _ ?_));clear hK K;refine z6 ?_;refine Zrs [1,5,27] ?_;refine z7 _ rfl ?_ ?_
 ·intro h27
  refine Zrs [4] ?_;refine z2d 4 22 1 (ilR true 3 []) rfl ?_;dsimp only;refine z23 3 1 (ilF true []) ?_;dsimp only;refine zd (hQ _ _ ?_)
  have hno:¬(z1o xs=0/\0<=lv/\lv<=16):=by
   rintro⟨g1,g2,g3⟩;rcases(by simpa using h27:(¬z1o xs=0\/lv<0)\/16<lv) with(h|h)|h
   ·exact h g1
   ·omega
   ·omega
  rw[show lstN xs lv=[] by rw[lstN,qb hno]];refine zm (fun q=>if q=1 then 2 else if q=2 then 3 else q) (.slc true 1 0 0 ([]:List (List Int)).length) (⟨3,[(1,uQ (.row ⟨true,false,22,1,([]:List (List Int)).length,ilR true 2 []⟩)),(2,(([]:List (List Int)).length+1,fam true 3 1 (ilF true [])))]⟩) (.inl rfl) ?_;refine Zou ?_;refine⟨Zs,Zs,(Zg (fun q=>if q=1 then 2 else if q=2 then 3 else q)),Zs,?_⟩
  all_goals first|trivial|exact⟨rfl,trivial⟩
 ·intro h27
  refine za ?_;refine Zrs [1,5,7] ?_;refine z6 ?_;refine sg [7,30,31,32] rfl ?_;intro K hK;iterate 2 (refine Zo Zl ?_)
  refine Zo Zl ?_;have h27':z1o xs=0/\0<=lv/\lv<=16:=by simpa [and_assoc] using h27
  refine Zc1 (classes_spec (z52 xs) xs.length hsl lv (by omega)) (fun q=>if q=0 then 1 else q) ?_;iterate 2 (refine Zo Zl ?_)
  refine z8 (Zpr (hK _ _ ?_));clear hK K;obtain⟨cl,hcl⟩:∃cl,z4t (z52 xs) lv=cl:=⟨_,rfl⟩;obtain⟨ls,hls⟩:∃ls,lstG (z52 xs) lv=ls:=⟨_,rfl⟩;have hml:cl.length<=xs.length:=by rw[<-hcl,<-hsl];exact clsN_len _ _
  have hll:ls.length=cl.length:=by rw[<-hcl,<-hls,lstG_len]
  have hcn:∀i,(cnd cl i).length<=xs.length:=fun i=>by rw[<-hcl,<-hsl];exact cnd_len _ _ i
  have hil:∀i,i<cl.length->ind ls i=(cnd cl i).map (·.id):=fun i hi=>by rw[<-hls,<-hcl] at*;exact ind_lstG _ _ hi
  rw[hcl];refine z2d 7 22 1 (ilR true 5 (ls.take 0)) rfl ?_;dsimp only;refine z23 3 1 (ilF true (ls.take 0)) ?_;dsimp only;refine zc fun Q0 hN0 hX0 hR0 hE0=> ?_;refine zx (σ:=Nat) (fun i=>i<=cl.length) (fun i=>cl.length-i) (fun i=>[(7,.slc true 4 0 0 i),(30,.slc true 2 0 0 cl.length),(31,.int .i64 cl.length),(32,.int .i64 i)]) (fun i=>⟨6,[(4,uQ (.row ⟨true,false,22,1,i,ilR true 5 (ls.take i)⟩)),(5,(i+1,fam true 3 1 (ilF true (ls.take i)))),(2,uQ (.row ⟨true,false,23,1,cl.length,clR true 3 cl⟩)),(3,(cl.length+1,fam true 62 3 (clF true cl)))]⟩) 0 (qp _) (ρ:=id) (Zg id) ?_;rintro i hi QL1 hL1 hRL1 hEL1;refine Zrs [7,30,31,32,33] ?_;refine z6 ?_;refine z7 _ rfl ?_ ?_
  ·intro h33;replace h33:=Znb h33;have hlc:=hcn i;refine za (z6 (zc fun Q1 hN1 hX1 hR1 hE1=> ?_));refine Zrs [7,9,30,31,32] ?_;refine Zrs [7,9,10,30,31,32] ?_;refine z6 ?_;refine Zrs [7,10,30,31,32,36,37,38] ?_;refine z2d 10 3 1 (ints (((cnd cl i).take 0).map (·.id))) rfl ?_;dsimp only;refine zc fun Q2 hN2 hX2 hR2 hE2=> ?_;refine zx (σ:=Nat) (fun j=>j<=(cnd cl i).length) (fun j=>(cnd cl i).length-j) (fun j=>[(7,.slc true 4 0 0 i),(10,.slc true 6 0 0 j),(30,.slc true 2 0 0 cl.length),(31,.int .i64 cl.length),(32,.int .i64 i),(36,.slc true 3 (i+1) 0 (cnd cl i).length),(37,.int .i64 (cnd cl i).length),(38,.int .i64 j)]) (fun j=>⟨7,[(6,uQ (.row ⟨true,false,3,1,j,ints (((cnd cl i).take j).map (·.id))⟩)),(4,uQ (.row ⟨true,false,22,1,i,ilR true 5 (ls.take i)⟩)),(5,(i+1,fam true 3 1 (ilF true (ls.take i)))),(2,uQ (.row ⟨true,false,23,1,cl.length,clR true 3 cl⟩)),(3,(cl.length+1,fam true 62 3 (clF true cl)))]⟩) 0 (qp _) (ρ:=id) (Zg id) ?_;rintro j hj QL2 hL2 hRL2 hEL2;refine Zrs [7,10,30,31,32,36,37,38,39] ?_;refine z6 ?_;refine z7 _ rfl ?_ ?_
   ·intro h39;replace h39:=Znb h39;refine za (z6 (zc fun Q3 hN3 hX3 hR3 hE3=> ?_));refine Zrs [7,10,12,30,31,32,36,37,38] ?_;refine Zrg [7,10,30,31,32,36,37,38] ?_;refine ze (hN3 _ _ ?_);refine Zrg [7,10,30,31,32,36,37,38] ?_;refine ze (hL2 _ _ ?_);rw[show(j:Int)+1=((j+1:Nat):Int) from by omega,app_intsN (by simp;omega),<-map_take_id (by omega)];exact⟨j+1,⟨by omega,by omega⟩,fun q=>if q=6 then 9 else q,(Zg (fun q=>if q=6 then 9 else q))⟩
   ·intro h39;replace h39:=Znb h39;refine zw (hEL2 _ _ _ (hX2 _ _ ?_));refine Zrg [7,30,31,32] ?_;refine ze (hN1 _ _ ?_);have hjl:j=(cnd cl i).length:=by omega
    subst hjl;have hT:ls.take (i+1)=ls.take i++[(cnd cl i).map (·.id)]:=by rw[take_ind (by omega),hil i (by omega)]
    have hTl:(ls.take i).length=i:=by rw[qO];omega
    rw[QV]
    have hout:∀q,q<i+1->app (ilR true 5 (ls.take i)) i (z4f 1 1 [SV.slc true 6 0 0 (cnd cl i).length]) q=SV.renPL (mvP (fun q=>if q=4 then 8 else q) 5 i 6) (ilR true 5 (ls.take (i+1)) q):=fun q hq=>by
     rw[ilR_renP,hT]
     split
     ·rename_i e;subst e;rw[app,qb (by omega),jb,show ind (ls.take q++[(cnd cl q).map (·.id)]) q=(cnd cl q).map (·.id) by have h:=ind_last (ls.take q) ((cnd cl q).map (·.id));rw[hTl] at h;exact h,qB]
      rfl
     ·rw[ind_append (by omega),app,qf (by omega)];rfl
    have hlast:ind (ls.take (i+1)) i=(cnd cl i).map (·.id):=by
     have h:=ind_last (ls.take i) ((cnd cl i).map (·.id));rw[hTl] at h;rw[hT];exact h
    refine z4p (fr':=[(7,.slc true 4 0 0 (i+1)),(30,.slc true 2 0 0 cl.length),(31,.int .i64 cl.length),(32,.int .i64 i)]) (H':=⟨6,[(4,uQ (.row ⟨true,false,22,1,i+1,ilR true 5 (ls.take (i+1))⟩)),(5,(i+1+1,fam true 3 1 (ilF true (ls.take (i+1))))),(2,uQ (.row ⟨true,false,23,1,cl.length,clR true 3 cl⟩)),(3,(cl.length+1,fam true 62 3 (clF true cl)))]⟩) _ (Zgp (fun q=>if q=4 then 8 else q) (5) (i) (6) (z1i rfl ql (by decide) (zq.of (fun _=>⟨rfl,rfl⟩) rfl (qd _) hout) (Obj.lt_row.2 fun q _=>(ilR_lt _ _ _ _ q).2 (qc rfl)) (qc rfl) (z4q rfl rfl ql ⟨fun _=>⟨rfl,rfl⟩,rfl⟩ (QZ _) (fun q hq hne=>⟨by omega,ilF_givesP _ _ _ _ _ _ id (by rw[hT];exact ind_append (by omega)),ilFm_lt _ _ _ _⟩) (ilF_newP _ _ _ _ _ (by simp) hlast) (ilFm_lt _ _ _ _) (qc rfl) (z1i rfl ql (by decide) (zq.of (fun _=>⟨rfl,rfl⟩) rfl (qd _) fun q _=>(show clR true 3 cl q=SV.renPL _ (clR true 3 cl q) by rw[clR_renO _ _ 5 i 6 3 (by decide)];rfl)) (Obj.lt_row.2 fun q _=>(clR_lt _ _ _ _ q).2 (qc rfl)) (qc rfl) (z1n.consO rfl (by decide) ⟨fun _=>⟨rfl,rfl⟩,rfl⟩ (qd _) (fun q _=>⟨clF_givesP _ _ _ _ _ _ id rfl,clFm_lt _ _ _ _⟩) (qc rfl) trivial))))) ?_;refine Zrg [7,30,31,32] ?_;refine ze (hL1 _ _ ?_)
    rw[show(i:Int)+1=((i+1:Nat):Int) from by omega];exact⟨i+1,⟨by omega,by omega⟩,id,(Zg id)⟩
  ·intro h33
   refine zw (hEL1 _ _ _ (hX0 _ _ ?_));refine Zrs [4] ?_;refine zd (hQ _ _ ?_)
   have hic:i=cl.length:=by
    have:¬(i:Int)<cl.length:=by simpa using h33
    omega
   subst hic;rw[show lstN xs lv=ls by rw[lstN,qf (by simpa [and_assoc] using h27),hls],Qo (by omega:ls.length<=cl.length),<-hll];refine zm (fun q=>if q=1 then 4 else if q=2 then 5 else q) (.slc true 1 0 0 ls.length) (⟨3,[(1,uQ (.row ⟨true,false,22,1,ls.length,ilR true 2 ls⟩)),(2,(ls.length+1,fam true 3 1 (ilF true ls)))]⟩) (.inl rfl) ?_;refine Zou ?_;refine⟨Zs,Zs,(Zg (fun q=>if q=1 then 4 else if q=2 then 5 else q)),Zs,?_⟩
   all_goals first|trivial|exact⟨rfl,trivial⟩
end
section
structure Ly where
 lvl:Int
 wd:Int
 ids:List Int
 cs:List Cl
 ps:List Pr
deriving DecidableEq
structure Cb where
 kind:Int
 node:Int
 lvl:Int
deriving DecidableEq
structure Fo where
 ns:List Nd
 ht:Int
 ly:List Ly
 cb:List Cb
deriving DecidableEq
def noLy:Ly:=⟨0,0,[],[],[]⟩
def noCb:Cb:=⟨0,0,0⟩
def noFo:Fo:=⟨[],0,[],[]⟩
def lyA (L:List Ly)(i:Nat):Ly:=L.getD i noLy
def cbA (C:List Cb)(i:Nat):Cb:=C.getD i noCb
theorem lyA_lt {l:List Ly}{i:Nat}(h:i<l.length):lyA l i=l[i]:=by simp[lyA,List.getD,h]
theorem cbA_lt {l:List Cb}{i:Nat}(h:i<l.length):cbA l i=l[i]:=by simp[cbA,List.getD,h]
theorem lyA_set_eq {l:List Ly}{i:Nat}{x:Ly}(h:i<l.length):lyA (l.set i x) i=x:=by simp[lyA,List.getD,h]
theorem lyA_set_ne {l:List Ly}{i j:Nat}{x:Ly}(h:i≠j):lyA (l.set i x) j=lyA l j:=by simp[lyA,List.getD,jG h]
theorem z4r {l:List Cb}{i:Nat}{x:Cb}(h:i<l.length):cbA (l.set i x) i=x:=by simp[cbA,List.getD,h]
theorem cbA_set_ne {l:List Cb}{i j:Nat}{x:Cb}(h:i≠j):cbA (l.set i x) j=cbA l j:=by simp[cbA,List.getD,jG h]
def z3n (ns:List Nd)(h:Nat):List (Int×List Nd):=(List.range (h+1)).flatMap fun(n:Nat)=>(z4t (z52 ns) (n:Int)).map fun c=>((n:Int),c)
def shA (S:List (Int×List Nd))(i:Nat):Int×List Nd:=S.getD i (0,[])
theorem shA_lt {S:List (Int×List Nd)}{i:Nat}(h:i<S.length):shA S i=S[i]:=by simp[shA,List.getD,h]
theorem mem_shpL {ns:List Nd}{h:Nat}{x:Int×List Nd}:x∈z3n ns h↔∃n:Nat,n<=h/\x.1=n/\x.2∈z4t (z52 ns) n:=by
 simp only[z3n,List.mem_flatMap,Qt,Qq]
 constructor
 ·rintro⟨n,hn,c,hc,rfl⟩;exact⟨n,by omega,rfl,hc⟩
 ·rintro⟨n,hn,h1,h2⟩;exact⟨n,by omega,x.2,h2,by rw[<-h1]⟩
theorem cls_disj {lv:Int}(h16:lv<=16)(l:List Nd):(z4t l lv).Pairwise fun c d=> ∀x∈c,x∉d:=by
 have h:=(clsN_ok h16 l).1
 have:∀c∈z4t l lv,∀x∈c,z49 x.word (hdN c).word lv=true:=fun c hc x hx=>by
  rw[h.eq c hc,grpW,Jg] at hx;exact hx.2
 refine List.Pairwise.imp_of_mem ?_ h.pw;intro c d hc hd hs x h1 h2;have:=sameW_trans (sameW_symm (this c hc x h1)) (this d hd x h2);rw[hs] at this;cases this
theorem shpL_pw (ns:List Nd):∀h:Nat,h<=16->(z3n ns h).Pairwise fun a b=>a.1=b.1->∀x∈a.2,x∉b.2:=fun h h16=>by
 unfold z3n;rw[List.pairwise_flatMap];refine⟨fun n hn=> ?_,?_⟩
 ·rw[Qt] at hn;rw[jF];refine(cls_disj (lv:=(n:Int)) (by omega) (z52 ns)).imp ?_;intro a b hh _;exact hh
 ·refine List.Pairwise.imp ?_ List.pairwise_lt_range;intro a b hab x hx y hy e;simp only[Qq] at hx hy;obtain⟨_,_,rfl⟩:=hx;obtain⟨_,_,rfl⟩:=hy;dsimp only at e;omega
structure LyOk (x:Ly) (s:Int×List Nd) (m:Nat):Prop where
 lvl:x.lvl=s.1
 ids:x.ids=s.2.map (·.id)
 len:x.cs.length=s.2.length+2
 key:∀k,k<s.2.length->(cl x.cs (k+2)).key=(nd s.2 k).key
 wd:x.wd=(hdN s.2).word
 pn:x.ps.length=m
structure Fsh (fo:Fo):Prop where
 ck:z1o fo.ns=0
 sm:fo.ns.length<=20
 h0:0<=fo.ht
 h16:fo.ht<=16
 m1:1<=fo.cb.length
 m8:fo.cb.length<=8
 len:fo.ly.length=(z3n fo.ns fo.ht.toNat).length
 at_:∀i,i<fo.ly.length->LyOk (lyA fo.ly i) (shA (z3n fo.ns fo.ht.toNat) i) fo.cb.length
def idI (ids:List Int)(v:Int):Int:=idxB ids.length fun q=>decide (nth ids q=v)
def plP (L:List Ly)(id lv:Int)(i:Nat):Bool:=(lyA L i).lvl==lv && decide (0<=idI (lyA L i).ids id)
def plI (L:List Ly)(id lv:Int):Int:=idxB L.length (plP L id lv)
def plK (L:List Ly)(id lv:Int):Int:=if plI L id lv<0 then 0 else idI (lyA L (plI L id lv).toNat).ids id+2
theorem idI_mem {ids:List Int}{v:Int}(h:0<=idI ids v):∃k,k<ids.length/\idI ids v=k/\nth ids k=v:=by
 rcases z3b ids.length fun q=>decide (nth ids q=v) with⟨h1,_⟩|⟨j,h1,h2,h3,_⟩
 ·unfold idI at h;omega
 ·exact⟨j,h2,h1,jt h3⟩
theorem idI_of {ids:List Int}{v:Int}{k:Nat}(h:k<ids.length)(e:nth ids k=v):0<=idI ids v:=by
 rcases z3b ids.length fun q=>decide (nth ids q=v) with⟨_,h2⟩|⟨j,h1,_⟩
 ·have:=h2 k h;rw[qg] at this;exact absurd e this
 ·unfold idI;omega
theorem idI_at {ids:List Int}{v:Int}{k:Nat}(hd:ids.Nodup)(h:k<ids.length)(e:nth ids k=v):idI ids v=k:=by
 obtain⟨j,h1,h2,h3⟩:=idI_mem (idI_of h e);rw[h2];rw[z2v h] at e;rw[z2v h1] at h3;have hp:=Qc.1 hd;rcases jf j k with g|g|g
 ·exact absurd (h3.trans e.symm) (hp j k h1 h g)
 ·omega
 ·exact absurd (e.trans h3.symm) (hp k j h h1 g)
section
variable {fo:Fo}
theorem Fsh.cls (h:Fsh fo){i:Nat}(hi:i<fo.ly.length):∃n:Nat,(n:Int)<=fo.ht/\(shA (z3n fo.ns fo.ht.toNat) i).1=n/\(shA (z3n fo.ns fo.ht.toNat) i).2∈z4t (z52 fo.ns) n:=by
 rw[shA_lt (by rw[<-h.len];exact hi)];obtain⟨n,h1,h2,h3⟩:=mem_shpL.1 (qM (l:=z3n fo.ns fo.ht.toNat) (n:=i) (by rw[<-h.len];exact hi));have:=h.h0;exact⟨n,by omega,h2,h3⟩
theorem cls_sub {lv:Int}(h16:lv<=16){l c:List Nd}(hc:c∈z4t l lv):c.Sublist l:=by
 rw[(clsN_ok h16 l).1.eq c hc];exact List.filter_sublist
theorem ids_inj {ns:List Nd}(hc:z1o ns=0){x y:Nd}(hx:x∈ns)(hy:y∈ns)(e:x.id=y.id):x=y:=by
 obtain⟨i,hi,rfl⟩:=Qe hx;obtain⟨j,hj,rfl⟩:=Qe hy;have hp:=((good_iff ns).1 hc).2.2;rcases jf i j with h|h|h
 ·exact absurd e (twinN_false (Qc.1 hp i j hi hj h)).1
 ·subst h;rfl
 ·exact absurd e.symm (twinN_false (Qc.1 hp j i hj hi h)).1
theorem ids_nodup {ns:List Nd}(hc:z1o ns=0):(ns.map (·.id)).Nodup:=by
 rw[j9,jF];exact((good_iff ns).1 hc).2.2.imp fun h=>(twinN_false h).1
theorem Fsh.sub (h:Fsh fo){i:Nat}(hi:i<fo.ly.length):(shA (z3n fo.ns fo.ht.toNat) i).2.Sublist (z52 fo.ns):=by
 obtain⟨n,h1,_,h3⟩:=h.cls hi;exact cls_sub (by have:=h.h16;omega) h3
theorem Fsh.mem (h:Fsh fo){i:Nat}(hi:i<fo.ly.length){x:Nd}(hx:x∈(shA (z3n fo.ns fo.ht.toNat) i).2):x∈fo.ns:=
 (z2f fo.ns).mem_iff.2 ((h.sub hi).subset hx)
theorem Fsh.idn (h:Fsh fo){i:Nat}(hi:i<fo.ly.length):(lyA fo.ly i).ids.Nodup:=by
 rw[(h.at_ i hi).ids];exact ids_nodup (good_sub (h.sub hi) (good_perm (z2f _) h.ck))
structure At (fo:Fo) (x:Nd) (lv:Int) (i k:Nat):Prop where
 hi:i<fo.ly.length
 hk:k<(lyA fo.ly i).ids.length
 lvl:(lyA fo.ly i).lvl=lv
 ide:nth (lyA fo.ly i).ids k=x.id
 nde:nd (shA (z3n fo.ns fo.ht.toNat) i).2 k=x
 cel:k+2<(lyA fo.ly i).cs.length
 key:(cl (lyA fo.ly i).cs (k+2)).key=x.key
 pI:plI fo.ly x.id lv=i
 pK:plK fo.ly x.id lv=k+2
 mm:x∈fo.ns
 l0:0<=lv
 lh:lv<=fo.ht
theorem Fsh.uniq (h:Fsh fo){i j:Nat}(hi:i<fo.ly.length)(hj:j<fo.ly.length){x:Nd}(h1:x∈(shA (z3n fo.ns fo.ht.toNat) i).2)(h2:x∈(shA (z3n fo.ns fo.ht.toNat) j).2)
  (he:(shA (z3n fo.ns fo.ht.toNat) i).1=(shA (z3n fo.ns fo.ht.toNat) j).1):i=j:=by
 have hp:=shpL_pw fo.ns fo.ht.toNat (by have:=h.h16;omega);have hi':i<(z3n fo.ns fo.ht.toNat).length:=by rw[<-h.len];exact hi
 have hj':j<(z3n fo.ns fo.ht.toNat).length:=by rw[<-h.len];exact hj
 rw[shA_lt hi'] at h1 he;rw[shA_lt hj'] at h2 he;rcases jf i j with g|g|g
 ·exact absurd h2 (Qc.1 hp i j hi' hj' g he x h1)
 ·exact g
 ·exact absurd h1 (Qc.1 hp j i hj' hi' g he.symm x h2)
theorem Fsh.mk_at (h:Fsh fo){i k:Nat}(hi:i<fo.ly.length)(hk:k<(lyA fo.ly i).ids.length):At fo (Go.Proofs.nd (shA (z3n fo.ns fo.ht.toNat) i).2 k) (lyA fo.ly i).lvl i k:=by
 have hA:=h.at_ i hi;obtain⟨n,n1,n2,n3⟩:=h.cls hi;have hk':k<(shA (z3n fo.ns fo.ht.toNat) i).2.length:=by rw[hA.ids,qB] at hk;exact hk
 have hx:Go.Proofs.nd (shA (z3n fo.ns fo.ht.toNat) i).2 k∈(shA (z3n fo.ns fo.ht.toNat) i).2:=nd_mem hk'
 have hid:nth (lyA fo.ly i).ids k=(Go.Proofs.nd (shA (z3n fo.ns fo.ht.toNat) i).2 k).id:=by
  rw[z2v hk,z51 hk'];simp only[hA.ids,j4]
 have hmem:=h.mem hi hx
 have hI:plI fo.ly (Go.Proofs.nd (shA (z3n fo.ns fo.ht.toNat) i).2 k).id (lyA fo.ly i).lvl=i:=by
  refine idxB_at ?_ hi fun q hq=> ?_
  ·rw[plP,qh,qy,qj];exact⟨rfl,idI_of hk hid⟩
  ·rw[plP,Bool.and_eq_false_iff]
   by_cases g:(lyA fo.ly q).lvl=(lyA fo.ly i).lvl
   ·right
    rw[qg];intro g2;obtain⟨j,j1,_,j3⟩:=idI_mem g2;have hqi:q<fo.ly.length:=by omega
    have hB:=h.at_ q hqi;have hj':j<(shA (z3n fo.ns fo.ht.toNat) q).2.length:=by rw[hB.ids,qB] at j1;exact j1
    have hy:Go.Proofs.nd (shA (z3n fo.ns fo.ht.toNat) q).2 j∈(shA (z3n fo.ns fo.ht.toNat) q).2:=nd_mem hj'
    have e1:(Go.Proofs.nd (shA (z3n fo.ns fo.ht.toNat) q).2 j).id=(Go.Proofs.nd (shA (z3n fo.ns fo.ht.toNat) i).2 k).id:=by
     rw[<-j3,z2v j1,z51 hj'];simp only[hB.ids,j4]
    have e2:=ids_inj h.ck (h.mem hqi hy) hmem e1;rw[e2] at hy;have:=h.uniq hqi hi hy hx (by rw[<-hB.lvl,<-hA.lvl];exact g);omega
   ·left;simpa using g
 refine⟨hi,hk,rfl,hid,rfl,by have:=hA.len;omega,hA.key k hk',hI,?_,hmem,by rw[hA.lvl,n2];omega,by rw[hA.lvl,n2];exact n1⟩;rw[plK,hI,qb (by omega),qE,idI_at (h.idn hi) hk hid]
theorem Fsh.place (h:Fsh fo){x:Nd}(hx:x∈fo.ns){lv:Int}(l0:0<=lv)(lh:lv<=fo.ht):∃i k,At fo x lv i k:=by
 have h16:=h.h16;obtain⟨c,hc,hxc⟩:=(clsN_ok (lv:=lv) (by omega) (z52 fo.ns)).2 x ((z2f fo.ns).mem_iff.1 hx);have hm:(lv,c)∈z3n fo.ns fo.ht.toNat:=mem_shpL.2 ⟨lv.toNat,by omega,by dsimp only;omega,by dsimp only;rw[show((lv.toNat:Nat):Int)=lv by omega];exact hc⟩;obtain⟨i,hi,hie⟩:=Qe hm;have hi':i<fo.ly.length:=by rw[h.len];exact hi
 obtain⟨k,hk,hke⟩:=Qe hxc;have hs:shA (z3n fo.ns fo.ht.toNat) i=(lv,c):=by rw[shA_lt hi,hie]
 have hA:=h.at_ i hi';have hk':k<(lyA fo.ly i).ids.length:=by rw[hA.ids,hs,qB];exact hk
 have:=h.mk_at hi' hk';rw[hA.lvl,hs] at this;rw[show Go.Proofs.nd c k=x by rw[z51 hk,hke]] at this;exact⟨i,k,this⟩
theorem At.inj (h:Fsh fo){x y:Nd}{lv lw:Int}{i k:Nat}(a:At fo x lv i k)(b:At fo y lw i k):x=y/\lv=lw:=⟨a.nde.symm.trans b.nde,a.lvl.symm.trans b.lvl⟩
end
end
end Go.Proofs
namespace Go.Sk
open Go.RowKit
section
def mvM (ρ:Nat->Nat)(f:Nat)(ms:Nat->Option Nat):Pn:=fun id k=>if id=f then(match ms k with|some a=>(a,0)|none=>(ρ id,k)) else(ρ id,k)
def z1b (π:Pn)(m:Nat)(os:List (Nat×Nat×(Nat->Obj))):List (Nat×Nat×(Nat->Obj))->Prop
 |[]=>True
 |(id,c',F')::l=>(∀k,k<c'->F' k≠ .gone->∃o,look os (π id k).1 (π id k).2=some o/\zr π o (F' k)/\(F' k).lt m)/\id<m/\z1b π m os l
theorem z1b.get {π:Pn}{m:Nat}{os:List (Nat×Nat×(Nat->Obj))}:∀{os':List (Nat×Nat×(Nat->Obj))},z1b π m os os'->∀id c' F',(id,c',F')∈os'->∀k,k<c'->F' k≠ .gone->
  id<m/\(F' k).lt m/\∃o,look os (π id k).1 (π id k).2=some o/\zr π o (F' k)
 |[],_,_,_,_,hm=>by cases hm
 |(i,c1,F1)::l,h,id,c',F',hm=>by
  obtain⟨h1,h2,h3⟩:=h
  cases hm with
  |head=>
   intro k hk hg;obtain⟨o,q1,q2,q3⟩:=h1 k hk hg;exact⟨h2,q3,o,q1,q2⟩
  |tail _ hm=>exact z1b.get h3 id c' F' hm
structure MsOk (X:Cx) (ρ:Nat->Nat) (ms:Nat->Option Nat) (os':List (Nat×Nat×(Nat->Obj))):Prop where
 inj:∀k k' a,ms k=some a->ms k'=some a->k=k'
 out:∀k a,ms k=some a->(os'.all fun x=> !(ρ x.1==a))=true/\X.m0<=a
theorem z54.mkM {X:Cx}{fr:Fr}{H:AH}{fr':Fr}{H':AH}(ρ:Nat->Nat)(f:Nat)(ms:Nat->Option Nat)(hs:MsOk X ρ ms H'.os)(h1:frGivesP (mvM ρ f ms) H'.nxt fr fr')(h2:z1b (mvM ρ f ms) H'.nxt H.os H'.os)(h3:injB ρ H'.os=true)(h3u:ownU H'.os)
  (h4:(List.range X.m0).all (fun id=>ρ id==id)=true)
  (h5:X.m0<=H'.nxt) (h5f:X.m0<=f) (h6:∀x∈H.os,x.1<X.m0->∀k,(x.2.2 k).own=(x.2.2 0).own) (h7:keepB X.m0 H.os H'.os) (h8:bigB X.m0 ρ H'.os=true):z54 X (mvM ρ f ms) fr H fr' H' where
 fr:=frGivesP_ok h1
 os id k o' hl:=by
  have hg:=z3f hl;obtain⟨c,F,hf,hk,rfl⟩:=z1g hl;exact h2.get _ _ _ (z1j hf) k hk hg
 inj id k o id' k' o' hl hl' ho he:=by
  have hna:∀{id k:Nat} {o:Obj} {j a:Nat},look H'.os id k=some o->ms j=some a->ρ id≠a:=fun {id k o j a} h g e=>by
   obtain⟨c,F,hf,hk,rfl⟩:=z1g h;have:=qt.1 (hs.out j a g).1 _ (z1j hf);simp[e] at this
  have hij:InjOn ρ H'.os:= .of h3 h3u
  have hv:∀i j,mvM ρ f ms i j=(ρ i,j)\/∃a,i=f/\ms j=some a/\mvM ρ f ms i j=(a,0):=fun i j=>by
   unfold mvM
   split
   ·rename_i e
    cases g:ms j with
    |none=>exact .inl rfl
    |some a=>exact .inr ⟨a,e,rfl,rfl⟩
   ·exact .inl rfl
  rcases hv id k with e1|⟨a,g1,g2,e1⟩<;>rcases hv id' k' with e2|⟨b,g3,g4,e2⟩<;>rw[e1,e2] at he<;>simp only[jk] at he
  ·exact⟨hij _ _ _ _ _ _ hl hl' ho he.1,he.2⟩
  ·exact absurd he.1 (hna hl g4)
  ·exact absurd he.1.symm (hna hl' g2)
  ·have:=he.1;subst this;exact⟨g1.trans g3.symm,hs.inj k k' _ g2 g4⟩
 fix id k hid:=by
  have:=qt.1 h4 id (Qt.2 hid);unfold mvM;rw[qb (by omega)];rw[qy] at this;rw[this]
 m0:=h5
 keep id k hid ho:=by
  obtain⟨o,ho1,ho2⟩:=ho;obtain⟨c,F,hf,hk,rfl⟩:=z1g ho1;have:=h7 _ (z1j hf) hid (by have:=h6 _ (z1j hf) hid k;simp only at this;rw[<-this];exact ho2);simp only at this
  split at this
  ·rename_i c' F' hf';exact⟨F' k,(zy hf' (by omega)).trans (Obj.opt_of fun e=>by have:=this.2 k;rw[e] at this;cases this),this.2 k⟩
  ·exact this.elim
 big id k o h0 hl ho:=by
  obtain⟨c,F,hf,hk,rfl⟩:=z1g hl;have h9:=qt.1 h8 _ (z1j hf);have h10:=h3u _ (z1j hf) k;simp only[qr,qj,qk] at h9;simp only at h10;rw[<-h10,ho] at h9
  have h11:X.m0<=ρ id:=by
   rcases h9 with(h9|h9)|h9
   ·omega
   ·exact h9
   ·cases h9
  unfold mvM
  split
  ·cases g:ms k with
   |none=>exact h11
   |some a=>exact(hs.out k a g).2
  ·exact h11
theorem z10 {ρ:Nat->Nat}{f:Nat}{ms:Nat->Option Nat}{m:Nat}{os l:List (Nat×Nat×(Nat->Obj))}{id c:Nat}{F:Nat->Obj}{o':Obj}(hid:id≠f)(hf:find os (ρ id)=some (c,F))(hc:0<c)(h:zr (mvM ρ f ms) (F 0) o')(hl:o'.lt m)(hm:id<m)(ht:z1b (mvM ρ f ms) m os l):z1b (mvM ρ f ms) m os ((id,uQ o')::l):=by
 refine⟨fun k hk _=> ?_,hm,ht⟩
 have hk0:k=0:=by
  have:k<1:=hk;omega
 subst hk0;have e:mvM ρ f ms id 0=(ρ id,0):=qb hid;rw[e];exact⟨F 0,(zy hf hc).trans (Obj.opt_of (z27 h)),h,hl⟩
theorem z1b.consF {ρ:Nat->Nat}{f:Nat}{ms:Nat->Option Nat}{m:Nat}{os l:List (Nat×Nat×(Nat->Obj))}{c c':Nat}{o o':Bool}{e e':TypeId}{sz sz':Nat}{G G':Nat->Obj}(hf:find os (ρ f)=some (c,fam o e sz G))(h0:0<c)(h1:(o'=true->o=true/\e'=e)/\sz'=sz)(hz:ms 0=none)
  (h:∀i,i+1<c'->match ms (i+1) with
   |some a=> ∃ca Fa,find os a=some (ca,Fa)/\0<ca/\zr (mvM ρ f ms) (Fa 0) (G' i)/\(G' i).lt m
   |none=>i+1<c/\zr (mvM ρ f ms) (G i) (G' i)/\(G' i).lt m) (hm:f<m) (ht:z1b (mvM ρ f ms) m os l):z1b (mvM ρ f ms) m os ((f,(c',fam o' e' sz' G'))::l):=by
 refine⟨fun k hk _=> ?_,hm,ht⟩
 cases k with
 |zero=>
  have e9:mvM ρ f ms f 0=(ρ f,0):=by unfold mvM;rw[qf rfl,hz]
  rw[e9]
  have q:zr (mvM ρ f ms) (fam o e sz G 0) (fam o' e' sz' G' 0):=by
   simp only[fam,zr,zq];exact⟨h1.1,h1.2,qd _,fun i hi=>absurd hi (qI _)⟩
  exact⟨_,(zy hf h0).trans (Obj.opt_of (z27 q)),q,fun i j s hi _=>absurd hi (qI _)⟩
 |succ i=>
  have:=h i hk
  cases g:ms (i+1) with
  |some a=>
   rw[g] at this;obtain⟨ca,Fa,q1,q2,q3,q4⟩:=this;have e:mvM ρ f ms f (i+1)=(a,0):=by unfold mvM;rw[qf rfl,g]
   rw[e];exact⟨Fa 0,(zy q1 q2).trans (Obj.opt_of (z27 q3)),q3,q4⟩
  |none=>
   rw[g] at this;obtain⟨q1,q2,q3⟩:=this;have e:mvM ρ f ms f (i+1)=(ρ f,i+1):=by unfold mvM;rw[qf rfl,g]
   rw[e];exact⟨G i,(zy hf q1).trans (Obj.opt_of (z27 q2)),q2,q3⟩
theorem z1b.consO {ρ:Nat->Nat}{f:Nat}{ms:Nat->Option Nat}{m:Nat}{os l:List (Nat×Nat×(Nat->Obj))}{id c c':Nat}{o o':Bool}{e e':TypeId}{sz sz':Nat}{G G':Nat->Obj}(hid:id≠f)(hf:find os (ρ id)=some (c,fam o e sz G))
  (h1:(o'=true->o=true/\e'=e)/\sz'=sz) (h0:0<c) (hc:c'<=c) (h:∀i,i+1<c'->zr (mvM ρ f ms) (G i) (G' i)/\(G' i).lt m) (hm:id<m) (ht:z1b (mvM ρ f ms) m os l):z1b (mvM ρ f ms) m os ((id,(c',fam o' e' sz' G'))::l):=by
 refine⟨fun k hk _=> ?_,hm,ht⟩;have e0:mvM ρ f ms id k=(ρ id,k):=qb hid;rw[e0]
 cases k with
 |zero=>
  have q:zr (mvM ρ f ms) (fam o e sz G 0) (fam o' e' sz' G' 0):=by
   simp only[fam,zr,zq];exact⟨h1.1,h1.2,qd _,fun i hi=>absurd hi (qI _)⟩
  exact⟨_,(zy hf h0).trans (Obj.opt_of (z27 q)),q,fun i j s hi _=>absurd hi (qI _)⟩
 |succ i=>
  obtain⟨q1,q2⟩:=h i hk;exact⟨G i,(zy hf (by omega)).trans (Obj.opt_of (z27 q1)),q1,q2⟩
structure GmR (X:Cx) (ρ:Nat->Nat) (f:Nat) (H1:AH):Prop where
 a3:injB ρ H1.os=true
 a5:(List.range X.m0).all (fun id=>ρ id==id)=true
 a6:X.m0<=H1.nxt
 a6f:X.m0<=f
 a9:bigB X.m0 ρ H1.os=true
theorem gmS {X:Cx}{fr:Fr}{H:AH}{fr1:Fr}{H1:AH}(ρ:Nat->Nat)(f:Nat)(ms:Nat->Option Nat)(hs:MsOk X ρ ms H1.os)(a2:z1b (mvM ρ f ms) H1.nxt H.os H1.os)(q:GpQ X (mvM ρ f ms) fr H fr1 H1)(r:GmR X ρ f H1):z54 X (mvM ρ f ms) fr H fr1 H1:=
 z54.mkM ρ f ms hs q.a1 a2 r.a3 q.a4 r.a5 r.a6 r.a6f q.a7 q.a8 r.a9
def ms3 (j a b c:Nat):Nat->Option Nat:=fun k=>if k=3*j+1 then some a else if k=3*j+2 then some b else if k=3*j+3 then some c else none
def ms2 (j b c:Nat):Nat->Option Nat:=fun k=>if k=3*j+2 then some b else if k=3*j+3 then some c else none
theorem ms3_ok {X:Cx}{ρ:Nat->Nat}{os:List (Nat×Nat×(Nat->Obj))}(j:Nat){a b c:Nat}(h:a≠b/\a≠c/\b≠c)(ho:(os.all fun x=> !(ρ x.1==a))=true/\(os.all fun x=> !(ρ x.1==b))=true/\(os.all fun x=> !(ρ x.1==c))=true)(hm:X.m0<=a/\X.m0<=b/\X.m0<=c):MsOk X ρ (ms3 j a b c) os:=by
 refine⟨fun k k' z h1 h2=> ?_,fun k z h1=> ?_⟩
 ·unfold ms3 at h1 h2
  (repeat' split at h1)<;>(repeat' split at h2)<;>first|omega|(simp only[Qs,reduceCtorEq] at h1 h2<;>omega)
 ·unfold ms3 at h1
  (repeat' split at h1)<;>simp only[Qs,reduceCtorEq] at h1<;>subst h1
  ·exact⟨ho.1,hm.1⟩
  ·exact⟨ho.2.1,hm.2.1⟩
  ·exact⟨ho.2.2,hm.2.2⟩
theorem ms2_ok {X:Cx}{ρ:Nat->Nat}{os:List (Nat×Nat×(Nat->Obj))}(j:Nat){b c:Nat}(h:b≠c)(ho:(os.all fun x=> !(ρ x.1==b))=true/\(os.all fun x=> !(ρ x.1==c))=true)(hm:X.m0<=b/\X.m0<=c):MsOk X ρ (ms2 j b c) os:=by
 refine⟨fun k k' z h1 h2=> ?_,fun k z h1=> ?_⟩
 ·unfold ms2 at h1 h2
  (repeat' split at h1)<;>(repeat' split at h2)<;>first|omega|(simp only[Qs,reduceCtorEq] at h1 h2<;>omega)
 ·unfold ms2 at h1
  (repeat' split at h1)<;>simp only[Qs,reduceCtorEq] at h1<;>subst h1
  ·exact⟨ho.1,hm.1⟩
  ·exact⟨ho.2,hm.2⟩
end
section
def HGivesJ (π:Pn)(m:Nat)(os:List (Nat×Nat×(Nat->Obj))):List (Nat×Nat×(Nat->Obj))->Prop
 |[]=>True
 |(id,c',F')::l=>(∀k,k<c'->∃c F,find os (π id k).1=some (c,F)/\(π id k).2<c/\zr π (F (π id k).2) (F' k)/\(F' k).lt m)/\id<m/\HGivesJ π m os l
theorem HGivesJ.get {π:Pn}{m:Nat}{os:List (Nat×Nat×(Nat->Obj))}:∀{os':List (Nat×Nat×(Nat->Obj))},HGivesJ π m os os'->∀id c' F',(id,c',F')∈os'->∀k,k<c'->
  id<m/\(F' k).lt m/\∃o,look os (π id k).1 (π id k).2=some o/\zr π o (F' k)
 |[],_,_,_,_,hm=>by cases hm
 |(i,c1,F1)::l,h,id,c',F',hm=>by
  obtain⟨h1,h2,h3⟩:=h
  cases hm with
  |head=>
   intro k hk;obtain⟨c,F,q0,q1,q2,q3⟩:=h1 k hk;exact⟨h2,q3,_,(zy q0 q1).trans (Obj.opt_of (z27 q2)),q2⟩
  |tail _ hm=>exact HGivesJ.get h3 id c' F' hm
end
section
def anP (ρ:Nat->Nat)(f:Nat)(μ:Nat->Nat×Nat):Pn:=fun id k=>if id=f/\0<k then μ k else(ρ id,k)
theorem z2u {ρ:Nat->Nat}{f m:Nat}{μ:Nat->Nat×Nat}{os l:List (Nat×Nat×(Nat->Obj))}{id c:Nat}{F:Nat->Obj}{o':Obj}(hf:find os (ρ id)=some (c,F))(hc:0<c)(h:zr (anP ρ f μ) (F 0) o')(hl:o'.lt m)(hm:id<m)(ht:HGivesJ (anP ρ f μ) m os l):HGivesJ (anP ρ f μ) m os ((id,uQ o')::l):=by
 refine⟨fun k hk=> ?_,hm,ht⟩
 have hk0:k=0:=by
  have:k<1:=hk;omega
 subst hk0;have e:anP ρ f μ id 0=(ρ id,0):=by rw[anP,qb (by omega)]
 rw[e];exact⟨c,F,hf,hc,h,hl⟩
section
variable {X:Cx} {Q:Exit->Fr->AH->Prop} {fr:Fr} {H:AH} {l:List Code}
theorem wkL_len:∀{a b:List SV},SV.wkL a b->a.length=b.length
 |[],[],_=>rfl
 |_::a,_::b,h=>by simp[wkL_len h.2]
 |[],_::_,h=>h.elim
 |_::_,[],h=>h.elim
theorem wkL_get9:∀{a b:List SV},SV.wkL a b->∀(j:Nat) (s:SV),b[j]? =some s->∃s0,a[j]? =some s0/\SV.wk s0 s
 |[],[],_,j,s,h=>by simp at h
 |x::a,y::b,h,j,s,hj=>by
  cases j with
  |zero=>simp at hj;subst hj;exact⟨x,by simp,h.1⟩
  |succ j=>simp at hj;simpa using wkL_get9 h.2 j s hj
 |[],_::_,h,_,_,_=>h.elim
 |_::_,[],h,_,_,_=>h.elim
end
end
section
def rowWk (m:Nat):Obj->Obj->Prop
 |.row a,.row b=>a.own=false/\b.own=false/\b.sz=a.sz/\b.n<=a.n/\∀i,i<b.n->SV.wkL (a.f i) (b.f i)/\(∀s∈b.f i,s.scalar=true)/\SV.ltL m (b.f i)
 |_,_=>False
def oWk (m:Nat)(a b:Obj):Prop:=a=b\/rowWk m a b
theorem rowWk_own {m:Nat}{a b:Obj}(h:rowWk m a b):a.own=false/\b.own=false:=by
 cases a<;>cases b<;>simp only[rowWk] at h
 exact⟨h.1,h.2.1⟩
theorem oWk_own {m:Nat}{a b:Obj}(h:oWk m a b):a.own=b.own/\(b.own=true->a=b):=by
 rcases h with rfl|h
 ·exact⟨rfl,fun _=>rfl⟩
 ·obtain⟨h1,h2⟩:=rowWk_own h;exact⟨h1.trans h2.symm,fun e=>by rw[h2] at e;cases e⟩
theorem oWk_gone {m:Nat}{a b:Obj}(h:oWk m a b):a= .gone↔b= .gone:=by
 rcases h with rfl|h
 ·exact QF
 ·cases a<;>cases b<;>simp only[rowWk] at h
  exact⟨fun e=>(by cases e),fun e=>(by cases e)⟩
theorem oWk_holds {m:Nat}{a b:Obj}(h:oWk m a b){β:Env}{w:World}{q:Option Loc}(hh:a.holds β w q):b.holds β w q:=by
 rcases h with rfl|h
 ·exact hh
 ·cases a<;>cases b<;>simp only[rowWk] at h
  rename_i x y;obtain⟨_,h2,h3,h4,h5⟩:=h;rcases hh with⟨g1,g2⟩|⟨L,g0,g1,g2,g3,_⟩
  ·exact .inl ⟨by omega,g2⟩
  ·refine .inr ⟨L,g0,by rw[g1,h3],g2,fun i hi=> ?_,fun e=>by rw[h2] at e;cases e⟩;obtain⟨q1,q2⟩:=g3 i (by omega);obtain⟨e1,e2,_⟩:=h5 i hi;refine⟨by rw[<-wkL_len e1,q1,h3],fun j s hs=> ?_⟩;obtain⟨s0,hs0,hw⟩:=wkL_get9 e1 j s hs;obtain⟨_,v,c2,c3⟩:=q2 j s0 hs0;exact⟨e2 s (qS hs),v,c2,SV.wk_den hw c3⟩
theorem ltL_get9 {m:Nat}:∀{l:List SV},SV.ltL m l->∀(j:Nat) (s:SV),l[j]? =some s->s.lt m
 |[],_,j,s,h=>by simp at h
 |a::l,hl,j,s,h=>by
  cases j with
  |zero=>simp at h;subst h;exact hl.1
  |succ j=>simp at h;exact ltL_get9 hl.2 j s h
theorem oWk_lt {m:Nat}{a b:Obj}(h:oWk m a b)(hh:a.lt m):b.lt m:=by
 rcases h with rfl|h
 ·exact hh
 ·cases a<;>cases b<;>simp only[rowWk] at h
  exact fun i j s hi hs=>ltL_get9 (h.2.2.2.2 i hi).2.2 j s hs
def HWk (m:Nat):List (Nat×Nat×(Nat->Obj))->List (Nat×Nat×(Nat->Obj))->Prop
 |[],[]=>True
 |(i1,c1,F1)::l1,(i0,c0,F0)::l0=>(i1=i0/\c1=c0/\∀k,oWk m (F1 k) (F0 k))/\HWk m l1 l0
 |_,_=>False
theorem HWk.find {m:Nat}:∀{os1 os0:List (Nat×Nat×(Nat->Obj))},HWk m os1 os0->∀id,(Sk.find os1 id=none/\Sk.find os0 id=none)\/∃c F1 F0,Sk.find os1 id=some (c,F1)/\Sk.find os0 id=some (c,F0)/\∀k,oWk m (F1 k) (F0 k)
 |[],[],_,_=> .inl ⟨rfl,rfl⟩
 |(i1,c1,F1)::l1,(i0,c0,F0)::l0,hh,id=>by
  obtain⟨⟨rfl,rfl,h2⟩,h3⟩:=hh;simp only[Sk.find]
  by_cases e:i1=id
  ·rw[qf e,qf e];exact .inr ⟨c1,F1,F0,rfl,rfl,h2⟩
  ·rw[qb e,qb e];exact HWk.find h3 id
 |[],_::_,hh,_=>hh.elim
 |_::_,[],hh,_=>hh.elim
theorem HWk.look {m:Nat}{os1 os0:List (Nat×Nat×(Nat->Obj))}(h:HWk m os1 os0)(id k:Nat):(Sk.look os1 id k=none/\Sk.look os0 id k=none)\/∃o1 o0,Sk.look os1 id k=some o1/\Sk.look os0 id k=some o0/\oWk m o1 o0:=by
 have no:∀{os:List (Nat×Nat×(Nat->Obj))} {id k:Nat},(∀c F,Sk.find os id=some (c,F)->k<c->F k= .gone)->Sk.look os id k=none:=fun {os id k} g=>by
  cases hl:Sk.look os id k with
  |none=>rfl
  |some o=>
   obtain⟨c,F,hf,hk,rfl⟩:=z1g hl;exact absurd (g c F hf hk) (z3f hl)
 rcases h.find id with⟨h1,h2⟩|⟨c,F1,F0,h1,h2,h3⟩
 ·exact .inl ⟨no fun c F hf=>(by rw[h1] at hf;cases hf),no fun c F hf=>(by rw[h2] at hf;cases hf)⟩
 ·by_cases hk:k<c
  ·by_cases hg:F0 k= .gone
   ·have hg1:=(oWk_gone (h3 k)).2 hg;exact .inl ⟨no fun c' F hf _=>(by rw[h1] at hf;cases hf;exact hg1),no fun c' F hf _=>(by rw[h2] at hf;cases hf;exact hg)⟩
   ·refine .inr ⟨F1 k,F0 k,(zy h1 hk).trans (Obj.opt_of fun e=>hg ((oWk_gone (h3 k)).1 e)),(zy h2 hk).trans (Obj.opt_of hg),h3 k⟩
  ·exact .inl ⟨no fun c' F hf hk'=>(by rw[h1] at hf;cases hf;exact absurd hk' hk),no fun c' F hf hk'=>(by rw[h2] at hf;cases hf;exact absurd hk' hk)⟩
theorem HWk.own {m:Nat}{os1 os0:List (Nat×Nat×(Nat->Obj))}(h:HWk m os1 os0){id k:Nat}{o:Obj}(ho:o.own=true):Sk.look os1 id k=some o↔Sk.look os0 id k=some o:=by
 rcases h.look id k with⟨h1,h2⟩|⟨o1,o0,h1,h2,h3⟩
 ·rw[h1,h2]
 ·rw[h1,h2];obtain⟨g1,g2⟩:=oWk_own h3
  constructor
  ·intro e;cases e;rw[g2 (g1.symm.trans ho)]
  ·intro e;cases e;rw[g2 ho]
theorem HWk.mem {m:Nat}:∀{os1 os0:List (Nat×Nat×(Nat->Obj))},HWk m os1 os0->∀y∈os0,(y.2.2 0).own=true->(∀k,(y.2.2 k).own=(y.2.2 0).own)->y∈os1
 |[],[],_,y,h,_,_=>h
 |(i1,c1,F1)::l1,(i0,c0,F0)::l0,hh,y,h,ho,hu=>by
  obtain⟨⟨rfl,rfl,h2⟩,h3⟩:=hh
  cases h with
  |head=>
   have:F1=F0:=funext fun k=>(oWk_own (h2 k)).2 (by have:=hu k;simp only at this ho;rw[this,ho]);rw[this];exact qm ..
  |tail _ h=>exact qo _ (HWk.mem h3 y h ho hu)
 |[],_::_,hh,_,_,_,_=>hh.elim
 |_::_,[],hh,_,_,_,_=>hh.elim
theorem zf.less {P:Program}{f:FuncId}{args:List SV}{H0:AH}{R:SV->AH->Prop}(hF:zf P f args H0 R){os1:List (Nat×Nat×(Nat->Obj))}(hos:HWk H0.nxt os1 H0.os)(hu:ownU H0.os):zf P f args ⟨H0.nxt,os1⟩ R:=by
 intro X β w vs hP hm0 hw hβ ho hS hd hlt
 have hS':St X β H0 w:=by
  refine⟨hS.os,hS.tape,hS.output,hS.size,hS.fix,fun id k o0 h=> ?_,fun id k id' k' o0 o' L L' h h' how hb hb' he=> ?_,fun b hb hn=> ?_,fun id k o0 L h how hb=> ?_,fun id k hb=> ?_,hS.m0,fun id k o0 h=> ?_,hS.tabs,hS.drawn⟩
  ·rcases hos.look id k with⟨_,h2⟩|⟨o1,o0',h1,h2,h3⟩
   ·rw[h2] at h;cases h
   ·rw[h2] at h;cases h
    exact oWk_holds h3 (hS.holds _ _ _ h1)
  ·rcases hos.look id' k' with⟨_,h2⟩|⟨o1,o0',h1,h2,h3⟩
   ·rw[h2] at h';cases h'
   ·exact hS.sep _ _ _ _ _ _ _ _ ((hos.own how).2 h) h1 how hb hb' he
  ·exact hS.old b hb fun id k o0 L h how hbb=>hn id k o0 L ((hos.own how).1 h) how hbb
  ·exact hS.mine _ _ _ _ ((hos.own how).2 h) how hb
  ·obtain⟨h1,o,h2,h3⟩:=hS.keep id k hb;exact⟨h1,o,(hos.own h3).1 h2,h3⟩
  ·rcases hos.look id k with⟨_,h2⟩|⟨o1,o0',h1,h2,h3⟩
   ·rw[h2] at h;cases h
   ·rw[h2] at h;cases h
    obtain⟨g1,g2⟩:=hS.lt _ _ _ h1;exact⟨g1,oWk_lt h3 g2⟩
 have ho':X.own0=fun id k=> ∃o,Sk.look H0.os id k=some o/\o.own=true:=by
  rw[ho]
  funext id k
  apply propext
  constructor
  ·rintro⟨o,h1,h2⟩;exact⟨o,(hos.own h2).1 h1,h2⟩
  ·rintro⟨o,h1,h2⟩;exact⟨o,(hos.own h2).2 h1,h2⟩
 refine(hF X β w vs hP hm0 hw hβ ho' hS' hd hlt).mono ?_;rintro e w' ⟨v,rfl,β',s,H',hR,hown,h2,h3,h4⟩;refine⟨v,rfl,β',s,H',hR,fun x hx=> ?_,h2,h3,h4⟩;obtain⟨h1,h5⟩:=hown x hx;refine⟨h1,?_⟩;rcases h5 with h5|⟨y,hy,e1,e2,e3⟩
 ·exact .inl h5
 ·exact .inr ⟨y,hos.mem y hy e3 (hu y hy),e1,e2,e3⟩
end
section
def z2q.renP (π:Pn):z2q->z2q
 |.ints n h g z=> .ints n h (fun a=>(g a).renP π) (z.renP π)
 |.prs n h g z=> .prs n h (fun a b=>(g a b).renP π) (z.renP π)
theorem z2q.renP_n (π:Pn)(M:z2q):(M.renP π).n=M.n:=by cases M<;>rfl
theorem z2q.renP_has (π:Pn)(M:z2q)(v:Value):(M.renP π).has v=M.has v:=by cases M<;>rfl
theorem z2q.renP_z (π:Pn)(M:z2q):(M.renP π).z=M.z.renP π:=by cases M<;>rfl
theorem z2q.renP_val (π:Pn)(M:z2q)(v:Value):(M.renP π).val v=(M.val v).renP π:=by
 cases M<;>simp only[z2q.renP,z2q.val]<;>split<;>rfl
def Obj.renP (π:Pn):Obj->Obj
 |.row r=> .row {r with f:=fun i=>SV.renPL π (r.f i)}
 |.mapo o M=> .mapo o (M.renP π)
 |o=>o
theorem Obj.renP_own (π:Pn)(o:Obj):(o.renP π).own=o.own:=by cases o<;>rfl
theorem Obj.renP_gone {π:Pn}{o:Obj}(h:o.renP π≠ .gone):o≠ .gone:=by
 cases o<;>simp[Obj.renP] at h ⊢
theorem Obj.renP_holds {π:Pn}{o:Obj}{β:Env}{w:World}{q:Option Loc}(h:o.holds (β.viaP π) w q):(o.renP π).holds β w q:=by
 cases o with
 |row r=>
  rcases h with h|⟨L,hq,h1,h2,h3,h4⟩
  ·exact .inl h
  ·refine .inr ⟨L,hq,h1,h2,fun i hi=> ?_,h4⟩;obtain⟨q1,q2⟩:=h3 i hi;refine⟨by show(SV.renPL π (r.f i)).length=_;rw[renPL_eq,qB];exact q1,fun j s hs=> ?_⟩;have hs':(SV.renPL π (r.f i))[j]? =some s:=hs;rw[renPL_eq,qP,qZ] at hs';obtain⟨s0,hs0,rfl⟩:=hs';obtain⟨a,v,b,c⟩:=q2 j s0 hs0;exact⟨by rw[scalar_renP];exact a,v,b,(z3p s0 v).2 c⟩
 |blk _ p=>exact h
 |gone=>trivial
 |mapo _ M=>
  obtain⟨L,b,hq,hb,es,clk,e1,e2,e6,e3,e4,e5⟩:=h;refine⟨L,b,hq,hb,es,clk,e1,e2.trans (M.renP_n π).symm,e6,fun k=>by rw[M.renP_has];exact e3 k,fun e he=>by rw[M.renP_val];exact(z3p _ _).2 (e4 e he),fun k hk v hv=> ?_⟩;rw[M.renP_has] at hk;rw[M.renP_z] at hv;rw[M.renP_val];exact(z3p _ _).2 (e5 k hk v ((z3p _ _).1 hv))
mutual
theorem lt_renP {π:Pn}{m m':Nat}(h:∀id k,id<m->(π id k).1<m'):∀(s:SV),s.lt m->(s.renP π).lt m'
 |.int ..,_=>trivial
 |.bool _,_=>trivial
 |.str _,_=>trivial
 |.nilp,_=>trivial
 |.nils,_=>trivial
 |.nilfn,_=>trivial
 |.raw _,_=>trivial
 |.ptr ..,hl=>h _ _ hl
 |.slc ..,hl=>h _ _ hl
 |.mp ..,hl=>h _ _ hl
 |.fn _ l,hl=>ltL_renP h l hl
 |.agg l,hl=>ltL_renP h l hl
 |.tup l,hl=>ltL_renP h l hl
 |.gd _ s,hl=>fun hg=>lt_renP h s (hl hg)
 |.ifc _ s,hl=>lt_renP h s hl
theorem ltL_renP {π:Pn}{m m':Nat}(h:∀id k,id<m->(π id k).1<m'):∀(l:List SV),SV.ltL m l->SV.ltL m' (SV.renPL π l)
 |[],_=>trivial
 |s::l,hl=>⟨lt_renP h s hl.1,ltL_renP h l hl.2⟩
end
theorem Obj.renP_lt {π:Pn}{m m':Nat}(h:∀id k,id<m->(π id k).1<m'){o:Obj}(hl:o.lt m):(o.renP π).lt m':=by
 cases o with
 |row r=>
  intro i j s hi hs;have hs':(SV.renPL π (r.f i))[j]? =some s:=hs;rw[renPL_eq,qP,qZ] at hs';obtain⟨s0,hs0,rfl⟩:=hs';exact lt_renP h s0 (hl i j s0 hi hs0)
 |blk _ _=>trivial
 |gone=>trivial
 |mapo _ M=>exact⟨by rw[M.renP_z];exact lt_renP h _ hl.1,fun v=>by rw[M.renP_val];exact lt_renP h _ (hl.2 v)⟩
def memP (π:Pn)(m:Nat):Pn:=fun id k=>if id<m then π id k else(id,k)
def renPOs (π:Pn)(os:List (Nat×Nat×(Nat->Obj))):List (Nat×Nat×(Nat->Obj)):=os.map fun x=>(x.1,x.2.1,fun k=>(x.2.2 k).renP π)
theorem find_renPOs {π:Pn}:∀(os:List (Nat×Nat×(Nat->Obj))) (id:Nat),find (renPOs π os) id=(find os id).map fun x=>(x.1,fun k=>(x.2 k).renP π)
 |[],_=>rfl
 |(i,c,F)::os,id=>by
  simp only[renPOs,q7,find]
  split
  ·rfl
  ·exact find_renPOs os id
theorem look_renPOs {π:Pn}{os:List (Nat×Nat×(Nat->Obj))}{id k:Nat}{o:Obj}(h:look (renPOs π os) id k=some o):∃o0,look os id k=some o0/\o=o0.renP π:=by
 have hg:=z3f h;obtain⟨c,F,hf,hk,rfl⟩:=z1g h;rw[find_renPOs,qZ] at hf;obtain⟨⟨c0,F0⟩,hf0,he⟩:=hf
 cases he
 exact⟨F0 k,(zy hf0 hk).trans (Obj.opt_of (Obj.renP_gone hg)),rfl⟩
theorem look_renPOs' {π:Pn}{os:List (Nat×Nat×(Nat->Obj))}{id k:Nat}{o0:Obj}(h:look os id k=some o0):look (renPOs π os) id k=some (o0.renP π):=by
 have hg:=z3f h;obtain⟨c,F,hf,hk,rfl⟩:=z1g h;refine(zy (F:=fun k=>(F k).renP π) (by rw[find_renPOs,hf];rfl) hk).trans (Obj.opt_of ?_)
 revert hg
 cases F k<;>simp[Obj.renP]
def HMem (π:Pn)(m:Nat)(os1:List (Nat×Nat×(Nat->Obj))):List (Nat×Nat×(Nat->Obj))->Prop
 |[]=>True
 |(id,c',F')::l=>(id<m/\(∀k,(F' k).own=false)/\∀k,k<c'->(F' k).lt m/\match find os1 (π id k).1 with
   |some (c,F)=>(π id k).2<c/\zr π (F (π id k).2) (F' k)
   |none=>False)/\HMem π m os1 l
theorem HMem.get {π:Pn}{m:Nat}{os1:List (Nat×Nat×(Nat->Obj))}:∀{os:List (Nat×Nat×(Nat->Obj))},HMem π m os1 os->∀{id k:Nat} {o:Obj},look os id k=some o->
  id<m/\o.own=false/\o.lt m/\∃o1,look os1 (π id k).1 (π id k).2=some o1/\zr π o1 o
 |[],_,_,_,_,h=>by simp[look,find] at h
 |(i,c',F')::l,hm,id,k,o,h=>by
  obtain⟨⟨h1,h0,h2⟩,h3⟩:=hm;rw[z1e] at h
  split at h
  ·rename_i he;subst he
   split at h
   ·rename_i hk;obtain⟨rfl,_⟩:=Obj.opt_some h;obtain⟨q2,q3⟩:=h2 k hk
    split at q3
    ·rename_i c F hf;exact⟨h1,h0 k,q2,_,(zy hf q3.1).trans (Obj.opt_of (z27 q3.2)),q3.2⟩
    ·exact q3.elim
   ·cases h
  ·exact HMem.get h3 h
theorem zf.mem {P:Program}{f:FuncId}{args0:List SV}{H0:AH}{R:SV->AH->Prop}(hF:zf P f args0 H0 R)(π:Pn){os1:List (Nat×Nat×(Nat->Obj))}
  (hm:HMem π H0.nxt os1 H0.os) (hl0:SV.ltL H0.nxt args0) (hπ:∀id k,id<H0.nxt->(π id k).1<H0.nxt) (hu:∀x∈os1,∀k,(x.2.2 k).own=false):
  zf P f (SV.renPL π args0) ⟨H0.nxt,os1⟩ (fun s H'=> ∃s0 H0',R s0 H0'/\s=s0.renP (memP π H0.nxt)/\H'=⟨H0'.nxt,renPOs (memP π H0.nxt) H0'.os⟩):=by
 intro X β w vs hP hm0 hw hβ ho hS hd hlt
 have hno:∀{id k:Nat} {o:Obj},look H0.os id k=some o->¬o.own=true:=fun h e=>by
  have:=(hm.get h).2.1;rw[this] at e;cases e
 have hno1:∀{id k:Nat} {o:Obj},look os1 id k=some o->¬o.own=true:=fun h e=>by
  obtain⟨c,F,hf,_,rfl⟩:=z1g h;have:=hu _ (z1j hf);rw[this] at e;cases e
 let Y:Cx:=⟨X.P,X.n,w,fun id k=> ∃o,look H0.os id k=some o/\o.own=true,H0.nxt,β.viaP π,X.wrap⟩
 have hY:St Y (β.viaP π) H0 w:=by
  refine⟨rfl,rfl,rfl,qd _,fun _ _ _=>rfl,fun id k o h=> ?_,fun id k id' k' o o' L L' h h' ho hb hb' he=>absurd ho (hno h),fun _ _ _=>rfl,fun id k o L h ho _=>absurd ho (hno h),fun id k ho=> ?_,qd _,fun id k o h=>⟨(hm.get h).1,(hm.get h).2.2.1⟩,⟨fun g hgt=> ?_,fun g hgt=> ?_⟩,qd _⟩
  ·obtain⟨_,_,_,o1,h1,h2⟩:=hm.get h;exact objGivesP_holds h2 (hS.holds _ _ _ h1)
  ·obtain⟨o,h,ho'⟩:=ho;exact absurd ho' (hno h)
  ·obtain⟨_,hlt2,htab⟩:=hS.tab hgt;exact⟨hlt2,htab,fun id k L ho _=>by obtain⟨o,h,ho'⟩:=ho;exact absurd ho' (hno h)⟩
  ·obtain⟨_,hlt2,htab⟩:=hS.tabB hgt;exact⟨hlt2,htab,fun id k L ho _=>by obtain⟨o,h,ho'⟩:=ho;exact absurd ho' (hno h)⟩
 refine(hF Y (β.viaP π) w vs hP rfl rfl rfl rfl hY ((z5m _ _).1 hd) hl0).mono ?_;rintro e w' ⟨v,rfl,β',s0,H',hR,hown,hds,hsl,hS'⟩;have hnx:H0.nxt<=H'.nxt:=hS'.m0
 let τ:=memP π H0.nxt
 let γ:Env:=fun id k=>if id<H0.nxt then β id k else β' id k
 have hγ:γ.viaP τ=β':=by
  funext id k
  show γ (τ id k).1 (τ id k).2=β' id k
  simp only[τ,memP]
  split
  ·rename_i h;simp only[γ];rw[qf (hπ id k h)];exact(hS'.fix id k h).symm
  ·rename_i h;simp only[γ];rw[qb h]
 have hτ:∀id k,id<H'.nxt->(τ id k).1<H'.nxt:=fun id k h=>by
  simp only[τ,memP]
  split
  ·rename_i h2;exact q8 (hπ id k h2) hnx
  ·exact h
 have hge:∀{x:Nat×Nat×(Nat->Obj)},x∈H'.os->H0.nxt<=x.1:=fun hx=>by
  rcases(hown _ hx).2 with h|⟨y,hy,_,_,hyo⟩
  ·exact h
  ·exfalso
   have:∀{os:List (Nat×Nat×(Nat->Obj))},y∈os->HMem π H0.nxt os1 os->(y.2.2 0).own=false:=by
    intro os
    induction os with
    |nil=>intro h;cases h
    |cons a os ih=>
     intro h g
     cases h with
     |head=>exact g.1.2.1 0
     |tail _ h=>exact ih h g.2
   rw[this hy hm] at hyo;cases hyo
 have hgel:∀{id k:Nat} {o:Obj},look H'.os id k=some o->H0.nxt<=id:=fun h=>by
  obtain⟨c,F,hf,_,_⟩:=z1g h;exact hge (z1j hf)
 have hγn:∀id k,H0.nxt<=id->γ id k=β' id k:=fun id k h=>by simp only[γ];rw[qb (by omega)]
 have hw0:X.w0=w:=hw;refine⟨v,rfl,γ,s0.renP τ,⟨H'.nxt,renPOs τ H'.os⟩,⟨s0,H',hR,rfl,rfl⟩,?_,?_,?_,?_⟩
 ·intro x hx;obtain⟨y,hy,rfl⟩:=Qq.1 hx;exact⟨fun k=>by show((y.2.2 k).renP τ).own=true;rw[Obj.renP_own];exact(hown _ hy).1 k,.inl (show H0.nxt<=y.1 from hge hy)⟩
 ·rw[z3p,hγ];exact hds
 ·exact lt_renP hτ s0 hsl
 ·refine⟨hS'.os.trans hS.os,hS'.tape.trans hS.tape,hS'.output.trans hS.output,qW hS.size hS'.size,fun id k h=> ?_,fun id k o h=> ?_,fun id k id' k' o o' L L' h h' ho hb hb' he=> ?_,fun b hb hn=> ?_,fun id k o L h how hb=> ?_,fun id k hb=> ?_,?_,fun id k o h=> ?_,hS.tabs,qW hS.drawn hS'.drawn⟩
  ·rw[hm0] at h
   show γ id k=_
   simp only[γ];rw[qf h,hβ]
  ·obtain⟨o0,h0,rfl⟩:=look_renPOs h;rw[hγn _ _ (hgel h0)];exact Obj.renP_holds (by rw[hγ];exact hS'.holds _ _ _ h0)
  ·obtain⟨o0,h0,rfl⟩:=look_renPOs h;obtain⟨o1,h1,rfl⟩:=look_renPOs h';rw[hγn _ _ (hgel h0)] at hb;rw[hγn _ _ (hgel h1)] at hb';exact hS'.sep _ _ _ _ _ _ _ _ h0 h1 (by rw[Obj.renP_own] at ho;exact ho) hb hb' he
  ·rw[hw0] at hb ⊢;refine hS'.old b hb fun id k o L h how hbb he=> ?_;exact hn id k _ L (look_renPOs' h) (by rw[Obj.renP_own];exact how) (by rw[hγn _ _ (hgel h)];exact hbb) he
  ·obtain⟨o0,h0,rfl⟩:=look_renPOs h;rw[hγn _ _ (hgel h0)] at hb;rw[Obj.renP_own] at how;rcases hS'.mine _ _ _ _ h0 how hb with⟨_,q⟩|⟨q1,q2⟩
   ·obtain⟨o2,h2,ho2⟩:=q;exact absurd ho2 (hno h2)
   ·exact .inr ⟨by rw[hm0];exact q1,by rw[hw0];exact q2⟩
  ·rw[ho] at hb;obtain⟨o2,h2,ho2⟩:=hb;exact absurd ho2 (hno1 h2)
  ·rw[hm0];exact hnx
  ·obtain⟨o0,h0,rfl⟩:=look_renPOs h;have:=hS'.lt _ _ _ h0;exact⟨this.1,Obj.renP_lt hτ this.2⟩
theorem zf.imp {P:Program}{f:FuncId}{args:List SV}{H0:AH}{R R':SV->AH->Prop}(hF:zf P f args H0 R)(h:∀s H',R s H'->R' s H'):zf P f args H0 R':=by
 intro X β w vs hP hm hw hβ ho hS hd hlt;refine(hF X β w vs hP hm hw hβ ho hS hd hlt).mono ?_;rintro e w' ⟨v,rfl,β',s,H',hR,h1,h2,h3,h4⟩;exact⟨v,rfl,β',s,H',h s H' hR,h1,h2,h3,h4⟩
end
end Go.Sk
namespace Go.Proofs
open Tryz
open Go.Sk
section
theorem Tryz.tyLink:z1m prog 98=⟨true,.struct,2,16,[(0,some false,1),(1,some false,1)]⟩:=by kernel_rfl
theorem Tryz.szLink:z28 prog 98=2:=by kernel_rfl
theorem Tryz.zLink:z32 prog 98=some [.int .i64 0,.int .i64 0]:=by kernel_rfl
theorem Tryz.tyLinks:z1m prog 94=⟨true,.slice 98,1,24,[]⟩:=by kernel_rfl
theorem Tryz.szLinks:z28 prog 94=1:=by kernel_rfl
theorem Tryz.tyLinked:z1m prog 96=⟨true,.struct,2,32,[(0,some false,1),(1,some false,1)]⟩:=by kernel_rfl
theorem Tryz.szLinked:z28 prog 96=2:=by kernel_rfl
theorem Tryz.zLinked:z32 prog 96=some [.int .i64 0,.nils]:=by kernel_rfl
theorem Tryz.tyLinkeds:z1m prog 65=⟨true,.slice 96,1,24,[]⟩:=by kernel_rfl
theorem Tryz.szLinkeds:z28 prog 65=1:=by kernel_rfl
def lvs (l:List (Int×Int)):Nat->List SV:=fun i=>[.int .i64 (pI l i).1,.int .i64 (pI l i).2]
theorem lvs_ap (l:List (Int×Int))(i:Nat):lvs l i=[.int .i64 (pI l i).1,.int .i64 (pI l i).2]:=rfl
theorem lvs_ren (ρ:Nat->Nat)(l:List (Int×Int)):(fun i=>SV.renL ρ (lvs l i))=lvs l:=by funext i;simp[lvs,SV.renL,SV.ren]
theorem lvs_ren' (ρ:Nat->Nat)(l:List (Int×Int))(i:Nat):SV.renL ρ (lvs l i)=lvs l i:=jr (lvs_ren ρ l) i
theorem lvs_lt (m:Nat)(l:List (Int×Int))(i:Nat):SV.ltL m (lvs l i):=by simp[lvs,SV.ltL,SV.lt]
theorem lvs_renP (π:Pn)(l:List (Int×Int))(i:Nat):SV.renPL π (lvs l i)=lvs l i:=by simp[lvs,SV.renPL,SV.renP]
def lkR (g:Bool)(f:Nat)(l:List Lk):Nat->List SV:=fun i=>[.int .i64 (lk l i).id,.slc g f (i+1) 0 (lk l i).lv.length]
def lkF (o:Bool)(l:List Lk):Nat->Sk.Obj:=fun i=> .row ⟨o,false,98,2,(lk l i).lv.length,lvs (lk l i).lv⟩
theorem lkR_ap (g:Bool)(f:Nat)(l:List Lk)(i:Nat):lkR g f l i=[.int .i64 (lk l i).id,.slc g f (i+1) 0 (lk l i).lv.length]:=rfl
theorem lkR_fold (g:Bool)(f:Nat)(l:List Lk):(fun i=>[SV.int .i64 (lk l i).id,SV.slc g f (i+1) 0 (lk l i).lv.length])=lkR g f l:=rfl
theorem lkF_ap (o:Bool)(l:List Lk)(i:Nat):lkF o l i= .row ⟨o,false,98,2,(lk l i).lv.length,lvs (lk l i).lv⟩:=rfl
theorem lkR_ren (ρ:Nat->Nat)(g:Bool)(f:Nat)(l:List Lk):(fun i=>SV.renL ρ (lkR g f l i))=lkR g (ρ f) l:=by funext i;simp[lkR,SV.renL,SV.ren]
theorem lkR_ren' (ρ:Nat->Nat)(g:Bool)(f:Nat)(l:List Lk)(i:Nat):SV.renL ρ (lkR g f l i)=lkR g (ρ f) l i:=jr (lkR_ren ρ g f l) i
theorem lkR_lt (m:Nat)(g:Bool)(f:Nat)(l:List Lk)(i:Nat):SV.ltL m (lkR g f l i)↔f<m:=by simp[lkR,SV.ltL,SV.lt]
theorem lkF_gives (ρ:Nat->Nat)(o o':Bool)(l:List Lk)(i:Nat):z19 ρ (lkF o l i) (lkF o' l i)↔(o'=true->o=true):=by
 simp[lkF,z19,z34,lvs_ren']
theorem lkFm_lt (m:Nat)(o:Bool)(l:List Lk)(i:Nat):(lkF o l i).lt m:=Obj.lt_row.2 fun q _=>lvs_lt m _ q
theorem lkF_own (o:Bool)(l:List Lk)(i:Nat):(lkF o l i).own=o:=rfl
theorem lkF_fown (o:Bool)(e:Go.TypeId)(sz:Nat)(l:List Lk)(k:Nat):(fam o e sz (lkF o l) k).own=o:=fam_own1 (lkF_own o l) k
theorem lkF_ren (ρ:Nat->Nat)(o:Bool)(l:List Lk):(fun i=>(lkF o l i).ren ρ)=lkF o l:=by
 funext i;simp[lkF,Obj.ren,Row.ren,lvs_ren]
theorem lkR_renP (ρ:Nat->Nat)(g:Bool)(f j a:Nat)(l:List Lk)(i:Nat):SV.renPL (mvP ρ f j a) (lkR g f l i)=if i=j then [.int .i64 (lk l i).id,.slc g a 0 0 (lk l i).lv.length] else [.int .i64 (lk l i).id,.slc g (ρ f) (i+1) 0 (lk l i).lv.length]:=by
 simp only[lkR,SV.renPL,SV.renP,mvP,QX,jL]
 split<;>rfl
theorem lkF_givesP (π:Pn)(o o':Bool)(l l':List Lk)(i:Nat)(h:o'=true->o=true)(e:lk l' i=lk l i):zr π (lkF o l i) (lkF o' l' i):=⟨fun h2=>⟨h h2,rfl⟩,rfl,by rw[e];exact qd _,fun q _=>by rw[e];exact(lvs_renP π _ q).symm⟩
theorem lkF_newP (π:Pn)(n:Nat)(F:Nat->List SV)(l:List Lk)(i:Nat)(hn:(lk l i).lv.length=n)(e:∀q,q<n->F q=lvs (lk l i).lv q):zr π (.row ⟨true,false,98,2,n,F⟩) (lkF true l i):=⟨fun _=>⟨rfl,rfl⟩,rfl,by rw[hn];exact qd _,fun q hq=>by rw[lvs_renP];exact e q (by rw[<-hn];exact hq)⟩
end
section
theorem Tryz.tyLy:z1m prog 89=⟨true,.struct,5,88,[(0,some false,1),(1,some false,1),(2,some false,1),(3,some true,2)]⟩:=by kernel_rfl
theorem Tryz.szLy:z28 prog 89=5:=by kernel_rfl
theorem Tryz.zLy:z32 prog 89=some [.int .i64 0,.int .u32 0,.nils,.nils,.nils]:=by kernel_rfl
theorem Tryz.tyLys:z1m prog 31=⟨true,.slice 89,1,24,[]⟩:=by kernel_rfl
theorem Tryz.szLys:z28 prog 31=1:=by kernel_rfl
theorem Tryz.tyCb:z1m prog 58=⟨true,.struct,3,24,[(0,some false,1),(1,some false,1),(2,some false,1)]⟩:=by kernel_rfl
theorem Tryz.szCb:z28 prog 58=3:=by kernel_rfl
theorem Tryz.zCb:z32 prog 58=some [.int .i64 0,.int .i64 0,.int .i64 0]:=by kernel_rfl
theorem Tryz.tyCbs:z1m prog 32=⟨true,.slice 58,1,24,[]⟩:=by kernel_rfl
theorem Tryz.szCbs:z28 prog 32=1:=by kernel_rfl
theorem Tryz.tyFo:z1m prog 34=⟨true,.struct,4,80,[(0,some false,1),(1,some false,1),(2,some false,1),(3,some false,1)]⟩:=by kernel_rfl
theorem Tryz.szFo:z28 prog 34=4:=by kernel_rfl
theorem Tryz.zFo:z32 prog 34=some [.nils,.int .i64 0,.nils,.nils]:=by kernel_rfl
def Cb.sv (c:Cb):List SV:=[.int .i64 c.kind,.int .i64 c.node,.int .i64 c.lvl]
def cbs (C:List Cb):Nat->List SV:=fun i=>(cbA C i).sv
theorem cbs_ap (C:List Cb)(i:Nat):cbs C i=[.int .i64 (cbA C i).kind,.int .i64 (cbA C i).node,.int .i64 (cbA C i).lvl]:=rfl
theorem cbs_ren (ρ:Nat->Nat)(C:List Cb):(fun i=>SV.renL ρ (cbs C i))=cbs C:=by funext i;simp[cbs,Cb.sv,SV.renL,SV.ren]
theorem cbs_ren' (ρ:Nat->Nat)(C:List Cb)(i:Nat):SV.renL ρ (cbs C i)=cbs C i:=jr (cbs_ren ρ C) i
theorem cbs_lt (m:Nat)(C:List Cb)(i:Nat):SV.ltL m (cbs C i):=by simp[cbs,Cb.sv,SV.ltL,SV.lt]
theorem cbs_renP (π:Pn)(C:List Cb)(i:Nat):SV.renPL π (cbs C i)=cbs C i:=by simp[cbs,Cb.sv,SV.renPL,SV.renP]
theorem z4a (π:Pn)(l:List Cl)(i:Nat):SV.renPL π (z2m l i)=z2m l i:=by simp[z2m,Cl.sv,SV.renPL,SV.renP]
theorem prs_renP (π:Pn)(l:List Pr)(i:Nat):SV.renPL π (prs l i)=prs l i:=by simp[prs,Pr.sv,SV.renPL,SV.renP]
theorem cbs_put (C:List Cb)(k:Nat)(a b c:Int)(h:k<C.length):(fun i=>if i=k then [SV.int .i64 a,SV.int .i64 b,SV.int .i64 c] else cbs C i)=cbs (C.set k ⟨a,b,c⟩):=by
 funext i
 simp only[cbs]
 split
 ·rename_i e;subst e;rw[z4r h];rfl
 ·rename_i e;rw[cbA_set_ne (Qv e)]
def lyR (f:Nat)(L:List Ly):Nat->List SV:=fun i=>[.int .i64 (lyA L i).lvl,.int .u32 (lyA L i).wd,.slc true f (3*i+1) 0 (lyA L i).ids.length,.slc true f (3*i+2) 0 (lyA L i).cs.length,.slc true f (3*i+3) 0 (lyA L i).ps.length]
def lyO (o:Bool)(x:Ly)(r:Nat):Sk.Obj:=
 if r=0 then .row ⟨o,false,3,1,x.ids.length,ints x.ids⟩ else if r=1 then .row ⟨o,false,117,5,x.cs.length,z2m x.cs⟩ else .row ⟨o,false,110,7,x.ps.length,prs x.ps⟩
def lyF (o:Bool)(L:List Ly):Nat->Sk.Obj:=fun k=>lyO o (lyA L (k/3)) (k%3)
theorem lyF_0 (o:Bool)(L:List Ly)(i:Nat):lyF o L (3*i)= .row ⟨o,false,3,1,(lyA L i).ids.length,ints (lyA L i).ids⟩:=by
 rw[lyF,Nat.mul_div_cancel_left _ (by decide),Nat.mul_mod_right];rfl
theorem lyF_1 (o:Bool)(L:List Ly)(i:Nat):lyF o L (3*i+1)= .row ⟨o,false,117,5,(lyA L i).cs.length,z2m (lyA L i).cs⟩:=by
 rw[lyF,show(3*i+1)/3=i by omega,show(3*i+1)%3=1 by omega];rfl
theorem lyF_2 (o:Bool)(L:List Ly)(i:Nat):lyF o L (3*i+2)= .row ⟨o,false,110,7,(lyA L i).ps.length,prs (lyA L i).ps⟩:=by
 rw[lyF,show(3*i+2)/3=i by omega,show(3*i+2)%3=2 by omega];rfl
theorem lyR_ap (f:Nat)(L:List Ly)(i:Nat):lyR f L i=[.int .i64 (lyA L i).lvl,.int .u32 (lyA L i).wd,.slc true f (3*i+1) 0 (lyA L i).ids.length,.slc true f (3*i+2) 0 (lyA L i).cs.length,.slc true f (3*i+3) 0 (lyA L i).ps.length]:=rfl
theorem lyR_ren (ρ:Nat->Nat)(f:Nat)(L:List Ly):(fun i=>SV.renL ρ (lyR f L i))=lyR (ρ f) L:=by funext i;simp[lyR,SV.renL,SV.ren]
theorem lyR_ren' (ρ:Nat->Nat)(f:Nat)(L:List Ly)(i:Nat):SV.renL ρ (lyR f L i)=lyR (ρ f) L i:=jr (lyR_ren ρ f L) i
theorem lyR_lt (m:Nat)(f:Nat)(L:List Ly)(i:Nat):SV.ltL m (lyR f L i)↔f<m:=by simp[lyR,SV.ltL,SV.lt]
theorem lyO_3 (o:Bool)(x:Ly)(r:Nat):lyO o x r= .row ⟨o,false,3,1,x.ids.length,ints x.ids⟩\/lyO o x r= .row ⟨o,false,117,5,x.cs.length,z2m x.cs⟩\/lyO o x r= .row ⟨o,false,110,7,x.ps.length,prs x.ps⟩:=by
 unfold lyO
 split
 ·exact .inl rfl
 ·split
  ·exact .inr (.inl rfl)
  ·exact .inr (.inr rfl)
theorem lyO_givesP (π:Pn)(o o':Bool)(x:Ly)(r:Nat)(h:o'=true->o=true):zr π (lyO o x r) (lyO o' x r):=by
 unfold lyO
 split
 ·exact⟨fun h2=>⟨h h2,rfl⟩,rfl,qd _,fun q _=>(z2k π _ q).symm⟩
 ·split
  ·exact⟨fun h2=>⟨h h2,rfl⟩,rfl,qd _,fun q _=>(z4a π _ q).symm⟩
  ·exact⟨fun h2=>⟨h h2,rfl⟩,rfl,qd _,fun q _=>(prs_renP π _ q).symm⟩
theorem lyO_gives (ρ:Nat->Nat)(o o':Bool)(x:Ly)(r:Nat):z19 ρ (lyO o x r) (lyO o' x r)↔(o'=true->o=true):=by
 unfold lyO
 split
 ·simp[z19,z34,z1v]
 ·split
  ·simp[z19,z34,cls_ren']
  ·simp[z19,z34,prs_ren']
theorem lyO_lt (m:Nat)(o:Bool)(x:Ly)(r:Nat):(lyO o x r).lt m:=by
 unfold lyO
 split
 ·exact Obj.lt_row.2 fun q _=>z1t m _ q
 ·split
  ·exact Obj.lt_row.2 fun q _=>cls_lt m _ q
  ·exact Obj.lt_row.2 fun q _=>prs_lt m _ q
theorem lyF_gives (ρ:Nat->Nat)(o o':Bool)(L:List Ly)(k:Nat):z19 ρ (lyF o L k) (lyF o' L k)↔(o'=true->o=true):=lyO_gives ..
theorem z3l (m:Nat)(o:Bool)(L:List Ly)(k:Nat):(lyF o L k).lt m:=lyO_lt ..
theorem lyF_own (o:Bool)(L:List Ly)(k:Nat):(lyF o L k).own=o:=by
 rcases lyO_3 o (lyA L (k/3)) (k%3) with e|e|e<;>exact(Qr Obj.own e)
theorem z4d (o:Bool)(e:Go.TypeId)(sz:Nat)(L:List Ly)(k:Nat):(fam o e sz (lyF o L) k).own=o:=fam_own1 (lyF_own o L) k
theorem lyF_ren (ρ:Nat->Nat)(o:Bool)(L:List Ly):(fun k=>(lyF o L k).ren ρ)=lyF o L:=by
 funext k
 show(lyO o (lyA L (k/3)) (k%3)).ren ρ=lyO o (lyA L (k/3)) (k%3)
 rcases lyO_3 o (lyA L (k/3)) (k%3) with e|e|e<;>rw[e]<;>simp[Obj.ren,Row.ren,z1q,z2n,z31]
theorem lyF_givesP (π:Pn)(o o':Bool)(L L':List Ly)(k:Nat)(h:o'=true->o=true)(e:lyA L' (k/3)=lyA L (k/3)):zr π (lyF o L k) (lyF o' L' k):=by
 rw[lyF,lyF,e];exact lyO_givesP π o o' _ _ h
theorem lyR_renO (ρ:Nat->Nat)(f j a g:Nat)(L:List Ly)(i:Nat)(h:g≠f):SV.renPL (mvP ρ f j a) (lyR g L i)=lyR (ρ g) L i:=by
 simp[lyR,SV.renPL,SV.renP,mvP,h]
theorem lyR_renMO (ρ:Nat->Nat)(f g:Nat)(ms:Nat->Option Nat)(L:List Ly)(i:Nat)(h:g≠f):SV.renPL (mvM ρ f ms) (lyR g L i)=lyR (ρ g) L i:=by
 simp[lyR,SV.renPL,SV.renP,mvM,h]
theorem ms3_at (j a b c i:Nat):ms3 j a b c (3*i+1)=(if i=j then some a else none)/\ms3 j a b c (3*i+2)=(if i=j then some b else none)/\ms3 j a b c (3*i+3)=if i=j then some c else none:=by
 unfold ms3
 by_cases h:i=j
 ·subst h;refine⟨by rw[qf rfl,qf rfl],by rw[qb (by omega),qf rfl,qf rfl],by rw[qb (by omega),qb (by omega),qf rfl,qf rfl]⟩
 ·refine⟨by rw[qb (by omega),qb (by omega),qb (by omega),qb h],by rw[qb (by omega),qb (by omega),qb (by omega),qb h],by rw[qb (by omega),qb (by omega),qb (by omega),qb h]⟩
theorem ms2_at (j b c i:Nat):ms2 j b c (3*i+1)=none/\ms2 j b c (3*i+2)=(if i=j then some b else none)/\ms2 j b c (3*i+3)=if i=j then some c else none:=by
 unfold ms2
 by_cases h:i=j
 ·subst h;refine⟨by rw[qb (by omega),qb (by omega)],by rw[qf rfl,qf rfl],by rw[qb (by omega),qf rfl,qf rfl]⟩
 ·refine⟨by rw[qb (by omega),qb (by omega)],by rw[qb (by omega),qb (by omega),qb h],by rw[qb (by omega),qb (by omega),qb h]⟩
theorem lyR_renM3 (ρ:Nat->Nat)(f j a b c:Nat)(L:List Ly)(i:Nat):SV.renPL (mvM ρ f (ms3 j a b c)) (lyR f L i)=
  if i=j then [.int .i64 (lyA L i).lvl,.int .u32 (lyA L i).wd,.slc true a 0 0 (lyA L i).ids.length,.slc true b 0 0 (lyA L i).cs.length,.slc true c 0 0 (lyA L i).ps.length] else lyR (ρ f) L i:=by
 obtain⟨h1,h2,h3⟩:=ms3_at j a b c i
 by_cases h:i=j
 ·subst h;rw[qf rfl] at h1 h2 h3;simp only[lyR,SV.renPL,SV.renP,mvM,Qh,h1,h2,h3]
 ·simp only[lyR,SV.renPL,SV.renP,mvM,Qh,h1,h2,h3,qb h]
theorem lyR_renM2 (ρ:Nat->Nat)(f j b c:Nat)(L:List Ly)(i:Nat):SV.renPL (mvM ρ f (ms2 j b c)) (lyR f L i)=
  if i=j then [.int .i64 (lyA L i).lvl,.int .u32 (lyA L i).wd,.slc true (ρ f) (3*i+1) 0 (lyA L i).ids.length,.slc true b 0 0 (lyA L i).cs.length,.slc true c 0 0 (lyA L i).ps.length] else lyR (ρ f) L i:=by
 obtain⟨h1,h2,h3⟩:=ms2_at j b c i
 by_cases h:i=j
 ·subst h;rw[qf rfl] at h2 h3;simp only[lyR,SV.renPL,SV.renP,mvM,Qh,h1,h2,h3]
 ·simp only[lyR,SV.renPL,SV.renP,mvM,Qh,h1,h2,h3,qb h]
theorem lyF_cons3 {ρ:Nat->Nat}{f j a b c m n n':Nat}{os l:List (Nat×Nat×(Nat->Sk.Obj))}{L L':List Ly}{x:Ly}(hf:Sk.find os (ρ f)=some (3*n+1,fam true 3 1 (lyF true L)))
  (ha:Sk.find os a=some (uQ (.row ⟨true,false,3,1,x.ids.length,ints x.ids⟩))) (hb:Sk.find os b=some (uQ (.row ⟨true,false,117,5,x.cs.length,z2m x.cs⟩))) (hc:Sk.find os c=some (uQ (.row ⟨true,false,110,7,x.ps.length,prs x.ps⟩)))
  (hx:lyA L' j=x) (h:∀i,i<n'->i≠j->i<n/\lyA L' i=lyA L i) (hm:f<m) (ht:z1b (mvM ρ f (ms3 j a b c)) m os l):z1b (mvM ρ f (ms3 j a b c)) m os ((f,(3*n'+1,fam true 3 1 (lyF true L')))::l):=by
 refine z1b.consF hf (by omega) ⟨fun _=>⟨rfl,rfl⟩,rfl⟩ (by unfold ms3;rw[qb (by omega),qb (by omega),qb (by omega)]) (fun i hi=> ?_) hm ht;obtain⟨q,r,hr,e⟩:∃q r,r<3/\i=3*q+r:=⟨i/3,i%3,by omega,by omega⟩;obtain⟨h1,h2,h3⟩:=ms3_at j a b c q
 have old:q≠j->i+1<3*n+1/\zr (mvM ρ f (ms3 j a b c)) (lyF true L i) (lyF true L' i)/\(lyF true L' i).lt m:=fun hne=>by
  have:=h q (by omega) hne;exact⟨by omega,lyF_givesP _ _ _ _ _ _ id (by rw[show i/3=q by omega];exact this.2),z3l ..⟩
 have h012:r=0\/r=1\/r=2:=by omega
 rcases h012 with g|g|g<;>subst g<;>subst e
 ·rw[h1]
  by_cases hq:q=j
  ·subst hq;rw[qf rfl];refine⟨1,_,ha,ql,?_,z3l ..⟩;rw[QR,lyF_0,hx];exact⟨fun _=>⟨rfl,rfl⟩,rfl,qd _,fun q _=>(z2k _ _ q).symm⟩
  ·rw[qb hq];exact old hq
 ·rw[show 3*q+1+1=3*q+2 from rfl,h2]
  by_cases hq:q=j
  ·subst hq;rw[qf rfl];refine⟨1,_,hb,ql,?_,z3l ..⟩;rw[lyF_1,hx];exact⟨fun _=>⟨rfl,rfl⟩,rfl,qd _,fun q _=>(z4a _ _ q).symm⟩
  ·rw[qb hq];exact old hq
 ·rw[show 3*q+2+1=3*q+3 from rfl,h3]
  by_cases hq:q=j
  ·subst hq;rw[qf rfl];refine⟨1,_,hc,ql,?_,z3l ..⟩;rw[lyF_2,hx];exact⟨fun _=>⟨rfl,rfl⟩,rfl,qd _,fun q _=>(prs_renP _ _ q).symm⟩
  ·rw[qb hq];exact old hq
theorem lyF_cons2 {ρ:Nat->Nat}{f j b c m n:Nat}{os l:List (Nat×Nat×(Nat->Sk.Obj))}{L L':List Ly}{x:Ly}(hf:Sk.find os (ρ f)=some (3*n+1,fam true 3 1 (lyF true L)))
  (hb:Sk.find os b=some (uQ (.row ⟨true,false,117,5,x.cs.length,z2m x.cs⟩))) (hc:Sk.find os c=some (uQ (.row ⟨true,false,110,7,x.ps.length,prs x.ps⟩)))
  (hx:lyA L' j=x) (hi:x.ids=(lyA L j).ids) (h:∀i,i≠j->lyA L' i=lyA L i) (hm:f<m) (ht:z1b (mvM ρ f (ms2 j b c)) m os l):z1b (mvM ρ f (ms2 j b c)) m os ((f,(3*n+1,fam true 3 1 (lyF true L')))::l):=by
 refine z1b.consF hf (by omega) ⟨fun _=>⟨rfl,rfl⟩,rfl⟩ (by unfold ms2;rw[qb (by omega),qb (by omega)]) (fun i hi'=> ?_) hm ht;obtain⟨q,r,hr,e⟩:∃q r,r<3/\i=3*q+r:=⟨i/3,i%3,by omega,by omega⟩;obtain⟨h1,h2,h3⟩:=ms2_at j b c q
 have old:q≠j->i+1<3*n+1/\zr (mvM ρ f (ms2 j b c)) (lyF true L i) (lyF true L' i)/\(lyF true L' i).lt m:=fun hne=>
  ⟨by omega,lyF_givesP _ _ _ _ _ _ id (by rw[show i/3=q by omega];exact h q hne),z3l ..⟩
 have h012:r=0\/r=1\/r=2:=by omega
 rcases h012 with g|g|g<;>subst g<;>subst e
 ·rw[h1];refine⟨by omega,?_,z3l ..⟩;rw[QR,lyF_0,lyF_0]
  by_cases hq:q=j
  ·subst hq;rw[hx,hi];exact⟨fun _=>⟨rfl,rfl⟩,rfl,qd _,fun q _=>(z2k _ _ q).symm⟩
  ·rw[h q hq];exact⟨fun _=>⟨rfl,rfl⟩,rfl,qd _,fun q _=>(z2k _ _ q).symm⟩
 ·rw[show 3*q+1+1=3*q+2 from rfl,h2]
  by_cases hq:q=j
  ·subst hq;rw[qf rfl];refine⟨1,_,hb,ql,?_,z3l ..⟩;rw[lyF_1,hx];exact⟨fun _=>⟨rfl,rfl⟩,rfl,qd _,fun q _=>(z4a _ _ q).symm⟩
  ·rw[qb hq];exact old hq
 ·rw[show 3*q+2+1=3*q+3 from rfl,h3]
  by_cases hq:q=j
  ·subst hq;rw[qf rfl];refine⟨1,_,hc,ql,?_,z3l ..⟩;rw[lyF_2,hx];exact⟨fun _=>⟨rfl,rfl⟩,rfl,qd _,fun q _=>(prs_renP _ _ q).symm⟩
  ·rw[qb hq];exact old hq
def lyPi (i:Nat):Pn:=fun id k=>if id=0 then(0,3*i+2) else if id=1 then(0,3*i+3) else(id,k)
def lyPd (i:Nat):Pn:=fun id k=>if id=0 then(0,3*i+1) else(id,k)
theorem lyLs {f : Go.FuncId} {ar : List SV} {R : SV -> AH -> Prop} (L : List Ly) (i k : Nat) (hi : i < k)
    (h:zf prog f (.agg [.slc false 0 0 0 (lyA L i).cs.length,.slc false 1 0 0 (lyA L i).ps.length]::ar) ⟨2,[(0,inCl (lyA L i).cs),(1,inPr (lyA L i).ps)]⟩ R)
    (h2:SV.ltL 2 ar) (h3:∀π:Pn,SV.renPL π ar=ar):
    zf prog f (.agg [.slc false 0 (3*i+2) 0 (lyA L i).cs.length,.slc false 0 (3*i+3) 0 (lyA L i).ps.length]::ar) ⟨2,[(0,(3*k+1,fam false 3 1 (lyF false L)))]⟩
      (fun s H'=> ∃s0 H0',R s0 H0'/\s=s0.renP (memP (lyPi i) 2)/\H'=⟨H0'.nxt,renPOs (memP (lyPi i) 2) H0'.os⟩):=by
  have g:=h.mem (lyPi i) (os1:=[(0,(3*k+1,fam false 3 1 (lyF false L)))])
    (by
      refine⟨⟨by show 0<2;decide,fun k=>rfl,fun k' hk=>⟨Obj.lt_row.2 fun q _=>cls_lt _ _ q,?_⟩⟩,⟨by show 1<2;decide,fun k=>rfl,fun k' hk=>⟨Obj.lt_row.2 fun q _=>prs_lt _ _ q,?_⟩⟩,trivial⟩
      · simp only[lyPi,Qh,Sk.find];refine⟨by omega,?_⟩;rw[show 3*i+2=(3*i+1)+1 from rfl,z2h,lyF_1];exact⟨fun h=>(by cases h),rfl,qd _,fun q _=>(z4a _ _ q).symm⟩
      · simp only[lyPi,Qh,Sk.find,Jh,Qw];refine⟨by omega,?_⟩;rw[show 3*i+3=(3*i+2)+1 from rfl,z2h,lyF_2]
        exact⟨fun h=>(by cases h),rfl,qd _,fun q _=>(prs_renP _ _ q).symm⟩)
    ⟨by simp [SV.lt, SV.ltL], h2⟩ (by intro id k hid; simp only [lyPi]; split; · exact Nat.zero_lt_two
                                      · split
                                        · exact Nat.zero_lt_two
                                        · exact hid) (by
      intro x hx k;simp only[qL] at hx;subst hx
      exact z4d false _ _ L k)
  have e:SV.renPL (lyPi i) (.agg [.slc false 0 0 0 (lyA L i).cs.length,.slc false 1 0 0 (lyA L i).ps.length]::ar)= .agg [.slc false 0 (3*i+2) 0 (lyA L i).cs.length,.slc false 0 (3*i+3) 0 (lyA L i).ps.length]::ar:=by
    rw[SV.renPL,h3];simp[SV.renP,SV.renPL,lyPi]
  rw[e] at g;exact g
theorem lyLsB {f:Go.FuncId}{B:Bool}(L:List Ly)(i k:Nat)(hi:i<k)
  (h:zf prog f [.agg [.slc false 0 0 0 (lyA L i).cs.length,.slc false 1 0 0 (lyA L i).ps.length]] ⟨2,[(0,inCl (lyA L i).cs),(1,inPr (lyA L i).ps)]⟩ (fun s H1=>s= .bool B/\H1=⟨2,[]⟩)):
  zf prog f [.agg [.slc false 0 (3*i+2) 0 (lyA L i).cs.length,.slc false 0 (3*i+3) 0 (lyA L i).ps.length]] ⟨2,[(0,(3*k+1,fam false 3 1 (lyF false L)))]⟩ (fun s H1=>s= .bool B/\H1=⟨2,[]⟩):=by
 refine(lyLs L i k hi h trivial fun _=>rfl).imp ?_;rintro s H' ⟨s0,H0',⟨rfl,rfl⟩,rfl,rfl⟩;exact⟨rfl,rfl⟩
theorem lyId {f : Go.FuncId} {ar : List SV} {R : SV -> AH -> Prop} (L : List Ly) (i k : Nat) (hi : i < k)
    (h:zf prog f (.slc false 0 0 0 (lyA L i).ids.length::ar) ⟨1,[(0,uQ (.row ⟨false,false,3,1,(lyA L i).ids.length,ints (lyA L i).ids⟩))]⟩ R)
    (h2:SV.ltL 1 ar) (h3:∀π:Pn,SV.renPL π ar=ar):
    zf prog f (.slc false 0 (3*i+1) 0 (lyA L i).ids.length::ar) ⟨1,[(0,(3*k+1,fam false 3 1 (lyF false L)))]⟩
      (fun s H'=> ∃s0 H0',R s0 H0'/\s=s0.renP (memP (lyPd i) 1)/\H'=⟨H0'.nxt,renPOs (memP (lyPd i) 1) H0'.os⟩):=by
  have g:=h.mem (lyPd i) (os1:=[(0,(3*k+1,fam false 3 1 (lyF false L)))])
    (by
      refine⟨⟨ql,fun k=>rfl,fun k' hk=>⟨Obj.lt_row.2 fun q _=>z1t _ _ q,?_⟩⟩,trivial⟩;simp only[lyPd,Qh,Sk.find];refine⟨by omega,?_⟩;rw[z2h,lyF_0]
      exact⟨fun h=>(by cases h),rfl,qd _,fun q _=>(z2k _ _ q).symm⟩)
    ⟨by simp [SV.lt], h2⟩ (by intro id k hid; simp only [lyPd]; split; · exact ql
                              · exact hid) (by
      intro x hx k;simp only[qL] at hx;subst hx
      exact z4d false _ _ L k)
  have e:SV.renPL (lyPd i) (.slc false 0 0 0 (lyA L i).ids.length::ar)= .slc false 0 (3*i+1) 0 (lyA L i).ids.length::ar:=by
    rw[SV.renPL,h3];simp[SV.renP,lyPd]
  rw[e] at g;exact g
end
section
def goneF (L:List Ly)(id lv:Int):Bool:=gn (lyA L (plI L id lv).toNat).cs (plK L id lv)
def memF (L:List Ly)(id lv:Int):Bool:=decide (0<=plI L id lv) && !goneF L id lv
def cbOk (ns:List Nd)(ht:Int)(c:Cb):Bool:=decide (c=noCb)||((c.kind==1||c.kind==2) && decide (0<=z44 ns c.node) && decide (0<=c.lvl) && decide (c.lvl<=ht))
def busyF (C:List Cb)(id:Int):Bool:=anyB C.length fun i=>(cbA C i).kind !=0 && (cbA C i).node==id
def upL (L:List Ly)(i:Nat)(cs:List Cl)(ps:List Pr):List Ly:=L.set i {lyA L i with cs:=cs,ps:=ps}
def beginE (L:List Ly)(p:Int)(c:Cb):Int:=z4v (lyA L (plI L c.node c.lvl).toNat).cs (lyA L (plI L c.node c.lvl).toNat).ps p c.kind (plK L c.node c.lvl)
def beginL (L:List Ly)(p:Int)(c:Cb):List Ly:=
 upL L (plI L c.node c.lvl).toNat (lyA L (plI L c.node c.lvl).toNat).cs (startP (lyA L (plI L c.node c.lvl).toNat).cs (lyA L (plI L c.node c.lvl).toNat).ps p c.kind (plK L c.node c.lvl))
def nxC (c:Cb):Cb:=if c.kind=1 then {c with lvl:=c.lvl+1} else {c with lvl:=c.lvl-1}
structure SkEq (L L':List Ly):Prop where
 len:L'.length=L.length
 lvl:∀i,(lyA L' i).lvl=(lyA L i).lvl
 ids:∀i,(lyA L' i).ids=(lyA L i).ids
theorem SkEq.plI {L L':List Ly}(h:SkEq L L')(id lv:Int):plI L' id lv=plI L id lv:=by
 unfold Go.Proofs.plI;rw[h.len]
 congr 1
 funext i
 rw[plP,plP,h.lvl,h.ids]
theorem SkEq.plK {L L':List Ly}(h:SkEq L L')(id lv:Int):plK L' id lv=plK L id lv:=by
 unfold Go.Proofs.plK;rw[h.plI,h.ids]
theorem upL_len (L:List Ly)(i:Nat)(cs:List Cl)(ps:List Pr):(upL L i cs ps).length=L.length:=by simp[upL]
theorem upL_eq {L:List Ly}{i:Nat}(h:i<L.length)(cs:List Cl)(ps:List Pr):lyA (upL L i cs ps) i={lyA L i with cs:=cs,ps:=ps}:=lyA_set_eq h
theorem upL_ne {L:List Ly}{i j:Nat}(h:i≠j)(cs:List Cl)(ps:List Pr):lyA (upL L i cs ps) j=lyA L j:=lyA_set_ne h
theorem skEq_up {L:List Ly}{i:Nat}(h:i<L.length)(cs:List Cl)(ps:List Pr):SkEq L (upL L i cs ps):=by
 refine⟨upL_len ..,fun j=> ?_,fun j=> ?_⟩
 ·by_cases e:i=j
  ·subst e;rw[upL_eq h]
  ·rw[upL_ne e]
 ·by_cases e:i=j
  ·subst e;rw[upL_eq h]
  ·rw[upL_ne e]
theorem Fsh.up {fo:Fo}(h:Fsh fo){i:Nat}(hi:i<fo.ly.length){cs:List Cl}{ps:List Pr}{C:List Cb}(hk:z3w (lyA fo.ly i).cs cs)(hp:ps.length=(lyA fo.ly i).ps.length)(hC:C.length=fo.cb.length):Fsh {fo with ly:=upL fo.ly i cs ps,cb:=C}:=by
 refine⟨h.ck,h.sm,h.h0,h.h16,by dsimp only;rw[hC];exact h.m1,by dsimp only;rw[hC];exact h.m8,by dsimp only;rw[upL_len];exact h.len,fun j hj=> ?_⟩;dsimp only at hj ⊢;rw[upL_len] at hj;rw[hC];have hA:=h.at_ j hj
 by_cases e:i=j
 ·subst e;rw[upL_eq hi];exact⟨hA.lvl,hA.ids,hk.len.trans hA.len,fun k hk'=>(hk.key _).trans (hA.key k hk'),hA.wd,hp.trans hA.pn⟩
 ·rw[upL_ne e];exact hA
theorem Fsh.cbs {fo:Fo}(h:Fsh fo){C:List Cb}(hC:C.length=fo.cb.length):Fsh {fo with cb:=C}:=
 ⟨h.ck,h.sm,h.h0,h.h16,by dsimp only;rw[hC];exact h.m1,by dsimp only;rw[hC];exact h.m8,h.len,fun j hj=>by dsimp only;rw[hC];exact h.at_ j hj⟩
theorem goneF_up {L:List Ly}{i:Nat}(hi:i<L.length)(cs:List Cl)(ps:List Pr)(id lv:Int):goneF (upL L i cs ps) id lv=if(plI L id lv).toNat=i then gn cs (plK L id lv) else goneF L id lv:=by
 unfold goneF;rw[(skEq_up hi cs ps).plI,(skEq_up hi cs ps).plK]
 split
 ·rename_i e;rw[e,upL_eq hi]
 ·rename_i e;rw[upL_ne (Qv e)]
structure FI (fo:Fo) (ls:Nat->List Int):Prop where
 sh:Fsh fo
 inv:∀i,i<fo.ly.length->Inv (lyA fo.ly i).cs (lyA fo.ly i).ps (ls i)
 clm:∀p,p<fo.cb.length->cbOk fo.ns fo.ht (cbA fo.cb p)=true
 idl:∀p i,p<fo.cb.length->i<fo.ly.length->((cbA fo.cb p).kind=0\/plI fo.ly (cbA fo.cb p).node (cbA fo.cb p).lvl≠i)->z48 (pr (lyA fo.ly i).ps p)=false
 cur:∀p i:Nat,p<fo.cb.length->i<fo.ly.length->(cbA fo.cb p).kind≠0->plI fo.ly (cbA fo.cb p).node (cbA fo.cb p).lvl=i->
  (pr (lyA fo.ly i).ps p).cell=plK fo.ly (cbA fo.cb p).node (cbA fo.cb p).lvl/\(pr (lyA fo.ly i).ps p).kind=(cbA fo.cb p).kind/\(pr (lyA fo.ly i).ps p).phase≠0/\Own (lyA fo.ly i).cs (pr (lyA fo.ly i).ps p)
 dis:∀p q,p<fo.cb.length->q<fo.cb.length->(cbA fo.cb p).kind≠0->(cbA fo.cb q).kind≠0->(cbA fo.cb p).node=(cbA fo.cb q).node->p=q
 lev:∀x∈fo.ns,busyF fo.cb x.id=false->∀lv,0<=lv->lv<=fo.ht->goneF fo.ly x.id lv=goneF fo.ly x.id 0
 low:∀p,p<fo.cb.length->(cbA fo.cb p).kind≠0->∀lv,0<=lv->lv<=fo.ht->(lv<(cbA fo.cb p).lvl->goneF fo.ly (cbA fo.cb p).node lv=false)/\((cbA fo.cb p).lvl<lv->goneF fo.ly (cbA fo.cb p).node lv=true)
theorem findI_mem {xs:List Nd}{v:Int}(h:0<=z44 xs v):∃x∈xs,x.id=v:=by
 rcases z3b xs.length fun i=>decide ((nd xs i).id=v) with⟨h1,_⟩|⟨j,h1,h2,h3,_⟩
 ·unfold z44 at h;omega
 ·exact⟨nd xs j,nd_mem h2,jt h3⟩
theorem findI_of {xs:List Nd}{x:Nd}(h:x∈xs):0<=z44 xs x.id:=by
 obtain⟨i,hi,rfl⟩:=Qe h;rcases z3b xs.length fun q=>decide ((nd xs q).id=(xs[i]).id) with⟨_,h2⟩|⟨j,h1,_⟩
 ·have:=h2 i hi;rw[qg,z51 hi] at this;exact absurd rfl this
 ·unfold z44;omega
structure Works (fo:Fo) (c:Cb) (x:Nd):Prop where
 k:c.kind=1\/c.kind=2
 mm:x∈fo.ns
 id:x.id=c.node
 l0:0<=c.lvl
 lh:c.lvl<=fo.ht
theorem cbOk_works {fo:Fo}{c:Cb}(h:cbOk fo.ns fo.ht c=true)(hk:c.kind≠0):∃x,Works fo c x:=by
 rw[cbOk,qr,qj] at h;rcases h with h|h
 ·subst h;exact absurd rfl hk
 ·simp only[qh,qr,qy,qj] at h;obtain⟨x,h1,h2⟩:=findI_mem h.1.1.2;exact⟨x,h.1.1.1,h1,h2,h.1.2,h.2⟩
theorem Works.ok {fo:Fo}{c:Cb}{x:Nd}(h:Works fo c x):cbOk fo.ns fo.ht c=true:=by
 simp only[cbOk,qr,qh,qy,qj];exact .inr ⟨⟨⟨h.k,by rw[<-h.id];exact findI_of h.mm⟩,h.l0⟩,h.lh⟩
theorem z5c {C:List Cb}{id:Int}:busyF C id=false↔∀p,p<C.length->(cbA C p).kind≠0->(cbA C p).node≠id:=by
 rw[busyF,anyB_iff];refine forall_congr' fun p=>forall_congr' fun hp=> ?_;simp[qX]
section
variable {fo:Fo} {ls:Nat->List Int}
theorem FI.works (h:FI fo ls){p:Nat}(hp:p<fo.cb.length)(hk:(cbA fo.cb p).kind≠0):∃x,Works fo (cbA fo.cb p) x:=cbOk_works (h.clm p hp) hk
theorem FI.stands (h:FI fo ls){p:Nat}(hp:p<fo.cb.length)(hk:(cbA fo.cb p).kind≠0):∃x i k,Works fo (cbA fo.cb p) x/\At fo x (cbA fo.cb p).lvl i k/\
  (pr (lyA fo.ly i).ps p).cell=k+2/\(pr (lyA fo.ly i).ps p).kind=(cbA fo.cb p).kind/\(pr (lyA fo.ly i).ps p).phase≠0/\Own (lyA fo.ly i).cs (pr (lyA fo.ly i).ps p):=by
 obtain⟨x,hw⟩:=h.works hp hk;obtain⟨i,k,ha⟩:=h.sh.place hw.mm hw.l0 hw.lh;have h1:=ha.pI;have h2:=ha.pK;rw[hw.id] at h1 h2;have:=h.cur p i hp ha.hi hk h1;rw[h2] at this;exact⟨x,i,k,hw,ha,this⟩
theorem At.gone {x:Nd}{lv:Int}{i k:Nat}(a:At fo x lv i k):goneF fo.ly x.id lv=gn (lyA fo.ly i).cs (k+2):=by
 rw[goneF,a.pI,a.pK,qE]
theorem FI.rest (h:FI fo ls){p:Nat}(hp:p<fo.cb.length)(hd:∀i:Nat,(cbA fo.cb p).kind≠0->plI fo.ly (cbA fo.cb p).node (cbA fo.cb p).lvl=i->(pr (lyA fo.ly i).ps p).phase=18)(i:Nat)(hi:i<fo.ly.length):z48 (pr (lyA fo.ly i).ps p)=false:=by
 by_cases hk:(cbA fo.cb p).kind=0
 ·exact h.idl p i hp hi (.inl hk)
 ·by_cases he:plI fo.ly (cbA fo.cb p).node (cbA fo.cb p).lvl=i
  ·have:=hd i hk he;simp[z48,this]
  ·exact h.idl p i hp hi (.inr he)
theorem Fsh.same (h:Fsh fo){x y:Nd}(hx:x∈fo.ns)(hy:y∈fo.ns){lv lw:Int}(l0:0<=lv)(lh:lv<=fo.ht)(m0:0<=lw)(mh:lw<=fo.ht)(hI:plI fo.ly x.id lv=plI fo.ly y.id lw)(hK:plK fo.ly x.id lv=plK fo.ly y.id lw):x=y/\lv=lw:=by
 obtain⟨i,k,a⟩:=h.place hx l0 lh;obtain⟨j,m,b⟩:=h.place hy m0 mh;have h1:=a.pI;have h2:=a.pK;have h3:=b.pI;have h4:=b.pK;have e1:i=j:=by omega
 have e2:k=m:=by omega
 subst e1 e2;exact a.inj h b
theorem FI.layer (h:FI fo ls){p:Nat}(hp:p<fo.cb.length)(hk:(cbA fo.cb p).kind≠0){i:Nat}(hI:plI fo.ly (cbA fo.cb p).node (cbA fo.cb p).lvl=i)(ha:z48 (pr (lyA fo.ly i).ps p)=true){ds:List Cl}{y:Pr}(t:Tr (lyA fo.ly i).cs p (pr (lyA fo.ly i).ps p) ds y):
  ∃l',i<fo.ly.length/\Inv ds ((lyA fo.ly i).ps.set p y) l'/\FI {fo with ly:=upL fo.ly i ds ((lyA fo.ly i).ps.set p y)} (fun j=>if j=i then l' else ls j)/\
   ∀x∈fo.ns,∀lv,0<=lv->lv<=fo.ht->x.id≠(cbA fo.cb p).node\/lv≠(cbA fo.cb p).lvl->goneF (upL fo.ly i ds ((lyA fo.ly i).ps.set p y)) x.id lv=goneF fo.ly x.id lv:=by
 obtain⟨x0,i0,k0,hw,hat,hc1,hc2,hc3,hc4⟩:=h.stands hp hk;have e0:i0=i:=by have:=hat.pI;rw[hw.id] at this;omega
 subst e0;have hi:=hat.hi;have hpl:p<(lyA fo.ly i0).ps.length:=by rw[(h.sh.at_ i0 hi).pn];exact hp
 have hinv:=h.inv i0 hi;obtain⟨l',hl'⟩:=hinv.step hpl ha t;have hke:=(hinv.marks hpl ha t).1;have hsk:=skEq_up hi ds ((lyA fo.ly i0).ps.set p y)
 have off:∀x∈fo.ns,∀lv,0<=lv->lv<=fo.ht->x.id≠(cbA fo.cb p).node\/lv≠(cbA fo.cb p).lvl->goneF (upL fo.ly i0 ds ((lyA fo.ly i0).ps.set p y)) x.id lv=goneF fo.ly x.id lv:=fun x hx lv l0 lh hne=>by
  obtain⟨j,m,b⟩:=h.sh.place hx l0 lh;rw[goneF_up hi,b.pI,b.pK,qE]
  split
  ·rename_i e;subst e;rw[hinv.off hpl ha t (by omega) (fun g=> ?_),b.gone];rw[hc1] at g;have e2:m=k0:=by omega
   subst e2;obtain⟨g1,g2⟩:=b.inj h.sh hat;subst g1;rcases hne with hne|hne
   ·exact hne hw.id
   ·exact hne g2
  ·rfl
 have kd:=t.kind';refine⟨l',hi,hl',⟨h.sh.up hi hke qC rfl,fun j hj=> ?_,h.clm,fun q j hq hj hz=> ?_,fun q j hq hj hz hzz=> ?_,h.dis,fun x hx hb lv l0 lh=> ?_,fun q hq hz lv l0 lh=> ?_⟩,off⟩
 ·dsimp only at hj ⊢;rw[upL_len] at hj
  by_cases e:i0=j
  ·subst e;rw[upL_eq hi,qf rfl];exact hl'
  ·rw[upL_ne e,qb (Qv e)];exact h.inv j hj
 ·dsimp only at hq hj hz ⊢;rw[upL_len] at hj;rw[hsk.plI] at hz
  by_cases e:i0=j
  ·subst e;rw[upL_eq hi];dsimp only
   by_cases e2:p=q
   ·subst e2;rcases hz with hz|hz
    ·exact absurd hz hk
    ·exact absurd hI hz
   ·rw[z2b e2];exact h.idl q i0 hq hj hz
  ·rw[upL_ne e];exact h.idl q j hq hj hz
 ·dsimp only at hq hj hz hzz ⊢;rw[upL_len] at hj;rw[hsk.plI] at hzz;rw[hsk.plK]
  by_cases e:i0=j
  ·subst e;rw[upL_eq hi];dsimp only
   by_cases e2:p=q
   ·subst e2;rw[z3i hpl,kd.1,kd.2.1];have:=h.cur p i0 hq hj hz hzz;exact⟨this.1,this.2.1,kd.2.2,hc4.step hinv hpl ha t⟩
   ·rw[z2b e2];obtain⟨g1,g2,g3,g4⟩:=h.cur q i0 hq hj hz hzz;refine⟨g1,g2,g3,g4.off (hinv.off hpl ha t ?_ ?_)⟩
    ·rw[g1];obtain⟨xq,iq,kq,wq,aq,_⟩:=h.stands hq hz;have:=aq.pK;rw[wq.id] at this;omega
    ·intro g;obtain⟨xq,wq⟩:=h.works hq hz;have e3:=h.sh.same wq.mm hw.mm wq.l0 wq.lh hw.l0 hw.lh (by rw[wq.id,hw.id,hzz,hI]) (by rw[wq.id,<-g1,g,hc1,hat.pK]);exact e2 (h.dis p q hp hq hk hz (by rw[<-wq.id,<-hw.id,e3.1]))
  ·rw[upL_ne e];exact h.cur q j hq hj hz hzz
 ·dsimp only at hx hb l0 lh ⊢;have hne:=z5c.1 hb p hp hk;rw[off x hx lv l0 lh (.inl (Qv hne)),off x hx 0 (by omega) (by have:=h.sh.h0;omega) (.inl (Qv hne))];exact h.lev x hx hb lv l0 lh
 ·dsimp only at hq hz l0 lh ⊢;obtain⟨xq,wq⟩:=h.works hq hz;have:=h.low q hq hz lv l0 lh
  by_cases e:lv=(cbA fo.cb q).lvl
  ·exact⟨fun g=>by omega,fun g=>by omega⟩
  ·have hg:=off xq wq.mm lv l0 lh (by
    by_cases e2:p=q
    ·subst e2;exact .inr e
    ·left;intro g;exact e2 (h.dis p q hp hq hk hz (by rw[<-wq.id,g])))
   rw[wq.id] at hg;rw[hg];exact this
theorem FI.begin (h:FI fo ls){p:Nat}(hp:p<fo.cb.length)(hr:∀i,i<fo.ly.length->z48 (pr (lyA fo.ly i).ps p)=false){c:Cb}{x:Nd}(hw:Works fo c x)
  (hn:∀q,q<fo.cb.length->q≠p->(cbA fo.cb q).kind≠0->(cbA fo.cb q).node≠c.node) (ho:(cbA fo.cb p).kind≠0->(cbA fo.cb p).node=c.node)
  (hg:goneF fo.ly c.node c.lvl=(c.kind==1)) (hl:∀lv,0<=lv->lv<=fo.ht->(lv<c.lvl->goneF fo.ly c.node lv=false)/\(c.lvl<lv->goneF fo.ly c.node lv=true)):
  beginE fo.ly p c=0/\FI {fo with ly:=beginL fo.ly p c,cb:=fo.cb.set p c} ls:=by
 obtain⟨i,k,a⟩:=h.sh.place hw.mm hw.l0 hw.lh;have hI:=a.pI;have hK:=a.pK;rw[hw.id] at hI hK;have hi:=a.hi;have hinv:=h.inv i hi;have hpl:p<(lyA fo.ly i).ps.length:=by rw[(h.sh.at_ i hi).pn];exact hp
 have hcel:=a.cel
 have he:z4v (lyA fo.ly i).cs (lyA fo.ly i).ps (p:Int) c.kind ((k:Int)+2)=0:=by
  unfold z4v;rw[hinv.vb]
  have h1:(decide ((p:Int)<0)||decide (((lyA fo.ly i).ps.length:Int)<=p))=false:=by
   rw[qi,qg,qg];omega
  have h2:(decide ((k:Int)+2<2)||decide (((lyA fo.ly i).cs.length:Int)<=k+2))=false:=by
   rw[qi,qg,qg];omega
  have h3:kindBad c.kind=false:=by
   rw[kindBad,qi,qg,qg];have:=hw.k;omega
  rw[h1,h2,h3,qE,hr i hi]
  rfl
 refine⟨by rw[beginE,hI,hK,qE];exact he,?_⟩;unfold beginL;rw[hI,hK,qE];have hinv':=hinv.start he;have hs:=startP_length (lyA fo.ly i).cs (lyA fo.ly i).ps (p:Int) c.kind ((k:Int)+2);have hst:startP (lyA fo.ly i).cs (lyA fo.ly i).ps (p:Int) c.kind ((k:Int)+2)=(lyA fo.ly i).ps.set p ⟨c.kind,(k:Int)+2,1,0,(cl (lyA fo.ly i).cs 0).right,0,false⟩:=by rw[startP,qE]
 have hsk:=skEq_up hi (lyA fo.ly i).cs (startP (lyA fo.ly i).cs (lyA fo.ly i).ps (p:Int) c.kind ((k:Int)+2))
 have gsame:∀id lv,goneF (upL fo.ly i (lyA fo.ly i).cs (startP (lyA fo.ly i).cs (lyA fo.ly i).ps (p:Int) c.kind ((k:Int)+2))) id lv=goneF fo.ly id lv:=fun id lv=>by
  rw[goneF_up hi]
  split
  ·rename_i e;rw[goneF,e]
  ·rfl
 have cset:∀q,cbA (fo.cb.set p c) q=if q=p then c else cbA fo.cb q:=fun q=>by
  split
  ·rename_i e;subst e;exact z4r hp
  ·rename_i e;exact cbA_set_ne (Qv e)
 have hck:c.kind≠0:=by have:=hw.k;omega
 refine⟨h.sh.up hi (.refl _) hs qC,fun j hj=> ?_,fun q hq=> ?_,fun q j hq hj hz=> ?_,fun q j hq hj hz hzz=> ?_,fun q r hq hr1 hz1 hz2 hz3=> ?_,fun y hy hb lv l0 lh=> ?_,fun q hq hz lv l0 lh=> ?_⟩
 ·dsimp only at hj ⊢;rw[upL_len] at hj
  by_cases e:i=j
  ·subst e;rw[upL_eq hi];exact hinv'
  ·rw[upL_ne e];exact h.inv j hj
 ·dsimp only at hq ⊢;rw[qC] at hq;rw[cset]
  split
  ·exact hw.ok
  ·exact h.clm q hq
 ·dsimp only at hq hj hz ⊢;rw[qC] at hq;rw[upL_len] at hj;rw[hsk.plI,cset] at hz
  by_cases e2:q=p
  ·subst e2;rw[qf rfl] at hz;rcases hz with hz|hz
   ·exact absurd hz hck
   ·rw[hI] at hz;rw[upL_ne (fun e=>hz (by rw[e]))];exact hr j hj
  ·rw[qb e2] at hz
   by_cases e:i=j
   ·subst e;rw[upL_eq hi];dsimp only;rw[hst,z2b (Qv e2)];exact h.idl q i hq hj hz
   ·rw[upL_ne e];exact h.idl q j hq hj hz
 ·dsimp only at hq hj hz hzz ⊢;rw[qC] at hq;rw[upL_len] at hj;rw[hsk.plI,cset] at hzz;rw[hsk.plK];rw[cset] at hz ⊢
  by_cases e2:q=p
  ·subst e2;rw[qf rfl] at hz hzz ⊢;have e:i=j:=by omega
   subst e;rw[upL_eq hi];dsimp only;rw[hst,z3i hpl,hK];refine⟨rfl,rfl,by dsimp only;decide,Own.start hw.k ?_⟩;rw[<-hg,<-hw.id,a.gone]
  ·rw[qb e2] at hz hzz ⊢
   by_cases e:i=j
   ·subst e;rw[upL_eq hi];dsimp only;rw[hst,z2b (Qv e2)];exact h.cur q i hq hj hz hzz
   ·rw[upL_ne e];exact h.cur q j hq hj hz hzz
 ·dsimp only at hq hr1 hz1 hz2 hz3;rw[qC] at hq hr1;rw[cset] at hz1 hz3;rw[cset] at hz2 hz3
  by_cases e1:q=p
  ·by_cases e2:r=p
   ·rw[e1,e2]
   ·rw[qf e1,qb e2] at hz3;rw[qb e2] at hz2;exact absurd hz3.symm (hn r hr1 e2 hz2)
  ·rw[qb e1] at hz1
   by_cases e2:r=p
   ·rw[qb e1,qf e2] at hz3;exact absurd hz3 (hn q hq e1 hz1)
   ·rw[qb e1,qb e2] at hz3;rw[qb e2] at hz2;exact h.dis q r hq hr1 hz1 hz2 hz3
 ·dsimp only at hy hb l0 lh ⊢;rw[gsame,gsame];refine h.lev y hy (z5c.2 fun q hq hz=> ?_) lv l0 lh;have hb1:=z5c.1 hb;rw[qC] at hb1
  by_cases e:q=p
  ·subst e;have:=hb1 q hq;rw[cset,qf rfl] at this;rw[ho hz];exact this hck
  ·have:=hb1 q hq;rw[cset,qb e] at this;exact this hz
 ·dsimp only at hq hz l0 lh ⊢;rw[qC] at hq;rw[gsame];rw[cset] at hz ⊢
  split
  ·exact hl lv l0 lh
  ·rename_i e;rw[qb e] at hz;exact h.low q hq hz lv l0 lh
theorem FI.finish (h:FI fo ls){p:Nat}(hp:p<fo.cb.length)(hk:(cbA fo.cb p).kind≠0)(hr:∀i,i<fo.ly.length->z48 (pr (lyA fo.ly i).ps p)=false)
  (hg:∀lv,0<=lv->lv<=fo.ht->goneF fo.ly (cbA fo.cb p).node lv=((cbA fo.cb p).kind==2)):FI {fo with cb:=fo.cb.set p noCb} ls:=by
 have cset:∀q,cbA (fo.cb.set p noCb) q=if q=p then noCb else cbA fo.cb q:=fun q=>by
  split
  ·rename_i e;subst e;exact z4r hp
  ·rename_i e;exact cbA_set_ne (Qv e)
 refine⟨h.sh.cbs qC,h.inv,fun q hq=> ?_,fun q j hq hj hz=> ?_,fun q j hq hj hz hzz=> ?_,fun q r hq hr1 hz1 hz2 hz3=> ?_,fun y hy hb lv l0 lh=> ?_,fun q hq hz lv l0 lh=> ?_⟩
 ·dsimp only at hq ⊢;rw[qC] at hq;rw[cset]
  split
  ·rfl
  ·exact h.clm q hq
 ·dsimp only at hq hj hz ⊢;rw[qC] at hq
  by_cases e:q=p
  ·subst e;exact hr j hj
  ·rw[cset,qb e] at hz;exact h.idl q j hq hj hz
 ·dsimp only at hq hj hz hzz ⊢;rw[qC] at hq;rw[cset] at hz hzz ⊢
  by_cases e:q=p
  ·rw[qf e] at hz;exact absurd rfl hz
  ·rw[qb e] at hz hzz ⊢;exact h.cur q j hq hj hz hzz
 ·dsimp only at hq hr1 hz1 hz2 hz3;rw[qC] at hq hr1;rw[cset] at hz1 hz2;have e1:q≠p:=fun e=>by rw[qf e] at hz1;exact hz1 rfl
  have e2:r≠p:=fun e=>by rw[qf e] at hz2;exact hz2 rfl
  rw[cset,cset,qb e1,qb e2] at hz3;rw[qb e1] at hz1;rw[qb e2] at hz2;exact h.dis q r hq hr1 hz1 hz2 hz3
 ·dsimp only at hy hb l0 lh ⊢
  by_cases e:y.id=(cbA fo.cb p).node
  ·rw[e,hg lv l0 lh,hg 0 (JI _) h.sh.h0]
  ·refine h.lev y hy (z5c.2 fun q hq hz=> ?_) lv l0 lh;have hb1:=z5c.1 hb;rw[qC] at hb1
   by_cases e2:q=p
   ·subst e2;exact fun g=>e g.symm
   ·have:=hb1 q hq;rw[cset,qb e2] at this;exact this hz
 ·dsimp only at hq hz l0 lh ⊢;rw[qC] at hq;rw[cset] at hz ⊢;have e1:q≠p:=fun e=>by rw[qf e] at hz;exact hz rfl
  rw[qb e1] at hz ⊢;exact h.low q hq hz lv l0 lh
end
end
section
def sumR (f:Nat->Nat):Nat->Nat
 |0=>0
 |n+1=>sumR f n+f n
theorem sumR_congr {f g:Nat->Nat}:∀{n:Nat},(∀i,i<n->g i=f i)->sumR g n=sumR f n
 |0,_=>rfl
 |n+1,h=>by rw[sumR,sumR,sumR_congr fun i hi=>h i (by omega),h n (by omega)]
theorem sumR_le {f g:Nat->Nat}:∀{n:Nat},(∀i,i<n->g i<=f i)->sumR g n<=sumR f n
 |0,_=>qd _
 |n+1,h=>by have:=sumR_le (f:=f) (g:=g) (n:=n) fun i hi=>h i (by omega);have:=h n (by omega);simp only[sumR];omega
theorem sumR_one {f g:Nat->Nat}{i:Nat}:∀{n:Nat},i<n->(∀j,j<n->j≠i->g j=f j)->sumR g n+f i=sumR f n+g i
 |n+1,hi,h=>by
  simp only[sumR]
  by_cases e:i=n
  ·subst e;rw[sumR_congr (f:=f) (g:=g) fun j hj=>h j (by omega) (by omega)];omega
  ·have:=sumR_one (n:=n) (by omega) fun j hj hne=>h j (by omega) hne;rw[h n (by omega) (Qv e)];omega
theorem sumR_add (f g:Nat->Nat):∀n,sumR (fun i=>f i+g i) n=sumR f n+sumR g n
 |0=>rfl
 |n+1=>by simp only[sumR];rw[sumR_add f g n];omega
theorem actN_sum (ps:List Pr):∀n,actN ps n=sumR (fun i=>(z48 (pr ps i)).toNat) n
 |0=>rfl
 |n+1=>by
  simp only[actN,sumR];rw[actN_sum ps n]
  cases z48 (pr ps n)<;>rfl
def futB (L:List Ly)(c:Cb)(i:Nat):Bool:=decide (plI L c.node (lyA L i).lvl=i) && ((c.kind==1 && decide (c.lvl<(lyA L i).lvl))||(c.kind==2 && decide ((lyA L i).lvl<c.lvl)))
def futN (L:List Ly)(C:List Cb)(i:Nat):Nat:=sumR (fun p=>(futB L (cbA C p) i).toNat) C.length
def rem (ht:Int)(c:Cb):Nat:=(if c.kind=1 then ht-c.lvl else c.lvl).toNat
def wC (ht:Int)(k:Nat)(c:Cb):Nat:=if c.kind=0 then 0 else rem ht c*k+1
def Phi (fo:Fo)(ls:Nat->List Int)(k:Nat):Nat:=sumR (fun i=>phiE (lyA fo.ly i).cs (lyA fo.ly i).ps (ls i) (futN fo.ly fo.cb i)) fo.ly.length+sumR (fun p=>wC fo.ht k (cbA fo.cb p)) fo.cb.length
def busyN (C:List Cb):Nat:=sumR (fun p=>((cbA C p).kind !=0).toNat) C.length
theorem futB_sk {L L':List Ly}(h:SkEq L L')(c:Cb)(i:Nat):futB L' c i=futB L c i:=by rw[futB,futB,h.plI,h.lvl]
theorem futN_sk {L L':List Ly}(h:SkEq L L')(C:List Cb)(i:Nat):futN L' C i=futN L C i:=by simp only[futN,futB_sk h]
theorem futB_kind {L:List Ly}{c:Cb}{i:Nat}(h:futB L c i=true):c.kind≠0:=by
 intro e;simp[futB,e] at h
section
variable {fo:Fo} {ls:Nat->List Int}
theorem FI.crowd (h:FI fo ls){i:Nat}(hi:i<fo.ly.length):actN (lyA fo.ly i).ps (lyA fo.ly i).ps.length+futN fo.ly fo.cb i<=busyN fo.cb:=by
 rw[(h.sh.at_ i hi).pn,actN_sum,futN,<-sumR_add,busyN];refine sumR_le fun p hp=> ?_
 by_cases hk:(cbA fo.cb p).kind=0
 ·rw[h.idl p i hp hi (.inl hk)]
  cases g:futB fo.ly (cbA fo.cb p) i with
  |false=>simp
  |true=>exact absurd hk (futB_kind g)
 ·have e:((cbA fo.cb p).kind !=0)=true:=by simpa using hk
  rw[e]
  by_cases hI:plI fo.ly (cbA fo.cb p).node (cbA fo.cb p).lvl=i
  ·obtain⟨x,j,k,hw,ha,_⟩:=h.stands hp hk;have hj:j=i:=by have:=ha.pI;rw[hw.id] at this;omega
   subst hj
   have g:futB fo.ly (cbA fo.cb p) j=false:=by
    unfold futB;rw[ha.lvl];simp
   rw[g]
   cases z48 (pr (lyA fo.ly j).ps p)<;>decide
  ·rw[h.idl p i hp hi (.inr hI)]
   cases futB fo.ly (cbA fo.cb p) i<;>decide
theorem Fsh.small (h:Fsh fo){i:Nat}(hi:i<fo.ly.length):(lyA fo.ly i).cs.length<=fo.ns.length+2:=by
 rw[(h.at_ i hi).len];have:=(h.sub hi).length_le;rw[<-(z2f fo.ns).length_eq] at this;omega
def stepsN (fo:Fo)(M:Nat):Nat:=(M+1)*(fo.ns.length+7)+7
theorem FI.layer_phi (h:FI fo ls){p:Nat}(hp:p<fo.cb.length){i:Nat}(hi:i<fo.ly.length)(ha:z48 (pr (lyA fo.ly i).ps p)=true){ds:List Cl}{y:Pr}(t:Tr (lyA fo.ly i).cs p (pr (lyA fo.ly i).ps p) ds y){l':List Int}(hl:Inv ds ((lyA fo.ly i).ps.set p y) l')(k:Nat):
  Phi {fo with ly:=upL fo.ly i ds ((lyA fo.ly i).ps.set p y)} (fun j=>if j=i then l' else ls j) k+1<=Phi fo ls k:=by
 have hpl:p<(lyA fo.ly i).ps.length:=by rw[(h.sh.at_ i hi).pn];exact hp
 have hsk:=skEq_up hi ds ((lyA fo.ly i).ps.set p y);have h1:=phiE_step (h.inv i hi) hpl ha t hl (futN fo.ly fo.cb i);unfold Phi
 try dsimp only
 rw[upL_len]
 have h2:=sumR_one (f:=fun j=>phiE (lyA fo.ly j).cs (lyA fo.ly j).ps (ls j) (futN fo.ly fo.cb j)) (g:=fun j=>phiE (lyA (upL fo.ly i ds ((lyA fo.ly i).ps.set p y)) j).cs (lyA (upL fo.ly i ds ((lyA fo.ly i).ps.set p y)) j).ps (if j=i then l' else ls j) (futN (upL fo.ly i ds ((lyA fo.ly i).ps.set p y)) fo.cb j)) hi fun j hj hne=>by
  try dsimp only
  rw[futN_sk hsk,upL_ne (Qv hne),qb hne]
 try dsimp only at h2
 rw[futN_sk hsk,upL_eq hi,qf rfl] at h2
 try dsimp only at h2
 omega
theorem phiE_mono {cs:List Cl}{ps:List Pr}{l:List Int}{e e':Nat}(h:e<=e'):phiE cs ps l e<=phiE cs ps l e':=by
 unfold phiE;have:=qT (cs.length+5) (qT (actN ps ps.length) h);omega
theorem FI.finish_phi {p:Nat}(hp:p<fo.cb.length)(hk:(cbA fo.cb p).kind≠0)(k:Nat):Phi {fo with cb:=fo.cb.set p noCb} ls k+1<=Phi fo ls k:=by
 have cset:∀q,cbA (fo.cb.set p noCb) q=if q=p then noCb else cbA fo.cb q:=fun q=>by
  split
  ·rename_i e;subst e;exact z4r hp
  ·rename_i e;exact cbA_set_ne (Qv e)
 unfold Phi
 try dsimp only
 rw[qC]
 have h1:sumR (fun i=>phiE (lyA fo.ly i).cs (lyA fo.ly i).ps (ls i) (futN fo.ly (fo.cb.set p noCb) i)) fo.ly.length<=sumR (fun i=>phiE (lyA fo.ly i).cs (lyA fo.ly i).ps (ls i) (futN fo.ly fo.cb i)) fo.ly.length:=
  sumR_le fun i _=>phiE_mono (by
   unfold futN;rw[qC];refine sumR_le fun q _=> ?_;rw[cset]
   split
   ·rw[show futB fo.ly noCb i=false by simp[futB,noCb]];exact qp _
   ·exact qd _)
 have h2:=sumR_one (f:=fun q=>wC fo.ht k (cbA fo.cb q)) (g:=fun q=>wC fo.ht k (cbA (fo.cb.set p noCb) q)) hp fun j _ hne=>by(try dsimp only);rw[cset,qb hne]
 try dsimp only at h2
 rw[cset,qf rfl,show wC fo.ht k noCb=0 from rfl] at h2;have h3:1<=wC fo.ht k (cbA fo.cb p):=by unfold wC;rw[qb hk];omega
 omega
theorem FI.climb_phi (h:FI fo ls){p:Nat}(hp:p<fo.cb.length)(hk:(cbA fo.cb p).kind≠0)(hr:∀i,i<fo.ly.length->z48 (pr (lyA fo.ly i).ps p)=false){x:Nd}(hw:Works fo (nxC (cbA fo.cb p)) x){M:Nat}(hM:busyN fo.cb<=M):
  Phi {fo with ly:=beginL fo.ly p (nxC (cbA fo.cb p)),cb:=fo.cb.set p (nxC (cbA fo.cb p))} ls (stepsN fo M)+1<=Phi fo ls (stepsN fo M):=by
 obtain⟨c0,hc0⟩:∃c0,cbA fo.cb p=c0:=⟨_,rfl⟩;obtain⟨x0,hw0⟩:=h.works hp hk;rw[hc0] at hw hw0 hk ⊢;obtain⟨c,hc⟩:∃c,nxC c0=c:=⟨_,rfl⟩;have hcn:c.node=c0.node:=by subst hc;unfold nxC;split<;>rfl
 have hck:c.kind=c0.kind:=by subst hc;unfold nxC;split<;>rfl
 have hcl:c.lvl=if c0.kind=1 then c0.lvl+1 else c0.lvl-1:=by subst hc;unfold nxC;split<;>rfl
 rw[hc] at hw ⊢;obtain⟨i,k,a⟩:=h.sh.place hw.mm hw.l0 hw.lh;have hI:=a.pI;have hK:=a.pK;rw[hw.id] at hI hK;have hi:=a.hi;have hpl:p<(lyA fo.ly i).ps.length:=by rw[(h.sh.at_ i hi).pn];exact hp
 unfold beginL;rw[hI,hK,qE];have hst:startP (lyA fo.ly i).cs (lyA fo.ly i).ps (p:Int) c.kind ((k:Int)+2)=(lyA fo.ly i).ps.set p ⟨c.kind,(k:Int)+2,1,0,(cl (lyA fo.ly i).cs 0).right,0,false⟩:=by rw[startP,qE]
 rw[hst];obtain⟨qs,hqs⟩:∃qs,(lyA fo.ly i).ps.set p ⟨c.kind,(k:Int)+2,1,0,(cl (lyA fo.ly i).cs 0).right,0,false⟩=qs:=⟨_,rfl⟩;rw[hqs];have hsk:=skEq_up hi (lyA fo.ly i).cs qs
 have cset:∀q,cbA (fo.cb.set p c) q=if q=p then c else cbA fo.cb q:=fun q=>by
  split
  ·rename_i e;subst e;exact z4r hp
  ·rename_i e;exact cbA_set_ne (Qv e)
 have fut1:futB fo.ly c0 i=true:=by
  unfold futB;rw[a.lvl,<-hcn,hI,hcl];have:=hw0.k;rcases this with g|g<;>simp[g]<;>omega
 have fut2:futB fo.ly c i=false:=by
  unfold futB;rw[a.lvl];simp
 have fut3:∀j,j<fo.ly.length->j≠i->futB fo.ly c j=futB fo.ly c0 j:=fun j hj hne=>by
  unfold futB;rw[hcn,hck]
  by_cases g:plI fo.ly c0.node (lyA fo.ly j).lvl=j
  ·have g2:(lyA fo.ly j).lvl≠c.lvl:=fun e=>by rw[e,<-hcn,hI] at g;omega
   rw[hcl] at g2 ⊢;rcases hw0.k with e|e
   ·rw[qf e] at g2 ⊢;rw[e];simp only[j6,Qb];rw[show decide (c0.lvl+1<(lyA fo.ly j).lvl)=decide (c0.lvl<(lyA fo.ly j).lvl) by rw[Jx];omega]
    rfl
   ·rw[qb (by omega)] at g2 ⊢;rw[e];simp only[j6,Qb];rw[show decide ((lyA fo.ly j).lvl<c0.lvl-1)=decide ((lyA fo.ly j).lvl<c0.lvl) by rw[Jx];omega]
    rfl
  ·rw[qJ g];rfl
 have futs:∀j,futN (upL fo.ly i (lyA fo.ly i).cs qs) (fo.cb.set p c) j+(futB fo.ly c0 j).toNat=futN fo.ly fo.cb j+(futB fo.ly c j).toNat:=fun j=>by
  rw[futN_sk hsk];unfold futN;rw[qC];have:=sumR_one (f:=fun q=>(futB fo.ly (cbA fo.cb q) j).toNat) (g:=fun q=>(futB fo.ly (cbA (fo.cb.set p c) q) j).toNat) hp fun q _ hne=>by(try dsimp only);rw[cset,qb hne]
  try dsimp only at this
  rw[cset,qf rfl,hc0] at this;exact this
 have fi:=futs i;rw[fut1,fut2] at fi;simp only[Bool.toNat_true,Bool.toNat_false,QR] at fi;have hcrowd:=h.crowd hi;have hlen:=h.sh.small hi;have hphi:=phiE_start (h.inv i hi) hpl (hr i hi) (k:=c.kind) (c:=(k:Int)+2) hw.k (futN (upL fo.ly i (lyA fo.ly i).cs qs) (fo.cb.set p c) i);rw[hqs,fi] at hphi;unfold Phi
 try dsimp only
 rw[upL_len,qC]
 have h2:=sumR_one (f:=fun j=>phiE (lyA fo.ly j).cs (lyA fo.ly j).ps (ls j) (futN fo.ly fo.cb j)) (g:=fun j=>phiE (lyA (upL fo.ly i (lyA fo.ly i).cs qs) j).cs (lyA (upL fo.ly i (lyA fo.ly i).cs qs) j).ps (ls j) (futN (upL fo.ly i (lyA fo.ly i).cs qs) (fo.cb.set p c) j)) hi fun j hj hne=>by
  try dsimp only
  have:=futs j;rw[fut3 j hj hne] at this;rw[upL_ne (Qv hne),show futN (upL fo.ly i (lyA fo.ly i).cs qs) (fo.cb.set p c) j=futN fo.ly fo.cb j by omega]
 have h3:=sumR_one (f:=fun q=>wC fo.ht (stepsN fo M) (cbA fo.cb q)) (g:=fun q=>wC fo.ht (stepsN fo M) (cbA (fo.cb.set p c) q)) hp fun j _ hne=>by(try dsimp only);rw[cset,qb hne]
 try dsimp only at h2 h3
 rw[upL_eq hi] at h2
 try dsimp only at h2
 rw[cset,qf rfl,hc0] at h3;have hck':c.kind≠0:=by rw[hck];exact hk
 have w0:wC fo.ht (stepsN fo M) c0=wC fo.ht (stepsN fo M) c+stepsN fo M:=by
  unfold wC;rw[qb hk,qb hck']
  have:rem fo.ht c0=rem fo.ht c+1:=by
   unfold rem;rw[hck,hcl];have:=hw0.l0;have:=hw0.lh;have:=hw.l0;have:=hw.lh;rw[hcl] at*;rcases hw0.k with g|g
   ·rw[qf g] at*;rw[qf g];omega
   ·rw[qb (by omega)] at*;rw[qb (by omega)];omega
  rw[this,qV,jp];omega
 have hb:(actN (lyA fo.ly i).ps (lyA fo.ly i).ps.length+futN (upL fo.ly i (lyA fo.ly i).cs qs) (fo.cb.set p c) i)*((lyA fo.ly i).cs.length+5)+(lyA fo.ly i).cs.length+9+1<=stepsN fo M:=by
  have g1:=j0 (show actN (lyA fo.ly i).ps (lyA fo.ly i).ps.length+futN (upL fo.ly i (lyA fo.ly i).cs qs) (fo.cb.set p c) i<=M by omega) (show(lyA fo.ly i).cs.length+5<=fo.ns.length+7 by omega);have:stepsN fo M=M*(fo.ns.length+7)+fo.ns.length+14:=by unfold stepsN;rw[qV,jp];omega
  omega
 omega
end
end
section
def lvlL (ns:List Nd)(h:Nat):List (Int×List Int):=(List.range (h+1)).flatMap fun(n:Nat)=>(lstN ns (n:Int)).map fun ids=>((n:Int),ids)
def lvA (S:List (Int×List Int))(i:Nat):Int×List Int:=S.getD i (0,[])
def shpB (ns:List Nd)(x:Ly)(lv:Int)(ids:List Int):Bool:=
 x.lvl==lv && decide (x.ids=ids) && decide (x.cs.length=ids.length+2) && !anyB ids.length fun i=>(!sEq (cl x.cs (i+2)).key (findN ns (nth ids i)).key)||(decide (i=0) && x.wd !=(findN ns (nth ids i)).word)
def headF (fo:Fo):Bool:=(z1o fo.ns !=0)||decide (fo.ht<0)||decide (16<fo.ht)||decide ((fo.cb.length:Int)<1)||decide (8<(fo.cb.length:Int))
def z5j (fo:Fo):Bool:=
 !headF fo && decide (fo.ly.length=(lvlL fo.ns fo.ht.toNat).length) && !anyB fo.ly.length (fun i=> !shpB fo.ns (lyA fo.ly i) (lvA (lvlL fo.ns fo.ht.toNat) i).1 (lvA (lvlL fo.ns fo.ht.toNat) i).2)
  && !anyB fo.ly.length (fun i=> !z2w (lyA fo.ly i).cs (lyA fo.ly i).ps||decide ((lyA fo.ly i).ps.length≠fo.cb.length)) && !anyB fo.cb.length fun p=> !cbOk fo.ns fo.ht (cbA fo.cb p)
theorem lvlL_eq {ns:List Nd}(hc:z1o ns=0){h:Nat}(h16:h<=16):lvlL ns h=(z3n ns h).map fun s=>(s.1,s.2.map (·.id)):=by
 unfold lvlL z3n;rw[List.map_flatMap]
 have:∀l:List Nat,(∀n∈l,n<=16)->l.flatMap (fun(n:Nat)=>(lstN ns (n:Int)).map fun ids=>((n:Int),ids))=l.flatMap fun(n:Nat)=>((z4t (z52 ns) (n:Int)).map fun c=>((n:Int),c)).map fun s=>(s.1,s.2.map (·.id)):=fun l=>by
  induction l with
  |nil=>intro _;rfl
  |cons n l ih=>
   intro hl;rw[JS,JS,ih fun m hm=>hl m (qo _ hm),lstN,qf ⟨hc,by omega,by have:=hl n (qm ..);omega⟩,lstG];simp[jZ,Function.comp_def]
 exact this _ fun n hn=>by rw[Qt] at hn;omega
theorem findN_at {ns:List Nd}(hc:z1o ns=0){x:Nd}(hx:x∈ns):findN ns x.id=x:=by
 obtain⟨i,hi,rfl⟩:=Qe hx;have hd:=ids_nodup hc;have h0:=findI_of hx
 obtain⟨j,hj,e,hjx⟩:∃j:Nat,j<ns.length/\z44 ns (ns[i]).id=j/\(nd ns j).id=(ns[i]).id:=by
  rcases z3b ns.length fun q=>decide ((nd ns q).id=(ns[i]).id) with⟨h1,_⟩|⟨j,h1,h2,h3,_⟩
  ·unfold z44 at h0;omega
  ·exact⟨j,h2,h1,jt h3⟩
 rw[findN,e,qb (by omega),qE];exact ids_inj hc (nd_mem hj) hx hjx
structure FV (fo:Fo):Prop where
 sh:Fsh fo
 vb:∀i,i<fo.ly.length->z2w (lyA fo.ly i).cs (lyA fo.ly i).ps=true
 cb:∀p,p<fo.cb.length->cbOk fo.ns fo.ht (cbA fo.cb p)=true
theorem shpB_iff {ns:List Nd}(hc:z1o ns=0){x:Ly}{lv:Int}{c:List Nd}(hs:∀y∈c,y∈ns)(hne:c≠[]):shpB ns x lv (c.map (·.id))=true↔x.lvl=lv/\x.ids=c.map (·.id)/\x.cs.length=c.length+2/\(∀k,k<c.length->(cl x.cs (k+2)).key=(nd c k).key)/\x.wd=(hdN c).word:=by
 have hf:∀k,k<c.length->findN ns (nth (c.map (·.id)) k)=nd c k:=fun k hk=>by
  rw[z2v (by rw[qB];exact hk),j4,z51 hk];exact findN_at hc (hs _ (qM hk))
 have hl:0<c.length:=by cases c with
  |nil=>exact absurd rfl hne
  |cons _ _=>exact QZ _
 rw[shpB];simp only[qh,qy,qj,qk,anyB_iff,qB,qi,qq,sEq_iff,qv,qu]
 constructor
 ·rintro⟨⟨⟨h1,h2⟩,h3⟩,h4⟩;refine⟨h1,h2,h3,fun k hk=> ?_,?_⟩
  ·have:=(h4 k hk).1;rw[hf k hk] at this;exact this
  ·have:=(h4 0 hl).2 rfl;rw[hf 0 hl] at this;exact this
 ·rintro⟨h1,h2,h3,h4,h5⟩;refine⟨⟨⟨h1,h2⟩,h3⟩,fun k hk=>⟨by rw[hf k hk];exact h4 k hk,fun e=> ?_⟩⟩;subst e;rw[hf 0 hk];exact h5
theorem headF_false {fo:Fo}:headF fo=false↔z1o fo.ns=0/\(0<=fo.ht/\fo.ht<=16)/\1<=fo.cb.length/\fo.cb.length<=8:=by
 simp only[headF,qi,qg,qu];omega
theorem lvA_eq {ns:List Nd}(hc:z1o ns=0){h:Nat}(h16:h<=16){i:Nat}(hi:i<(z3n ns h).length):lvA (lvlL ns h) i=((shA (z3n ns h) i).1,(shA (z3n ns h) i).2.map (·.id)):=by
 rw[lvlL_eq hc h16,shA_lt hi,lvA,qx,qK (by rw[qB];exact hi)];simp
theorem shpL_sub {ns:List Nd}{h:Nat}(h16:h<=16){i:Nat}(hi:i<(z3n ns h).length):(∀y∈(shA (z3n ns h) i).2,y∈ns)/\(shA (z3n ns h) i).2≠[]:=by
 rw[shA_lt hi];obtain⟨n,h1,h2,h3⟩:=mem_shpL.1 (qM (l:=z3n ns h) (n:=i) hi);exact⟨fun y hy=>(z2f ns).mem_iff.2 ((cls_sub (by omega) h3).subset hy),(clsN_ok (by omega) _).1.ne _ h3⟩
theorem FV.vf {fo:Fo}:FV fo->z5j fo=true:=by
 rintro⟨h,hv,hc⟩;simp only[z5j,qh,qk,qj,headF_false];have h16:fo.ht.toNat<=16:=by have:=h.h16;omega
 refine⟨⟨⟨⟨⟨h.ck,⟨h.h0,h.h16⟩,h.m1,h.m8⟩,?_⟩,?_⟩,?_⟩,?_⟩
 ·rw[lvlL_eq h.ck h16,qB];exact h.len
 ·rw[anyB_iff];intro i hi;have hi':i<(z3n fo.ns fo.ht.toNat).length:=by rw[<-h.len];exact hi
  obtain⟨s1,s2⟩:=shpL_sub h16 hi';have hA:=h.at_ i hi;rw[lvA_eq h.ck h16 hi',qq,shpB_iff h.ck s1 s2];exact⟨hA.lvl,hA.ids,hA.len,hA.key,hA.wd⟩
 ·rw[anyB_iff];intro i hi;rw[hv i hi,(h.at_ i hi).pn];simp
 ·rw[anyB_iff];intro p hp;rw[hc p hp];rfl
theorem FI.vf {fo:Fo}{ls:Nat->List Int}(h:FI fo ls):z5j fo=true:=FV.vf ⟨h.sh,fun i hi=>(h.inv i hi).vb,h.clm⟩
def inC (C:List Cb)(p:Int):Bool:= !(decide (p<0)||decide ((C.length:Int)<=p))
def begC (ht kind id:Int):Cb:=⟨kind,id,if kind=2 then ht else 0⟩
def z2t (fo:Fo)(p kind id:Int):Int:=
 if !z5j fo then 1 else if !inC fo.cb p then 2 else if z44 fo.ns id<0 then 6 else if kind≠1/\kind≠2 then 1 else if(cbA fo.cb p.toNat).kind≠0 then 7
 else if busyF fo.cb id then 13 else if kind=1/\memF fo.ly id 0=true then 5 else if kind=2/\memF fo.ly id 0=false then 18 else beginE fo.ly p (begC fo.ht kind id)
def z1u (fo:Fo)(p kind id:Int):Fo:=if z2t fo p kind id=0 then {fo with ly:=beginL fo.ly p (begC fo.ht kind id),cb:=fo.cb.set p.toNat (begC fo.ht kind id)} else noFo
def curI (fo:Fo)(p:Int):Nat:=(plI fo.ly (cbA fo.cb p.toNat).node (cbA fo.cb p.toNat).lvl).toNat
def endB (fo:Fo)(p:Int):Bool:=(pr (lyA fo.ly (curI fo p)).ps p.toNat).phase==18
def outB (ht:Int)(c:Cb):Bool:=decide (c.lvl<0)||decide (ht<c.lvl)
def stepFB (fo:Fo)(p:Int):Bool:=
 z5j fo && (inC fo.cb p && (cbA fo.cb p.toNat).kind !=0) && (if endB fo p then outB fo.ht (nxC (cbA fo.cb p.toNat))||beginE fo.ly p (nxC (cbA fo.cb p.toNat))==0 else stepOk (lyA fo.ly (curI fo p)).cs (lyA fo.ly (curI fo p)).ps p)
def stepFR (fo:Fo)(p:Int):Fo:=
 if !z5j fo then noFo else if stepFB fo p then
  (if endB fo p then(if outB fo.ht (nxC (cbA fo.cb p.toNat)) then {fo with cb:=fo.cb.set p.toNat noCb} else {fo with ly:=beginL fo.ly p (nxC (cbA fo.cb p.toNat)),cb:=fo.cb.set p.toNat (nxC (cbA fo.cb p.toNat))})
   else {fo with ly:=upL fo.ly (curI fo p) (stepR (lyA fo.ly (curI fo p)).cs (lyA fo.ly (curI fo p)).ps p).1 (stepR (lyA fo.ly (curI fo p)).cs (lyA fo.ly (curI fo p)).ps p).2}) else fo
section
variable {fo:Fo} {ls:Nat->List Int}
theorem memF_at {x:Nd}{lv:Int}{i k:Nat}(a:At fo x lv i k):memF fo.ly x.id lv= !gn (lyA fo.ly i).cs (k+2):=by
 rw[memF,a.pI,a.gone,qG (by omega),Qb]
theorem memF_gone (h:Fsh fo){x:Nd}(hx:x∈fo.ns){lv:Int}(l0:0<=lv)(lh:lv<=fo.ht):memF fo.ly x.id lv= !goneF fo.ly x.id lv:=by
 obtain⟨i,k,a⟩:=h.place hx l0 lh;rw[memF_at a,a.gone]
theorem inC_iff {C:List Cb}{p:Int}:inC C p=true↔0<=p/\p<C.length:=by
 simp only[inC,qk,qi,qg];omega
structure Sok (fo:Fo) (p kind id:Int) (x:Nd):Prop where
 p0:0<=p
 pl:p.toNat<fo.cb.length
 k:kind=1\/kind=2
 mm:x∈fo.ns
 ide:x.id=id
 idle:(cbA fo.cb p.toNat).kind=0
 free:busyF fo.cb id=false
 mem:memF fo.ly id 0=(kind==2)
theorem FI.sok (h:FI fo ls){p kind id:Int}(he:z2t fo p kind id=0):∃x,Sok fo p kind id x:=by
 unfold z2t at he;rw[h.vf] at he;simp only[Qn,qF,Qw] at he
 split at he
 ·cases he
 rename_i h1
 split at he
 ·cases he
 rename_i h2
 split at he
 ·cases he
 rename_i h3
 split at he
 ·cases he
 rename_i h4
 split at he
 ·cases he
 rename_i h5
 split at he
 ·cases he
 rename_i h6
 split at he
 ·cases he
 rename_i h7;have h1:inC fo.cb p=true:=by simpa using h1
 rw[inC_iff] at h1;obtain⟨x,hx,hxi⟩:=findI_mem (by omega:0<=z44 fo.ns id);refine⟨x,h1.1,by omega,by omega,hx,hxi,by omega,by simpa using h5,?_⟩
 cases hm:memF fo.ly id 0 with
 |true=>
  have:kind≠1:=fun e=>h6 ⟨e,hm⟩;have:kind=2:=by omega
  subst this;rfl
 |false=>
  have:kind≠2:=fun e=>h7 ⟨e,hm⟩
  symm;simpa using this
theorem FI.start_begin (h:FI fo ls){p kind id:Int}{x:Nd}(s:Sok fo p kind id x):beginE fo.ly p (begC fo.ht kind id)=0/\FI {fo with ly:=beginL fo.ly p (begC fo.ht kind id),cb:=fo.cb.set p.toNat (begC fo.ht kind id)} ls:=by
 have h0:=h.sh.h0;have hp:((p.toNat:Nat):Int)=p:=by have:=s.p0;omega
 have hfree:=z5c.1 s.free;have hm:=memF_gone h.sh s.mm (JI 0) h0;rw[s.ide,s.mem] at hm
 have hlev:∀lv,0<=lv->lv<=fo.ht->goneF fo.ly id lv=(kind==1):=fun lv l0 lh=>by
  have:=h.lev x s.mm (by rw[s.ide];exact s.free) lv l0 lh;rw[s.ide] at this;rw[this];rcases s.k with e|e<;>subst e<;>cases g:goneF fo.ly id 0<;>simp_all
 have hb:(begC fo.ht kind id).kind=kind:=rfl;have hbn:(begC fo.ht kind id).node=id:=rfl;have hbl:(begC fo.ht kind id).lvl=if kind=2 then fo.ht else 0:=rfl
 have:=h.begin (p:=p.toNat) s.pl (fun i hi=>h.idl p.toNat i s.pl hi (.inl s.idle)) (c:=begC fo.ht kind id) (x:=x)
  ⟨s.k,s.mm,s.ide,by rw[hbl];split<;>omega,by rw[hbl];split<;>omega⟩ (fun q hq _ hk=>hfree q hq hk) (fun e=>absurd s.idle e)
  (hlev _ (by rw[hbl];split<;>omega) (by rw[hbl];split<;>omega))
  (fun lv l0 lh=>by
   rw[hbl,hbn,hlev lv l0 lh];rcases s.k with e|e<;>subst e
   ·rw[qb (by decide)];exact⟨fun g=>by omega,fun _=>rfl⟩
   ·rw[qf rfl];exact⟨fun _=>rfl,fun g=>by omega⟩)
 rw[hp] at this;exact this
theorem FI.start (h:FI fo ls){p kind id:Int}(he:z2t fo p kind id=0):FI (z1u fo p kind id) ls:=by
 obtain⟨x,s⟩:=h.sok he;rw[z1u,qf he];exact(h.start_begin s).2
theorem FI.step (h:FI fo ls){p:Int}(hs:stepFB fo p=true){M:Nat}(hM:busyN fo.cb<=M):∃ls',FI (stepFR fo p) ls'/\Phi (stepFR fo p) ls' (stepsN fo M)+1<=Phi fo ls (stepsN fo M):=by
 have hs0:=hs;unfold stepFB at hs;rw[h.vf,Qb,qh,qh,inC_iff,qX] at hs;obtain⟨⟨⟨p0,pl⟩,hk⟩,hs⟩:=hs;have hp:p.toNat<fo.cb.length:=by omega
 have hpp:((p.toNat:Nat):Int)=p:=by omega
 unfold stepFR;rw[h.vf,hs0];simp only[Qn,qF,Qw,Qh];obtain⟨x,i,k,hw,ha,hc1,hc2,hc3,hc4⟩:=h.stands hp hk;have hI:=ha.pI;rw[hw.id] at hI;have hcur:curI fo p=i:=by rw[curI,hI,qE]
 by_cases he:endB fo p=true
 ·rw[qf he] at hs;rw[qf he];rw[endB,hcur,qy] at he
  have hrest:=h.rest hp fun j _ hj=>by
   have:j=i:=by omega
   subst this;exact he
  have hlow:=h.low p.toNat hp hk;have hgn:=ha.gone;rw[hw.id] at hgn;have hnn:(nxC (cbA fo.cb p.toNat)).node=(cbA fo.cb p.toNat).node:=by unfold nxC;split<;>rfl
  have hnk:(nxC (cbA fo.cb p.toNat)).kind=(cbA fo.cb p.toNat).kind:=by unfold nxC;split<;>rfl
  have hnl:(nxC (cbA fo.cb p.toNat)).lvl=if(cbA fo.cb p.toNat).kind=1 then(cbA fo.cb p.toNat).lvl+1 else(cbA fo.cb p.toNat).lvl-1:=by unfold nxC;split<;>rfl
  have hl0:=hw.l0;have hlh:=hw.lh
  have here:goneF fo.ly (cbA fo.cb p.toNat).node (cbA fo.cb p.toNat).lvl=((cbA fo.cb p.toNat).kind==2):=by
   rw[hgn];rcases hw.k with e|e
   ·have:=hc4.i2 (by rw[hc2,e]) (by omega);rw[hc1] at this;rw[this,e];rfl
   ·have:=hc4.r2 (by rw[hc2,e]) (by omega);rw[hc1] at this;rw[this,e];rfl
  by_cases ho:outB fo.ht (nxC (cbA fo.cb p.toNat))=true
  ·rw[qf ho];rw[outB,qr,qj,qj,hnl] at ho;refine⟨ls,h.finish hp hk hrest fun lv l0 lh=> ?_,FI.finish_phi hp hk _⟩
   by_cases e:lv=(cbA fo.cb p.toNat).lvl
   ·rw[e];exact here
   ·have:=hlow lv l0 lh;rcases hw.k with e1|e1
    ·rw[qf e1] at ho;rw[this.1 (by omega),e1];rfl
    ·rw[qb (by omega)] at ho;rw[this.2 (by omega),e1];rfl
  ·rw[qb ho];have ho:outB fo.ht (nxC (cbA fo.cb p.toNat))=false:=by simpa using ho
   rw[outB,qi,qg,qg] at ho;have hwn:Works fo (nxC (cbA fo.cb p.toNat)) x:=⟨by rw[hnk];exact hw.k,hw.mm,by rw[hnn];exact hw.id,by omega,by omega⟩
   have hb:=h.begin hp hrest hwn (fun q hq hne hkq e=>hne (h.dis q p.toNat hq hp hkq hk (by rw[e,hnn]))) (fun _=>hnn.symm)
    (by
     rw[hnn,hnk];have:=hlow (nxC (cbA fo.cb p.toNat)).lvl (by omega) (by omega);rw[hnl] at*;rcases hw.k with e1|e1
     ·rw[qf e1] at*;rw[this.2 (by omega),e1];rfl
     ·rw[qb (by omega)] at*;rw[this.1 (by omega),e1];rfl)
    (fun lv l0 lh=>by
     have g:=hlow lv l0 lh;rw[hnn,hnl];rcases hw.k with e1|e1
     ·rw[qf e1];refine⟨fun g1=> ?_,fun g1=>g.2 (by omega)⟩
      by_cases e:lv=(cbA fo.cb p.toNat).lvl
      ·rw[e,here,e1];rfl
      ·exact g.1 (by omega)
     ·rw[qb (by omega)];refine⟨fun g1=>g.1 (by omega),fun g1=> ?_⟩
      by_cases e:lv=(cbA fo.cb p.toNat).lvl
      ·rw[e,here,e1];rfl
      ·exact g.2 (by omega))
   have hf:=h.climb_phi hp hk hrest hwn hM;rw[hpp] at hb hf;exact⟨ls,hb.2,hf⟩
 ·rw[qb he] at hs;rw[qb he];rw[hcur] at hs ⊢;have hinv:=h.inv i ha.hi
  have hq:goesB (lyA fo.ly i).ps p=true:=by
   rw[goesB,(h.sh.at_ i ha.hi).pn,qk,qi,qg,qg];omega
  have hr:stepR (lyA fo.ly i).cs (lyA fo.ly i).ps p=(z1z (lyA fo.ly i).cs p.toNat (pr (lyA fo.ly i).ps p.toNat),(lyA fo.ly i).ps.set p.toNat (z20 (lyA fo.ly i).cs (pr (lyA fo.ly i).ps p.toNat))):=by
   rw[stepOk,hinv.vb,Qb] at hs;rw[stepR,hinv.vb,hs];rfl
  rw[stepOk,hinv.vb,Qb,hq,Qb] at hs;rw[hr];have t:=Tr.of (p:=p.toNat) hs;have hact:=step_act hs;obtain⟨l',hi,hl',hF,_⟩:=h.layer hp hk hI hact t;exact⟨_,hF,h.layer_phi hp hi hact t hl' _⟩
end
end
section
def lyB (L:List Ly):Prop:=L.length<=1000000/\∀i,(lyA L i).ids.length<=1000000/\(lyA L i).cs.length<=1000000/\(lyA L i).ps.length<=1000000
theorem idI_lt (ids:List Int)(v:Int): -1<=idI ids v/\idI ids v<ids.length:=by
 rcases z3b ids.length fun q=>decide (nth ids q=v) with⟨h,_⟩|⟨j,h1,h2,_⟩<;>unfold idI<;>omega
theorem indexM_spec (L:List Ly)(hb:lyB L)(i k:Nat)(hi:i<k)(v:Int):
  zf prog 121 [.slc false 0 (3*i+1) 0 (lyA L i).ids.length,.int .i64 v] ⟨1,[(0,(3*k+1,fam false 3 1 (lyF false L)))]⟩ (fun s H1=>s= .int .i64 (idI (lyA L i).ids v)/\H1=⟨1,[]⟩):=by
 refine(lyId L i k hi (index_spec (lyA L i).ids v _ rfl (hb.2 i).1) (by simp[SV.ltL,SV.lt]) fun π=>rfl).imp ?_;rintro s H' ⟨s0,H0',⟨rfl,rfl⟩,rfl,rfl⟩;exact⟨rfl,rfl⟩
def ec33:=aj3 @Tryz.tyLy @Tryz.tyCb @Tryz.tyFo
def ec34:=aj9 @Tryz.szLy @Tryz.zLy @Tryz.tyLys @Tryz.szLys @Tryz.szCb @Tryz.zCb @Tryz.tyCbs @Tryz.szCbs (aj5 @Tryz.szFo @Tryz.zFo @lyF_0 @lyF_1 @lyF_2)
def ec35:=aj @lyR_ap @cbs_ap
def JnNm.exE:=aj9 @z17 @zg @zi @zn @zk @z12 @z1a ec2 (aj9 @zj @zt @zo @zl ec13 @zp z43 z4y (aj9 @zu ec3 ec5 @z1d.eq_1 @zz.eq_1 @ints.eq_1 ec33 ec34 ec35))
def ec36:=aj7 @cbs_ren' @cbs_lt @lyR_ren' @lyR_lt @lyF_gives @z3l @z4d
def JnNm.gxE:=aj9 @z17 z43 ec16 z4y ec3 ec7 ec8 @z1d.eq_1 (aj6 @zz.eq_1 @z1v @z1t ec36 ec26 ec29)
def ec37:=aj3 @cbs_ren @lyR_ren @lyF_ren
def JnNm.axE:=aj9 @z17 @zg @zi @zn @zk @z12 @z1a ec2 (aj9 @zj @zt @zo @zl ec13 @zp z43 z4y (aj9 @zu ec3 ec5 @z1d.eq_1 @zz.eq_1 ec33 ec34 @z1q (aj5 @z26 @z2n @z31 ec37 @z40)))
def JnNm.oxE:=aj @zu ec33
open JnNm (gxE axE oxE exE)
open D0 (sdE)
theorem place_spec (L:List Ly)(hb:lyB L)(k n m:Nat)(hk:L.length=k)(ht v lv:Int):
  zf prog 80 [.agg [.slc false 0 0 0 n,.int .i64 ht,.slc false 1 0 0 k,.slc false 3 0 0 m],.int .i64 v,.int .i64 lv] ⟨4,[(1,uQ (.row ⟨false,false,89,5,k,lyR 2 L⟩)),(2,(3*k+1,fam false 3 1 (lyF false L)))]⟩
   (fun s H1=>s= .tup [.int .i64 (plI L v lv),.int .i64 (plK L v lv)]/\H1=⟨4,[]⟩):=by
 subst hk;have hlen:=hb.1;refine zf.ofC false 35 [.tmp 6,.tmp 7] func80 rfl rfl ntmps80 results80 rfl ?_;intro w0 own0 β0 Q hQ hQn;simp only[z18];refine Zrs [1,2,3] ?_;refine z6 ?_;refine Zrs [1,2,12,13,14] ?_;refine zc fun Q0 hN0 hX0 hR0 hE0=> ?_;refine zx (σ:=Nat) (fun i=>i<=L.length/\∀q,q<i->plP L v lv q=false) (fun i=>L.length-i) (fun i=>[(1,.int .i64 v),(2,.int .i64 lv),(12,.slc false 1 0 0 L.length),(13,.int .i64 L.length),(14,.int .i64 i)]) (fun _=>⟨4,[(1,uQ (.row ⟨false,false,89,5,L.length,lyR 2 L⟩)),(2,(3*L.length+1,fam false 3 1 (lyF false L)))]⟩) 0 ⟨qp _,fun q h=>by omega⟩ (ρ:=id) (Zg id) ?_;rintro i hi QL1 hL1 hRL1 hEL1;refine Zrs [1,2,12,13,14,15] ?_;refine z6 ?_;refine z7 _ rfl ?_ ?_
 ·intro h15;replace h15:=Znb h15;obtain⟨hi1,hi2⟩:=hi;refine za (z6 (zc fun Q1 hN1 hX1 hR1 hE1=> ?_));refine Zrs [1,2,8,9,12,13,14] ?_;refine sg [1,2,8,9,10,12,13,14] rfl ?_;intro K hK;iterate 3 (refine Zo Zl ?_)
  refine Zo Zl ?_;refine Zc1 (indexM_spec L hb i L.length (by omega) v) (fun q=>if q=0 then 2 else q) ?_;refine Zo Zl ?_;refine z8 (Zpr (hK _ _ ?_));clear hK K;refine Zrs [1,2,8,10,12,13,14,30] ?_;refine z7 _ rfl ?_ ?_
  ·intro h30;have h30':plP L v lv i=true:=h30;have hil:=(idI_lt (lyA L i).ids v).2;have hib:=(hb.2 i).1;refine Zrs [6,7] ?_;refine zd (hR1 _ _ (hRL1 _ _ (hR0 _ _ (hQ _ _ ?_))));have hI:plI L v lv=i:=idxB_at h30' (by omega) hi2;refine zb (H':=⟨4,[]⟩) (.inl rfl) ?_;refine Zou ?_;refine⟨Zs,(Zg id),Zs,?_⟩;rw[show plK L v lv=idI (lyA L i).ids v+2 by rw[plK,hI,qb (by omega),qE],hI];exact⟨rfl,by trivial⟩
  ·intro h30;have h30':plP L v lv i=false:=h30;refine za (ze (hN1 _ _ ?_));refine Zrg [1,2,12,13,14] ?_;refine ze (hL1 _ _ ?_);rw[show(i:Int)+1=((i+1:Nat):Int) from by omega];refine⟨i+1,⟨⟨by omega,fun q hq=> ?_⟩,by omega⟩,id,(Zg id)⟩
   by_cases e:q=i
   ·subst e;exact h30'
   ·exact hi2 q (by omega)
 ·intro h15;replace h15:=Znb h15;obtain⟨hi1,hi2⟩:=hi;refine zw (hEL1 _ _ _ (hX0 _ _ ?_));refine Zrs [6,7] ?_;refine zd (hQ _ _ ?_);have hI:plI L v lv= -1:=idxB_none fun q hq=>hi2 q (by omega);refine zb (H':=⟨4,[]⟩) (.inl rfl) ?_;refine Zou ?_;refine⟨Zs,(Zg id),Zs,?_⟩;rw[show plK L v lv=0 by rw[plK,hI];rfl,hI];exact⟨rfl,by trivial⟩
end
section
def lyC (L:List Ly):Prop:=∀i,i<L.length->(lyA L i).cs.length=(lyA L i).ids.length+2
theorem plI_lt (L:List Ly)(v lv:Int): -1<=plI L v lv/\plI L v lv<L.length:=by
 rcases z3b L.length (plP L v lv) with⟨h,_⟩|⟨j,h1,h2,_⟩<;>unfold plI<;>omega
theorem plI_at {L:List Ly}{v lv:Int}(h:0<=plI L v lv):∃i:Nat,i<L.length/\plI L v lv=i/\(lyA L i).lvl=lv/\∃k:Nat,k<(lyA L i).ids.length/\plK L v lv=k+2/\nth (lyA L i).ids k=v:=by
 rcases z3b L.length (plP L v lv) with⟨h1,_⟩|⟨j,h1,h2,h3,_⟩
 ·unfold plI at h;omega
 ·rw[plP,qh,qy,qj] at h3;obtain⟨k,k1,k2,k3⟩:=idI_mem h3.2;have hI:plI L v lv=j:=h1;exact⟨j,h2,hI,h3.1,k,k1,by rw[plK,hI,qb (by omega),qE,k2],k3⟩
theorem plK_in {L:List Ly}(hc:lyC L){v lv:Int}(h:0<=plI L v lv):(plI L v lv).toNat<L.length/\2<=plK L v lv/\plK L v lv<(lyA L (plI L v lv).toNat).cs.length:=by
 obtain⟨i,h1,h2,h3,k,k1,k2,k3⟩:=plI_at h;rw[h2,k2,qE,hc i h1];omega
open JnNm (gxE axE oxE exE)
open D0 (sdE)
theorem member_spec (L:List Ly)(hb:lyB L)(hc:lyC L)(k n m:Nat)(hk:L.length=k)(ht v lv:Int):
  zf prog 61 [.agg [.slc false 0 0 0 n,.int .i64 ht,.slc false 1 0 0 k,.slc false 3 0 0 m],.int .i64 v,.int .i64 lv] ⟨4,[(1,uQ (.row ⟨false,false,89,5,k,lyR 2 L⟩)),(2,(3*k+1,fam false 3 1 (lyF false L)))]⟩
   (fun s H1=>s= .bool (memF L v lv)/\H1=⟨4,[]⟩):=by
 subst hk;have hlen:=hb.1;have hin:=plK_in (L:=L) hc (v:=v) (lv:=lv);have hI:=plI_lt L v lv;refine zf.ofC false 32 [.tmp 6] func61 rfl rfl ntmps61 results61 rfl ?_;intro w0 own0 β0 Q hQ hQn;simp only[z18];refine Zrs [1,2,3] ?_;refine sg [3,7,8] rfl ?_;intro K hK;iterate 3 (refine Zo Zl ?_)
 refine Zo Zl ?_;refine Zc1 (place_spec L hb L.length n m rfl ht v lv) (id) ?_;iterate 5 (refine Zo Zl ?_)
 refine z8 (Zpr (hK _ _ ?_));clear hK K;refine z6 ?_;obtain⟨i,hi⟩:∃i,plI L v lv=i:=⟨_,rfl⟩;obtain⟨c,hcc⟩:∃c,plK L v lv=c:=⟨_,rfl⟩;rw[hi,hcc] at hin;rw[hi] at hI;rw[hi,hcc];refine Zrg [6] ?_;refine zd (hQ _ _ ?_);refine zb (H':=⟨4,[]⟩) (.inl rfl) ?_;refine Zou ?_;refine⟨Zs,(Zg id),Zs,?_⟩;rw[memF,goneF,hi,hcc]
 first|trivial|exact⟨rfl,trivial⟩
end
section
open JnNm (gxE axE oxE exE)
open D0 (sdE)
theorem inClone_spec (xs:List Int)(n:Nat)(hn:xs.length=n)(hx:n<=1000000):
  zf prog 99 [.slc false 0 0 0 n] ⟨1,[(0,uQ (.row ⟨false,false,3,1,n,ints xs⟩))]⟩
   (fun s H1=>s= .slc true 1 0 0 n/\H1=⟨2,[(1,uQ (.row ⟨true,false,3,1,n,ints xs⟩))]⟩):=by
 refine zf.ofC false 8 [.tmp 2] func99 rfl rfl ntmps99 results99 rfl ?_;intro w0 own0 β0 Q hQ hQn;simp only[z18];refine Zrs [0] ?_;refine z6 ?_;refine sg [0,4] rfl ?_;intro K hK;iterate 2 (refine Zo Zl ?_)
 intro b hb;repeat(with_reducible apply qe;exact sdE)
 refine z8 (Zpr (hK _ _ ?_));clear hK K;refine z7 _ rfl ?_ ?_
 ·intro h4
  have hn0:n=0:=by
   rcases jR n with h|h
   ·exact h
   ·rw[hb h] at h4;cases h4
  subst hn0;refine Zrs [2] ?_;refine z2d 2 3 1 (ints xs) rfl ?_;refine zd (hQ _ _ ?_);refine zb (H':=⟨2,[(1,uQ (.row ⟨true,false,3,1,0,ints xs⟩))]⟩) (.inl rfl) ?_;refine Zou ?_;refine⟨Zs,(Zg id),Zs,?_⟩;trivial
 ·intro h4
  try replace h4:=Znb h4
  refine za ?_;refine Zrs [2] ?_;refine zd (hQ _ _ ?_);refine zm (fun k=>if k=1 then 2 else k) (.slc true 1 0 0 n) (⟨2,[(1,uQ (.row ⟨true,false,3,1,n,ints xs⟩))]⟩) (.inl rfl) ?_;refine Zou ?_;refine⟨Zs,Zs,(Zg (fun k=>if k=1 then 2 else k)),Zs,?_⟩;trivial
theorem cbClone_spec (xs:List Cb)(n:Nat)(hn:xs.length=n)(hx:n<=1000000):
  zf prog 98 [.slc false 0 0 0 n] ⟨1,[(0,uQ (.row ⟨false,false,58,3,n,cbs xs⟩))]⟩
   (fun s H1=>s= .slc true 1 0 0 n/\H1=⟨2,[(1,uQ (.row ⟨true,false,58,3,n,cbs xs⟩))]⟩):=by
 refine zf.ofC false 8 [.tmp 2] func98 rfl rfl ntmps98 results98 rfl ?_;intro w0 own0 β0 Q hQ hQn;simp only[z18];refine Zrs [0] ?_;refine z6 ?_;refine sg [0,4] rfl ?_;intro K hK;iterate 2 (refine Zo Zl ?_)
 intro b hb;repeat(with_reducible apply qe;exact sdE)
 refine z8 (Zpr (hK _ _ ?_));clear hK K;refine z7 _ rfl ?_ ?_
 ·intro h4
  have hn0:n=0:=by
   rcases jR n with h|h
   ·exact h
   ·rw[hb h] at h4;cases h4
  subst hn0;refine Zrs [2] ?_;refine z2d 2 58 3 (cbs xs) rfl ?_;refine zd (hQ _ _ ?_);refine zb (H':=⟨2,[(1,uQ (.row ⟨true,false,58,3,0,cbs xs⟩))]⟩) (.inl rfl) ?_;refine Zou ?_;refine⟨Zs,(Zg id),Zs,?_⟩;trivial
 ·intro h4
  try replace h4:=Znb h4
  refine za ?_;refine Zrs [2] ?_;refine zd (hQ _ _ ?_);refine zm (fun k=>if k=1 then 2 else k) (.slc true 1 0 0 n) (⟨2,[(1,uQ (.row ⟨true,false,58,3,n,cbs xs⟩))]⟩) (.inl rfl) ?_;refine Zou ?_;refine⟨Zs,Zs,(Zg (fun k=>if k=1 then 2 else k)),Zs,?_⟩;trivial
theorem cloneL_spec (cs:List Cl)(ps:List Pr)(n m:Nat)(hn:cs.length=n)(hm:ps.length=m)(hx:n<=1000000)(hy:m<=1000000):
  zf prog 100 [.agg [.slc false 0 0 0 n,.slc false 1 0 0 m]] ⟨2,[(0,inCl cs),(1,inPr ps)]⟩
   (fun s H1=>s= .agg [.slc true 2 0 0 n,.slc true 3 0 0 m]/\H1=⟨4,[(3,z3h ps),(2,z2x cs)]⟩):=by
 subst hn hm;refine zf.ofC false 10 [.cell 2 85] func100 rfl rfl ntmps100 results100 rfl ?_;intro w0 own0 β0 Q hQ hQn;simp only[z18];refine Zrs [1,2] ?_;refine z6 ?_;refine Zrd [2] [0,1,3,4,2,5,6,7] [[],[],[],[],[],[],[],[3]] [[],[],[],[],[],[],[],[3]] ?_;intro K hK;iterate 4 (refine Zo (Zi [] []) ?_)
 refine Zo (Zi [] []) ?_;refine Zc1 (clClone_spec cs cs.length rfl hx) (id) ?_;refine Zo (Zi [] []) ?_;refine Zc1 (prClone_spec ps ps.length rfl hy) (fun _=>1) ?_;refine Zo (Zi [] []) ?_;refine Zo (Zi [3] [3]) ?_;refine z11 (Zpr (hK _ _ ?_));clear hK K;refine zd (hQ _ _ ?_);refine zm (fun k=>if k=2 then 4 else if k=3 then 5 else k) (.agg [.slc true 2 0 0 cs.length,.slc true 3 0 0 ps.length]) (⟨4,[(3,z3h ps),(2,z2x cs)]⟩) (.inl rfl) ?_;refine Zou ?_;refine⟨Zs,Zs,(Zg (fun k=>if k=2 then 4 else if k=3 then 5 else k)),Zs,?_⟩;trivial
theorem cloneLM_spec (L:List Ly)(hb:lyB L)(i k:Nat)(hi:i<k):
  zf prog 100 [.agg [.slc false 0 (3*i+2) 0 (lyA L i).cs.length,.slc false 0 (3*i+3) 0 (lyA L i).ps.length]] ⟨2,[(0,(3*k+1,fam false 3 1 (lyF false L)))]⟩
   (fun s H1=>s= .agg [.slc true 2 0 0 (lyA L i).cs.length,.slc true 3 0 0 (lyA L i).ps.length]/\H1=⟨4,[(3,z3h (lyA L i).ps),(2,z2x (lyA L i).cs)]⟩):=by
 refine(lyLs L i k hi (cloneL_spec (lyA L i).cs (lyA L i).ps _ _ rfl rfl (hb.2 i).2.1 (hb.2 i).2.2) trivial fun π=>rfl).imp ?_;rintro s H' ⟨s0,H0',⟨rfl,rfl⟩,rfl,rfl⟩;refine⟨by simp[SV.renP,SV.renPL,memP],?_⟩;simp only[renPOs,q7,QY,z3h,z2x,uQ,Obj.renP,prs_renP,z4a]
theorem inCloneM_spec (L:List Ly)(hb:lyB L)(i k:Nat)(hi:i<k):
  zf prog 99 [.slc false 0 (3*i+1) 0 (lyA L i).ids.length] ⟨1,[(0,(3*k+1,fam false 3 1 (lyF false L)))]⟩
   (fun s H1=>s= .slc true 1 0 0 (lyA L i).ids.length/\H1=⟨2,[(1,uQ (.row ⟨true,false,3,1,(lyA L i).ids.length,ints (lyA L i).ids⟩))]⟩):=by
 refine(lyId L i k hi (inClone_spec (lyA L i).ids _ rfl (hb.2 i).1) trivial fun π=>rfl).imp ?_;rintro s H' ⟨s0,H0',⟨rfl,rfl⟩,rfl,rfl⟩;refine⟨by simp[SV.renP,memP],?_⟩;simp only[renPOs,q7,QY,uQ,Obj.renP,z2k]
end
end Go.Proofs
namespace Go.Sk
open Go.RowKit Go.Proofs
theorem Zv {a:Prop}(h:a:=by simp[frGivesP,Sk.get,SV.renP,SV.renPL,mvM,SV.lt,SV.ltL,ownU,uQ,keepB,Sk.find,Obj.own.eq_1,Obj.own.eq_2,Obj.own.eq_3,Obj.own.eq_4,gxE]):a:=h
theorem Zgm {X:Cx}{fr:Fr}{H:AH}{fr1:Fr}{H1:AH}(ρ:Nat->Nat)(f:Nat)(ms:Nat->Option Nat)(hs:MsOk X ρ ms H1.os)(a2:z1b (mvM ρ f ms) H1.nxt H.os H1.os)(q:GpQ X (mvM ρ f ms) fr H fr1 H1:=by constructor<;>exact Zv)(r:GmR X ρ f H1:=by exact⟨rfl,rfl,qc rfl,qc rfl,rfl⟩):z54 X (mvM ρ f ms) fr H fr1 H1:=gmS ρ f ms hs a2 q r
end Go.Sk
namespace Go.Proofs
open Tryz
open Go.Sk
theorem take_ly {L:List Ly}{i j:Nat}(h:j<i):lyA (L.take i) j=lyA L j:=by
 rw[lyA,lyA,qx,qx,Qd,qf h]
open JnNm (gxE axE oxE exE)
open D0 (sdE)
theorem clone_specF (fo:Fo)(hb:lyB fo.ly)(n k m:Nat)(hn:fo.ns.length=n)(hk:fo.ly.length=k)(hm:fo.cb.length=m)(hn6:n<=1000000)(hm6:m<=1000000):
  zf prog 62 [.agg [.slc false 0 0 0 n,.int .i64 fo.ht,.slc false 1 0 0 k,.slc false 3 0 0 m]] ⟨4,[(0,uQ (.row ⟨false,false,62,3,n,nds fo.ns⟩)),(1,uQ (.row ⟨false,false,89,5,k,lyR 2 fo.ly⟩)),(2,(3*k+1,fam false 3 1 (lyF false fo.ly))),(3,uQ (.row ⟨false,false,58,3,m,cbs fo.cb⟩))]⟩
   (fun s H1=>s= .agg [.slc true 4 0 0 n,.int .i64 fo.ht,.slc true 5 0 0 k,.slc true 7 0 0 m]/\H1=⟨8,[(4,uQ (.row ⟨true,false,62,3,n,nds fo.ns⟩)),(5,uQ (.row ⟨true,false,89,5,k,lyR 6 fo.ly⟩)),(6,(3*k+1,fam true 3 1 (lyF true fo.ly))),(7,uQ (.row ⟨true,false,58,3,m,cbs fo.cb⟩))]⟩):=by
 obtain⟨ns,ht,L,C⟩:=fo;dsimp only at hb hn hk hm ⊢;subst hn hk hm;have hlen:=hb.1;refine zf.ofC false 38 [.cell 2 34] func62 rfl rfl ntmps62 results62 rfl ?_;intro w0 own0 β0 Q hQ hQn;simp only[z18];refine Zrs [1,2] ?_;refine z6 ?_;refine Zrt [1,2,3] (.op 0 (.op 1 (.op 3 (.op 4 (.op 5 (.op 6 (.two 2 9 (.two 7 9 (.op 8 (.op 9 (.op 10 .done))) (.op 7 (.op 8 (.op 10 .done)))) (.op 2 (.op 7 (.op 8 (.op 10 .done))))))))))) [[],[],[],[],[],[],[],[],[],[],[]] [[],[],[],[],[],[],[],[],[],[],[]] ?_;intro K hK hG
 have hk1:K [(1,.ptr 4 0 0 0),(2,.ptr 5 0 0 0),(3,.ptr 8 0 0 0)] ⟨9,[(8,uQ (.row ⟨true,true,34,4,1,fun _=>[.slc true 6 0 0 ns.length,.int .i64 ht,.nils,.slc true 7 0 0 C.length]⟩)),(7,uQ (.row ⟨true,false,58,3,C.length,cbs C⟩)),(6,uQ (.row ⟨true,false,62,3,ns.length,nds ns⟩)),(5,uQ (.row ⟨true,true,34,4,1,fun _=>[.nils,.int .i64 0,.nils,.nils]⟩)),(4,uQ (.row ⟨true,true,34,4,1,fun _=>[.slc false 0 0 0 ns.length,.int .i64 ht,.slc false 1 0 0 L.length,.slc false 3 0 0 C.length]⟩)),(1,uQ (.row ⟨false,false,89,5,L.length,lyR 2 L⟩)),(2,(3*L.length+1,fam false 3 1 (lyF false L)))]⟩:=by
  refine hK _ _ ?_;clear hG hK K;refine z6 ?_;refine Zrs [2,3,16,17,18] ?_;refine z4w 8 2 89 5 (lyR 10 (L.take 0)) rfl rfl rfl rfl rfl rfl rfl rfl (by dsimp only;omega) (by simp[SV.ltL,SV.lt]) ?_;simp only[setO,↓reduceIte,Nat.reduceEqDiff,Nat.reduceAdd,QN,QM,reduceCtorEq,uQ];refine z23 3 1 (lyF true (L.take 0)) ?_;dsimp only;refine zc fun Q0 hN0 hX0 hR0 hE0=> ?_;refine zx (σ:=Nat) (fun i=>i<=L.length) (fun i=>L.length-i) (fun i=>[(2,.ptr 5 0 0 0),(3,.ptr 8 0 0 0),(16,.slc false 1 0 0 L.length),(17,.int .i64 L.length),(18,.int .i64 i)]) (fun i=>⟨11,[(8,uQ (.row ⟨true,true,34,4,1,fun _=>[.slc true 6 0 0 ns.length,.int .i64 ht,.slc true 9 0 0 (i),.slc true 7 0 0 C.length]⟩)),(9,uQ (.row ⟨true,false,89,5,i,lyR 10 (L.take (i))⟩)),(10,(3*(i)+1,fam true 3 1 (lyF true (L.take (i))))),(7,uQ (.row ⟨true,false,58,3,C.length,cbs C⟩)),(6,uQ (.row ⟨true,false,62,3,ns.length,nds ns⟩)),(5,uQ (.row ⟨true,true,34,4,1,fun _=>[.nils,.int .i64 0,.nils,.nils]⟩)),(1,uQ (.row ⟨false,false,89,5,L.length,lyR 2 L⟩)),(2,(3*L.length+1,fam false 3 1 (lyF false L)))]⟩) 0 (qp _) (ρ:=id) (Zg id) ?_;rintro i hi QL1 hL1 hRL1 hEL1;refine Zrs [2,3,16,17,18,19] ?_;refine z6 ?_;refine z7 _ rfl ?_ ?_
  ·intro h19;replace h19:=Znb h19;refine za (z6 (zc fun Q1 hN1 hX1 hR1 hE1=> ?_));refine Zrs [2,3,5,16,17,18] ?_;refine z6 ?_;refine Zrd [2,3,5,16,17,18] [0,1,3,4,2,6,5,7,8,9] [[],[],[],[],[],[],[],[11],[],[11]] [[],[],[],[],[],[],[],[11],[11],[11]] ?_;intro K hK;iterate 4 (refine Zo (Zi [] []) ?_)
   refine Zo (Zi [] []) ?_;refine Zc1 (inCloneM_spec L hb i L.length (by omega)) (fun q=>if q=0 then 2 else q) ?_;refine Zo (Zi [] []) ?_;refine Zo (Zi [] []) ?_;refine Zc1 (cloneLM_spec L hb i L.length (by omega)) (fun q=>if q=0 then 2 else 0) ?_;refine Zo (Zi [11] [11]) ?_;refine Zo (Zi [] [11]) ?_;refine Zo (Zi [11] [11]) ?_;refine z11 (Zpr (hK _ _ ?_));clear hK K;refine Zrg [2,3,16,17,18] ?_;refine ze (hN1 _ _ ?_);have hT:∀q,q<i->lyA (L.take (i+1)) q=lyA (L.take i) q:=fun q hq=>by rw[take_ly (by omega),take_ly hq]
   have hx:lyA (L.take (i+1)) i=lyA L i:=take_ly (by omega)
   have hout:∀q,q<i+1->app (lyR 10 (L.take i)) i (z4f 5 1 [SV.int .i64 (lyA L i).lvl,SV.int .u32 (lyA L i).wd,SV.slc true 12 0 0 (lyA L i).ids.length,SV.slc true 13 0 0 (lyA L i).cs.length,SV.slc true 14 0 0 (lyA L i).ps.length]) q=SV.renPL (mvM (fun q=>if q=9 then 16 else q) 10 (ms3 i 12 13 14)) (lyR 10 (L.take (i+1)) q):=fun q hq=>by
    rw[lyR_renM3]
    split
    ·rename_i e;subst e;rw[app,qb (by omega),jb,hx];rfl
    ·rename_i e;rw[app,qf (by omega),lyR,lyR,hT q (by omega)];rfl
   refine z4p (fr':=[(2,.ptr 5 0 0 0),(3,.ptr 8 0 0 0),(16,.slc false 1 0 0 L.length),(17,.int .i64 L.length),(18,.int .i64 i)]) (H':=⟨11,[(8,uQ (.row ⟨true,true,34,4,1,fun _=>[.slc true 6 0 0 ns.length,.int .i64 ht,.slc true 9 0 0 (i+1),.slc true 7 0 0 C.length]⟩)),(9,uQ (.row ⟨true,false,89,5,i+1,lyR 10 (L.take (i+1))⟩)),(10,(3*(i+1)+1,fam true 3 1 (lyF true (L.take (i+1))))),(7,uQ (.row ⟨true,false,58,3,C.length,cbs C⟩)),(6,uQ (.row ⟨true,false,62,3,ns.length,nds ns⟩)),(5,uQ (.row ⟨true,true,34,4,1,fun _=>[.nils,.int .i64 0,.nils,.nils]⟩)),(1,uQ (.row ⟨false,false,89,5,L.length,lyR 2 L⟩)),(2,(3*L.length+1,fam false 3 1 (lyF false L)))]⟩) _ (Zgm (fun q=>if q=9 then 16 else q) (10) (ms3 i 12 13 14) (ms3_ok i (by decide) ⟨rfl,rfl,rfl⟩ ⟨qc rfl,qc rfl,qc rfl⟩) ((z10 (by decide) rfl ql (zq.of (fun _=>⟨rfl,rfl⟩) rfl (qd _) (fun _ _=>rfl)) (Obj.lt_row.2 fun q _=>by simp[SV.ltL,SV.lt]) (qc rfl) (z10 (by decide) rfl ql (zq.of (fun _=>⟨rfl,rfl⟩) rfl (qd _) (hout)) (Obj.lt_row.2 fun q _=>(lyR_lt _ _ _ q).2 (qc rfl)) (qc rfl) (lyF_cons3 (n:=i) (x:=lyA L i) rfl rfl rfl rfl hx (fun q hq hne=>⟨by omega,hT q (by omega)⟩) (qc rfl) (z10 (by decide) rfl ql (zq.of (fun _=>⟨rfl,rfl⟩) rfl (qd _) (fun q _=>(cbs_renP _ _ q).symm)) (Obj.lt_row.2 fun q _=>cbs_lt _ _ q) (qc rfl) (z10 (by decide) rfl ql (zq.of (fun _=>⟨rfl,rfl⟩) rfl (qd _) (fun q _=>(z33 _ _ q).symm)) (Obj.lt_row.2 fun q _=>z4e _ _ q) (qc rfl) (z10 (by decide) rfl ql (zq.of (fun _=>⟨rfl,rfl⟩) rfl (qd _) (fun _ _=>rfl)) (Obj.lt_row.2 fun q _=>by simp[SV.ltL,SV.lt]) (qc rfl) (z10 (by decide) rfl ql (zq.of (fun h=>(by cases h)) rfl (qd _) (fun q _=>(show lyR 2 L q=SV.renPL _ (lyR 2 L q) by rw[lyR_renMO _ _ _ _ _ _ (by decide)];rfl))) (Obj.lt_row.2 fun q _=>(lyR_lt _ _ _ q).2 (qc rfl)) (qc rfl) (z1b.consO (by decide) rfl ⟨fun h=>(by cases h),rfl⟩ (by omega) (qd _) (fun q _=>⟨lyF_givesP _ _ _ _ _ _ (fun h=>(by cases h)) rfl,z3l _ _ _ _⟩) (qc rfl) trivial)))))))))) ?_
   refine Zrg [2,3,16,17,18] ?_;refine ze (hL1 _ _ ?_);rw[show(i:Int)+1=((i+1:Nat):Int) from by omega];exact⟨i+1,⟨by omega,by omega⟩,id,(Zg id)⟩
  ·intro h19;replace h19:=Znb h19;refine zw (hEL1 _ _ _ (hX0 _ _ ?_));refine Zrs [2] ?_;refine zd (hQ _ _ ?_)
   have hi2:i=L.length:=by
    have:¬(i:Int)<L.length:=by simpa using h19
    omega
   subst hi2;rw[QV];refine zm (fun q=>if q=4 then 6 else if q=5 then 9 else if q=6 then 10 else q) (.agg [.slc true 4 0 0 ns.length,.int .i64 ht,.slc true 5 0 0 L.length,.slc true 7 0 0 C.length]) (⟨8,[(4,uQ (.row ⟨true,false,62,3,ns.length,nds ns⟩)),(5,uQ (.row ⟨true,false,89,5,L.length,lyR 6 L⟩)),(6,(3*L.length+1,fam true 3 1 (lyF true L))),(7,uQ (.row ⟨true,false,58,3,C.length,cbs C⟩))]⟩) (.inl rfl) ?_;refine Zou ?_;refine⟨Zs,Zs,(Zg (fun q=>if q=4 then 6 else if q=5 then 9 else if q=6 then 10 else q)),Zs,?_⟩
   all_goals first|trivial|exact⟨rfl,trivial⟩
 refine Zo (ZT [] [] []) ?_;refine Zo (ZT [] [] []) ?_;refine Zo (ZT [] [] []) ?_;refine Zo (ZT [] [] []) ?_;refine Zo (ZT [] [] []) ?_;refine Zo (ZT [] [] []) ?_;refine z2r ?_ ?_
 ·skip
  refine Zo (ZT [] [] []) ?_;refine Zc1 (z5e ns ns.length rfl hn6) (id) ?_;refine z2r ?_ ?_
  ·skip
   refine Zo (ZT [] [] []) ?_;refine Zc1 (cbClone_spec C C.length rfl hm6) (fun _=>3) ?_;refine Zo (ZT [] [] []) ?_;refine Zo (ZT [] [] [8]) ?_;refine Zo (ZT [8] [] [8]) ?_;refine z1f ?_;refine Zpr ?_;exact hG _ _ _ _ id (Zg id) hk1
  ·skip
   refine Zo (ZT [] [] [7]) ?_;refine Zo (ZT [7] [] [7]) ?_;refine Zc1 (cbClone_spec C C.length rfl hm6) (fun _=>3) ?_;refine Zo (ZT [7] [] [7]) ?_;refine Zo (ZT [7] [] [7]) ?_;refine z1f ?_;refine Zpr ?_;exact hG _ _ _ _ (fun q=>if q=7 then 8 else if q=8 then 7 else q) (Zg (fun q=>if q=7 then 8 else if q=8 then 7 else q)) hk1
 ·skip
  refine Zo (ZT [] [] [6]) ?_;refine Zo (ZT [6] [] [6]) ?_;refine Zc1 (z5e ns ns.length rfl hn6) (id) ?_;refine Zo (ZT [6] [] [6]) ?_;refine Zc1 (cbClone_spec C C.length rfl hm6) (fun _=>3) ?_;refine Zo (ZT [6] [] [6]) ?_;refine Zo (ZT [6] [] [6]) ?_;refine z1f ?_;refine Zpr ?_;exact hG _ _ _ _ (fun q=>if q=6 then 7 else if q=7 then 8 else if q=8 then 6 else q) (Zg (fun q=>if q=6 then 7 else if q=7 then 8 else if q=8 then 6 else q)) hk1
end Go.Proofs
