/-
  Walks and plain facts, joined: part 7 of 11.
  Conditions: those that each statement names.
-/
import Derived.Test.YtpnefndionckaaaGreatDoorRmf
import Derived.Test.YtpnefndionckaaaGreatDoorRmc
import Derived.Test.YtpnefndionckaaaGreatDoorRme
set_option linter.unusedSimpArgs false
set_option linter.unusedVariables false
set_option linter.defProp false
set_option maxRecDepth 4000
set_option maxHeartbeats 8000000
namespace Go.Proofs
open Tryz
open Go.Sk
section
structure Lk where
 id:Int
 lv:List (Int×Int)
deriving DecidableEq
def noLk:Lk:=⟨0,[]⟩
def lk (l:List Lk)(i:Nat):Lk:=l.getD i noLk
def pI (p:List (Int×Int))(i:Nat):Int×Int:=p.getD i (0,0)
theorem lk_lt {l:List Lk}{i:Nat}(h:i<l.length):lk l i=l[i]:=by simp[lk,List.getD,h]
theorem pI_lt {l:List (Int×Int)}{i:Nat}(h:i<l.length):pI l i=l[i]:=by simp[pI,List.getD,h]
theorem lk_set (l:List Lk)(a i:Nat)(x:Lk)(hi:i<l.length):lk (l.set a x) i=if i=a then x else lk l i:=by
 rw[lk_lt (by simpa using hi),List.getElem_set,lk_lt hi]
 by_cases h:i=a
 ·subst h;simp
 ·rw[qb (fun e=>h e.symm),qb h]
theorem pI_set (l:List (Int×Int))(a i:Nat)(x:Int×Int)(hi:i<l.length):pI (l.set a x) i=if i=a then x else pI l i:=by
 rw[pI_lt (by simpa using hi),List.getElem_set,pI_lt hi]
 by_cases h:i=a
 ·subst h;simp
 ·rw[qb (fun e=>h e.symm),qb h]
def idN (g:List Nd)(v:Int):Nat:=(findI g v).toNat
def adjN (g:List Nd)(v:Int):Int×Int:=
 (if 0<idN g v then(nd g (idN g v-1)).id else 0,if idN g v+1<g.length then(nd g (idN g v+1)).id else 0)
def nbN (s:List Nd)(x:Nd)(lv:Int):Int×Int:=adjN (grpW s lv x.word) x.id
def bldN (s:List Nd)(h:Nat):List Lk:=s.map fun x=>⟨x.id,(List.range (h+1)).map fun(l:Nat)=>nbN s x l⟩
def setLk (out:List Lk)(a lv:Nat)(v:Int):List Lk:=out.set a {lk out a with lv:=(lk out a).lv.set lv (v,(pI (lk out a).lv lv).2)}
def setRk (out:List Lk)(a lv:Nat)(v:Int):List Lk:=out.set a {lk out a with lv:=(lk out a).lv.set lv ((pI (lk out a).lv lv).1,v)}
def bldI (s:List Nd)(lv:Nat)(ids:List Int):Nat->Nat->List Lk->List Lk
 |0,_,out=>out
 |k+1,i,out=>bldI s lv ids k (i+1) (setRk (setLk out (idN s (nth ids i)) lv (nth ids (i-1))) (idN s (nth ids (i-1))) lv (nth ids i))
def bldC (s:List Nd)(lv:Nat)(ls:List (List Int))(out:List Lk):List Lk:=ls.foldl (fun out ids=>bldI s lv ids (ids.length-1) 1 out) out
def lstG (s:List Nd)(lv:Int):List (List Int):=(z4l s lv).map fun c=>c.map (·.id)
def bldL (s:List Nd):Nat->Nat->List Lk->List Lk
 |0,_,out=>out
 |k+1,lv,out=>bldL s k (lv+1) (bldC s lv (lstG s lv) out)
def zerL (s:List Nd)(h:Nat):List Lk:=s.map fun x=>⟨x.id,List.replicate (h+1) (0,0)⟩
def col (out:List Lk)(p lv:Nat):Int×Int:=pI (lk out p).lv lv
structure Shp (out out':List Lk):Prop where
 len:out'.length=out.length
 id:∀i,(lk out' i).id=(lk out i).id
 lv:∀i,(lk out' i).lv.length=(lk out i).lv.length
theorem Shp.refl (o:List Lk):Shp o o:=⟨rfl,fun _=>rfl,fun _=>rfl⟩
theorem Shp.trans {a b c:List Lk}(h:Shp a b)(h':Shp b c):Shp a c:=⟨h'.len.trans h.len,fun i=>(h'.id i).trans (h.id i),fun i=>(h'.lv i).trans (h.lv i)⟩
theorem lk_ge {l:List Lk}{i:Nat}(h:l.length<=i):lk l i=noLk:=by simp[lk,List.getD,h]
theorem shp_set {out:List Lk}{a:Nat}{x:Lk}(h1:x.id=(lk out a).id)(h2:x.lv.length=(lk out a).lv.length):Shp out (out.set a x):=by
 refine⟨qD,fun i=> ?_,fun i=> ?_⟩
 ·by_cases hi:i<out.length
  ·rw[lk_set _ _ _ _ hi];split
   ·rename_i e;rw[e,h1]
   ·rfl
  ·rw[lk_ge (by simpa using hi),lk_ge (by omega)]
 ·by_cases hi:i<out.length
  ·rw[lk_set _ _ _ _ hi];split
   ·rename_i e;rw[e,h2]
   ·rfl
  ·rw[lk_ge (by simpa using hi),lk_ge (by omega)]
theorem shp_setLk (out:List Lk)(a lv:Nat)(v:Int):Shp out (setLk out a lv v):=shp_set rfl (by simp)
theorem shp_setRk (out:List Lk)(a lv:Nat)(v:Int):Shp out (setRk out a lv v):=shp_set rfl (by simp)
theorem col_setLk {out:List Lk}{a lv p l:Nat}{v:Int}(hp:p<out.length)(hl:l<(lk out p).lv.length):col (setLk out a lv v) p l=if p=a/\l=lv then(v,(col out p l).2) else col out p l:=by
 unfold col setLk;rw[lk_set _ _ _ _ hp]
 by_cases e:p=a
 ·subst e;simp only[Qi,QT];rw[pI_set _ _ _ _ hl]
  split
  ·rename_i e;rw[e]
  ·rfl
 ·simp[e]
theorem col_setRk {out:List Lk}{a lv p l:Nat}{v:Int}(hp:p<out.length)(hl:l<(lk out p).lv.length):col (setRk out a lv v) p l=if p=a/\l=lv then((col out p l).1,v) else col out p l:=by
 unfold col setRk;rw[lk_set _ _ _ _ hp]
 by_cases e:p=a
 ·subst e;simp only[Qi,QT];rw[pI_set _ _ _ _ hl]
  split
  ·rename_i e;rw[e]
  ·rfl
 ·simp[e]
theorem shp_bldI (s:List Nd)(lv:Nat)(ids:List Int):∀(k i:Nat) (out:List Lk),Shp out (bldI s lv ids k i out)
 |0,_,out=>Shp.refl out
 |k+1,i,out=>((shp_setLk ..).trans (shp_setRk ..)).trans (shp_bldI s lv ids k (i+1) _)
theorem shp_bldC (s:List Nd)(lv:Nat):∀(ls:List (List Int)) (out:List Lk),Shp out (bldC s lv ls out)
 |[],out=>Shp.refl out
 |ids::ls,out=>(shp_bldI s lv ids _ 1 out).trans (shp_bldC s lv ls _)
theorem shp_bldL (s:List Nd):∀(k lv:Nat) (out:List Lk),Shp out (bldL s k lv out)
 |0,_,out=>Shp.refl out
 |k+1,lv,out=>(shp_bldC ..).trans (shp_bldL s k (lv+1) _)
open Classical in
theorem col_bldI {s:List Nd}{lv:Nat}{ids:List Int}:∀(k i:Nat) {out:List Lk} {p l:Nat},1<=i->p<out.length->l<(lk out p).lv.length->i+k=ids.length->
  (∀a b,a<ids.length->b<ids.length->idN s (nth ids a)=idN s (nth ids b)->a=b)->
  col (bldI s lv ids k i out) p l=(if l=lv/\∃q,i<=q/\q<ids.length/\idN s (nth ids q)=p then nth ids (((List.range ids.length).find? (fun q=>decide (idN s (nth ids q)=p))).getD 0-1) else(col out p l).1,
   if l=lv/\∃q,i<=q+1/\q+1<ids.length/\idN s (nth ids q)=p then nth ids (((List.range ids.length).find? (fun q=>decide (idN s (nth ids q)=p))).getD 0+1) else(col out p l).2)
 |0,i,out,p,l,h1,hp,hl,hk,hinj=>by
  rw[bldI,qb (by rintro⟨_,q,h2,h3,_⟩;omega),qb (by rintro⟨_,q,h2,h3,_⟩;omega)]
 |k+1,i,out,p,l,h1,hp,hl,hk,hinj=>by
  have hfind:∀q,q<ids.length->idN s (nth ids q)=p->(List.range ids.length).find? (fun q=>decide (idN s (nth ids q)=p))=some q:=fun q hq he=>by
   cases hf:(List.range ids.length).find? (fun q=>decide (idN s (nth ids q)=p)) with
   |none=>
    have:=List.find?_eq_none.1 hf q (Qd.2 hq);simp[he] at this
   |some q'=>
    have h2:=List.find?_some hf;have h3:=Qd.1 (List.mem_of_find?_eq_some hf);simp only[qj] at h2;rw[hinj q' q h3 hq (h2.trans he.symm)]
  have hs:=(shp_setLk out (idN s (nth ids i)) lv (nth ids (i-1)));have hs2:=hs.trans (shp_setRk _ (idN s (nth ids (i-1))) lv (nth ids i));rw[bldI,col_bldI k (i+1) (by omega) (by rw[hs2.len];exact hp) (by rw[hs2.lv];exact hl) (by omega) hinj];rw[col_setRk (by rw[hs.len];exact hp) (by rw[hs.lv];exact hl),col_setLk hp hl]
  by_cases hlv:l=lv
  ·subst hlv;simp only[QT,and_true]
   have e1:(∃q,i<=q/\q<ids.length/\idN s (nth ids q)=p)↔idN s (nth ids i)=p\/∃q,i+1<=q/\q<ids.length/\idN s (nth ids q)=p:=by
    constructor
    ·rintro⟨q,g1,g2,g3⟩
     by_cases e:q=i
     ·exact .inl (e ▸ g3)
     ·exact .inr ⟨q,by omega,g2,g3⟩
    ·rintro(g|⟨q,g1,g2,g3⟩)
     ·exact⟨i,qc _,by omega,g⟩
     ·exact⟨q,by omega,g2,g3⟩
   have e2:(∃q,i<=q+1/\q+1<ids.length/\idN s (nth ids q)=p)↔idN s (nth ids (i-1))=p\/∃q,i+1<=q+1/\q+1<ids.length/\idN s (nth ids q)=p:=by
    constructor
    ·rintro⟨q,g1,g2,g3⟩
     by_cases e:q=i-1
     ·exact .inl (e ▸ g3)
     ·exact .inr ⟨q,by omega,g2,g3⟩
    ·rintro(g|⟨q,g1,g2,g3⟩)
     ·exact⟨i-1,by omega,by omega,g⟩
     ·exact⟨q,by omega,g2,g3⟩
   rw[ju]
   constructor
   ·by_cases g:∃q,i+1<=q/\q<ids.length/\idN s (nth ids q)=p
    ·rw[qf g,qf (e1.2 (.inr g))]
    ·rw[qb g]
     by_cases g2:idN s (nth ids i)=p
     ·rw[qf (e1.2 (.inl g2)),hfind i (by omega) g2]
      have:¬p=idN s (nth ids (i-1)):=fun e=>by
       have:=hinj i (i-1) (by omega) (by omega) (g2.trans e);omega
      rw[qb this,qf g2.symm];rfl
     ·rw[qb (fun h=>(e1.1 h).elim g2 g)]
      split<;>(try split)<;>first|rfl|(rename_i h;exact absurd h.symm g2)
   ·by_cases g:∃q,i+1<=q+1/\q+1<ids.length/\idN s (nth ids q)=p
    ·rw[qf g,qf (e2.2 (.inr g))]
    ·rw[qb g]
     by_cases g2:idN s (nth ids (i-1))=p
     ·rw[qf (e2.2 (.inl g2)),hfind (i-1) (by omega) g2,qf g2.symm];simp only[jQ];rw[show i-1+1=i by omega]
     ·rw[qb (fun h=>(e2.1 h).elim g2 g),qb (fun h=>g2 h.symm)]
      split<;>rfl
  ·simp[hlv]
end
section
def insAt (l:List Nd)(k:Nat)(x:Nd):List Nd:=l.take k++[x]++l.drop k
theorem insAt_length {l:List Nd}{k:Nat}{x:Nd}(h:k<=l.length):(insAt l k x).length=l.length+1:=by
 simp[insAt];omega
theorem nd_insAt {l:List Nd}{k:Nat}{x:Nd}(h:k<=l.length)(q:Nat):nd (insAt l k x) q=if q<k then nd l q else if q=k then x else nd l (q-1):=by
 by_cases h1:q<k
 ·rw[qf h1,insAt,z5q (by simp;omega),z5q (by simp;omega)];simp only[nd,List.getD,Qc,qf h1]
 ·rw[qb h1]
  by_cases h2:q=k
  ·subst h2;rw[qf rfl,insAt,z5q (by simp;omega),nd_append_ge (by simp;omega)];simp only[qS,QX h,jm];rfl
  ·rw[qb h2,insAt,nd_append_ge (by simp;omega)];simp only[nd,List.getD,QF,Qn,qS,QC,QX h]
   congr 2;omega
theorem ins_srt {l:List Nd}{k:Nat}{x:Nd}(h:k<=l.length)(hs:Srt 0 l.length (nd l))(hlo:0<k->¬Lt x (nd l (k-1)))(hhi:∀q,k<=q->q<l.length->Lt x (nd l q)):Srt 0 (insAt l k x).length (nd (insAt l k x))/\Stb (l++[x]) (insAt l k x):=by
 refine⟨srt_of_next fun q _ hq=> ?_,?_⟩
 ·rw[insAt_length h] at hq;rw[nd_insAt h,nd_insAt h]
  by_cases c1:q+1<k
  ·rw[qf c1,qf (by omega)];exact hs q (q+1) (by omega) (by omega) (by omega)
  ·rw[qb c1]
   by_cases c2:q+1=k
   ·rw[qf c2,qf (by omega)];have:=hlo (by omega);rwa [show k-1=q by omega] at this
   ·rw[qb c2,qb (show¬q<k by omega)]
    by_cases c3:q=k
    ·rw[qf c3];exact fun hh=>Lt.irrefl _ (hh.trans (hhi _ (by omega) (by omega)))
    ·rw[qb c3];exact hs _ _ (by omega) (by omega) (by omega)
 ·have:=stb_blocks (A:=l.take k) (B:=l.drop k) (C:=[x]) (D:=[]) (fun b hb c hc=>by
   obtain⟨q,hq,rfl⟩:=Qg hb;simp only[qY] at hc;subst hc;simp only[QP] at hq;simp only[jq];have:=hhi (k+q) (by omega) (by omega)
   rwa [z3e (by omega)] at this)
  simpa [insAt,Jl] using this
theorem gtN_eq (a b:Nd):(!(sLt a.key b.key||sEq a.key b.key)||(sEq a.key b.key && decide (b.id<a.id)))=ltN b a:=by
 rw[Qe,ltN_iff];simp only[Lt,qr,qh,qk,qi,qj,sEq_iff,qg]
 constructor
 ·rintro(⟨h1,h2⟩|⟨h1,h2⟩)
  ·left
   cases h:sLt b.key a.key with
   |true=>rfl
   |false=>exact absurd (ba_ext (bl_eq h1 h)) h2
  ·exact .inr ⟨h1.symm,h2⟩
 ·rintro(h1|⟨h1,h2⟩)
  ·left
   refine⟨?_,fun e=> ?_⟩
   ·cases h:sLt a.key b.key with
    |false=>rfl
    |true=>
     have:=bl_trans h h1;rw[bl_irr] at this
     cases this
   ·rw[e] at h1;simp[sLt,bl_irr] at h1
  ·exact .inr ⟨h1.symm,h2⟩
theorem ins_rows {ys:List Nd}{k:Nat}(hk:k<=ys.length)(x:Nd){q:Nat}(hq:q<ys.length+1):
  (if q=k then SV.int .i64 x.id:: .str x.key:: .int .u32 x.word::List.drop 3 (z64 (nds (ys++[⟨0,⟨#[]⟩,0⟩])) (k+1) (min (ys.length+1-k) (ys.length-k)) (srcF (nds (ys++[⟨0,⟨#[]⟩,0⟩])) k) k)
   else z64 (nds (ys++[⟨0,⟨#[]⟩,0⟩])) (k+1) (min (ys.length+1-k) (ys.length-k)) (srcF (nds (ys++[⟨0,⟨#[]⟩,0⟩])) k) q)=[SV.int .i64 (nd (insAt ys k x) q).id,.str (nd (insAt ys k x) q).key,.int .u32 (nd (insAt ys k x) q).word]:=by
 have hm:min (ys.length+1-k) (ys.length-k)=ys.length-k:=by omega
 rw[hm,nd_insAt hk]
 by_cases c1:q=k
 ·subst c1;rw[qf rfl,qb (by omega),qf rfl];simp only[z64];rw[qb (by omega)]
  rfl
 ·rw[qb c1];simp only[z64,srcF]
  by_cases c2:q<k
  ·rw[qb (by omega),qf c2];simp only[nds,Nd.sv];rw[z5q (by omega)]
  ·rw[qf (by omega),qb c2,qb c1];simp only[nds,Nd.sv];rw[show k+(q-(k+1))=q-1 by omega,z5q (by omega)]
def RotBm.exE:=aj9 @zg @zh @zq @zk @z14 @z1a @zi @zo (aj9 @zl z5u @zp z47 z4n @z19.eq_1 @z12.eq_1 @ints.eq_1 (aj4 @idsBox.eq_1 @app_nds ec24 @z1b))
def RotBm.gxE:=aj7 z47 ec16 z4n @z19.eq_1 @z12.eq_1 @ints.eq_1 @idsBox.eq_1
open RotBm (gxE exE)
open D0 (oxE sdE)
theorem refSort_spec (xs:List Nd)(n:Nat)(hn:xs.length=n)(hx:n<=1000000):
  zf prog 131 [.slc false 0 0 0 n] ⟨1,[(0,uQ (.row ⟨false,false,62,3,n,nds xs⟩))]⟩
   (fun s H1=>s= .slc true 1 0 0 n/\H1=⟨2,[(1,uQ (.row ⟨true,false,62,3,n,nds (z43 xs)⟩))]⟩):=by
 subst hn;refine zf.ofC false 80 [.tmp 2] func131 rfl rfl ntmps131 results131 rfl ?_;intro w0 own0 β0 Q hQ hQn;simp only[z1c];refine Zrs [0] ?_;refine Zrs [0,3] ?_;refine z6 ?_;refine Zrs [0,3,4] ?_;refine z29 3 62 3 (nds []) rfl ?_;dsimp only;refine zb fun Q0 hN0 hX0 hR0 hE0=> ?_;refine zn (σ:=Nat×List Nd) (fun σ=>(σ.1<=xs.length/\σ.2.length=σ.1)/\Srt 0 σ.2.length (nd σ.2)/\Stb (xs.take σ.1) σ.2) (fun σ=>xs.length-σ.1) (fun σ=>[(0,.slc false 0 0 0 xs.length),(3,.slc true 1 0 0 σ.2.length),(4,.int .i64 σ.1)]) (fun σ=>⟨2,[(1,uQ (.row ⟨true,false,62,3,σ.2.length,nds σ.2⟩)),(0,uQ (.row ⟨false,false,62,3,xs.length,nds xs⟩))]⟩) (0,[]) ⟨⟨qo _,rfl⟩,fun p q _ _ h=>by simp at h,Stb.refl _⟩ (ρ:=id) (Zg id) ?_;rintro⟨i,ys⟩ hi QL1 hL1 hRL1 hEL1;refine z6 ?_;refine Zrs [0,3,4,9] ?_;refine z7 _ rfl ?_ ?_
 ·intro h9;replace h9:=Znb h9;obtain⟨⟨hi1,hi2⟩,hi3,hi4⟩:=hi;dsimp only at hi1 hi2 hi3 hi4;refine za (z6 (zb fun Q1 hN1 hX1 hR1 hE1=> ?_));refine Zrs [0,3,4,5] ?_;refine z6 (zb fun Q2 hN2 hX2 hR2 hE2=> ?_);refine zn (σ:=Nat) (fun k=>k<=ys.length/\∀q,k<=q->q<ys.length->Lt (nd xs i) (nd ys q)) (fun k=>k) (fun k=>[(0,.slc false 0 0 0 xs.length),(3,.slc true 1 0 0 ys.length),(4,.int .i64 i),(5,.int .i64 k)]) (fun _=>⟨2,[(1,uQ (.row ⟨true,false,62,3,ys.length,nds ys⟩)),(0,uQ (.row ⟨false,false,62,3,xs.length,nds xs⟩))]⟩) ys.length ⟨qc _,fun q _ _=>by omega⟩ (ρ:=id) (Zg id) ?_;rintro k hk QL2 hL2 hRL2 hEL2;refine z6 (z6 ?_);refine Zrd [0,3,4,5,57] [0,1,2,3,4,5,6,7,8,9,10,11,12,13,14,15,16,17,18,19,20,21,22,23,24,25,26,27,28,29,30,31,32,33,34,35,36,37,38,39,40,41,42,43] [[],[],[],[],[],[],[],[],[],[],[],[],[],[],[],[],[],[],[],[],[],[],[],[],[],[],[],[],[],[],[],[],[],[],[],[],[],[],[],[],[],[],[],[]] [[],[],[],[],[],[],[],[],[],[],[],[],[],[],[],[],[],[],[],[],[],[],[],[],[],[],[],[],[],[],[],[],[],[],[],[],[],[],[],[],[],[],[],[]] ?_;intro K hK;iterate 44 (refine Zo (Zi [] []) ?_)
  refine zx (Zpr (hK _ _ ?_));clear hK K;refine z7 _ rfl ?_ ?_
  ·intro h57;replace h57:=Znb h57;obtain⟨hk1,hk2⟩:=hk
   have hgt:Lt (nd xs i) (nd ys (k-1)):=by
    rw[<-ltN_iff,<-gtN_eq];have:=h57.2;rw[show((k:Int)-1).toNat=k-1 from by omega] at this;simpa using this
   refine za (zb fun Q3 hN3 hX3 hR3 hE3=> ?_);refine Zrg [0,3,4,5] ?_;refine zd (hN3 _ _ (zd (hL2 _ _ ?_)));rw[show(k:Int)-1=((k-1:Nat):Int) from by omega];refine⟨k-1,⟨⟨by omega,fun q hq hq2=> ?_⟩,by omega⟩,id,(Zg id)⟩
   by_cases e:q=k-1
   ·subst e;exact hgt
   ·exact hk2 q (by omega) hq2
  ·intro h57;replace h57:=Znb h57;obtain⟨hk1,hk2⟩:=hk
   have hle:0<k->¬Lt (nd xs i) (nd ys (k-1)):=fun hk0=>by
    rw[<-ltN_iff,<-gtN_eq];have:=h57 (by omega);rw[show((k:Int)-1).toNat=k-1 from by omega] at this;intro hc;replace hc:=Znb hc;rcases hc with⟨h1,h2⟩|⟨h1,h2⟩
    ·simp[h1,h2] at this
    ·simp[h1] at this;omega
   refine zm (hEL2 _ _ _ (hX2 _ _ ?_));refine Zrs [0,3,4,5] ?_;refine z6 ?_;refine Zrd [0,3,4,5] [0,1,2,3,4,5,6,7] [[],[],[],[],[],[],[],[3]] [[],[],[],[],[],[],[],[3]] ?_;intro K hK;iterate 7 (refine Zo (Zi [] []) ?_)
   refine Zo (Zi [3] [3]) ?_;rw[show((k:Int)+1).toNat=k+1 from by omega];repeat(with_reducible apply qe;exact sdE)
   refine zx (Zpr (hK _ _ ?_));clear hK K;refine Zrg [0,3,4] ?_;refine zd (hN1 _ _ ?_);refine Zrg [0,3,4] ?_;refine zd (hL1 _ _ ?_);rw[show(i:Int)+1=((i+1:Nat):Int) from by omega];have hins:=ins_srt hk1 hi3 hle hk2;have hlen:=insAt_length (x:=nd xs i) hk1
   have hst:Stb (xs.take (i+1)) (insAt ys k (nd xs i)):=by
    rw[take_nd (by omega)];refine Stb.trans (fun kk ii=> ?_) hins.2;rw[QW,QW,hi4]
   refine⟨(i+1,insAt ys k (nd xs i)),⟨⟨⟨by dsimp only;omega,by dsimp only;omega⟩,hins.1,hst⟩,by dsimp only;omega⟩,fun j=>if j=1 then 3 else j,?_⟩;simp only[hlen];exact(gvS (fun j=>if j=1 then 3 else j) ⟨Zs,(by simp[z4w,Sk.find,uQ,z1d.eq_1,z1d.eq_2,z1d.eq_3,z3g,SV.renL,SV.ren,Obj.lt_row,SV.ltL,SV.lt,gxE];exact fun q hq=>ins_rows hk1 (nd xs i) hq),Zs,Zs,Zs⟩ ⟨rfl,rfl,qd rfl,rfl⟩)
 ·intro h9;replace h9:=Znb h9;obtain⟨⟨hi1,hi2⟩,hi3,hi4⟩:=hi;dsimp only at hi1 hi2 hi3 hi4;refine zm (hEL1 _ _ _ (hX0 _ _ ?_));refine Zrs [2] ?_;refine ze (hQ _ _ ?_);have hyl:ys.length=xs.length:=by omega
  have hys:ys=z43 xs:=srtN_unique (by have:=hi4;rwa [show i=xs.length by omega,QZ] at this) hi3;rw[hyl,hys];refine zc (H':=⟨2,[(1,uQ (.row ⟨true,false,62,3,xs.length,nds (z43 xs)⟩))]⟩) (.inl rfl) ?_;refine Zou ?_;refine⟨Zs,(Zg id),Zs,?_⟩;trivial
end
section
theorem Stb.perm {xs ys:List Nd}(h:Stb xs ys):xs.Perm ys:=by
 rw[List.perm_iff_count];intro x
 have h1:∀l:List Nd,l.count x=(l.filter (cls x.key x.id)).count x:=fun l=>by
  rw[List.count_filter];simp[cls]
 exact(h1 xs).trans ((Qj (List.count x) (h x.key x.id)).trans (h1 ys).symm)
theorem z1o (xs:List Nd):xs.Perm (z43 xs):=(srtN_stb xs).perm
theorem anyB_iff {n:Nat}{p:Nat->Bool}:anyB n p=false↔∀i,i<n->p i=false:=⟨fun h i hi=>anyB_elim h hi,z1y⟩
theorem z5z (xs:List Nd):z1j xs=0↔xs.length<=64/\(∀x∈xs,badN x=false)/\xs.Pairwise fun a b=>twinN a b=false:=by
 rw[z1j]
 by_cases c1:64<xs.length
 ·rw[qf c1];exact⟨fun h=>by omega,fun h=>by omega⟩
 ·rw[qb c1]
  cases c2:anyB xs.length (fun i=>badN (nd xs i)) with
  |true=>
   rw[qf rfl];refine⟨fun h=>by omega,fun h=> ?_⟩;rw[z1y fun i hi=>by rw[z3e hi];exact h.2.1 _ (qN hi)] at c2
   cases c2
  |false=>
   rw[qb qp];rw[anyB_iff] at c2
   cases c3:anyB xs.length (fun i=>anyB i fun k=>twinN (nd xs k) (nd xs i)) with
   |true=>
    rw[qf rfl];refine⟨fun h=>by omega,fun h=> ?_⟩
    rw[z1y fun i hi=>z1y fun k hk=>by
     rw[z3e hi,z3e (show k<xs.length by omega)]
     exact Qb.1 h.2.2 k i (by omega) hi hk] at c3
    cases c3
   |false=>
    rw[qb qp];rw[anyB_iff] at c3;refine⟨fun _=>⟨by omega,fun x hx=> ?_,Qb.2 fun k i hk hi hki=> ?_⟩,fun _=>rfl⟩
    ·obtain⟨i,hi,rfl⟩:=Qg hx;have:=c2 i hi;rwa [z3e hi] at this
    ·have:=anyB_iff.1 (c3 i hi) k hki;rwa [z3e hi,z3e hk] at this
theorem good_perm {xs ys:List Nd}(h:xs.Perm ys)(hg:z1j xs=0):z1j ys=0:=by
 rw[z5z] at*;obtain⟨h1,h2,h3⟩:=hg;refine⟨by rw[<-h.length_eq];exact h1,fun x hx=>h2 x (h.mem_iff.2 hx),?_⟩;exact(h.pairwise_iff (R:=fun a b=>twinN a b=false) (fun {x y} hh=>by rw[twinN_comm];exact hh)).1 h3
theorem z59 {a b:Nd}(h:twinN a b=false):a.id≠b.id/\a.key≠b.key:=by
 simp only[twinN,sEq_iff,qi,qg] at h;exact h
theorem srtN_idem (xs:List Nd):z43 (z43 xs)=z43 xs:=srtN_same (srtN_srt xs)
theorem srtN_strict {xs:List Nd}(hg:z1j xs=0):(z43 xs).Pairwise fun a b=>sLt a.key b.key=true:=by
 have h1:=srtN_ord xs;have h2:=((z5z _).1 (good_perm (z1o xs) hg)).2.2;refine(h1.and h2).imp fun {a b} h=> ?_;obtain⟨h1,h2⟩:=h;have hk:=(z59 h2).2
 cases hlt:sLt a.key b.key with
 |true=>rfl
 |false=>
  exfalso
  apply h1
  left
  cases hlt2:sLt b.key a.key with
  |true=>rfl
  |false=>exact absurd (ba_ext (bl_eq hlt hlt2)) hk
theorem sLt_asymm {a b:ByteArray}(h:sLt a b=true):sLt b a=false:=by
 cases h2:sLt b a with
 |false=>rfl
 |true=>
  have:=bl_trans h h2;rw[bl_irr] at this;cases this
theorem nd_mem {xs:List Nd}{i:Nat}(h:i<xs.length):nd xs i∈xs:=by rw[z3e h];exact qN h
theorem good_sub {xs ys:List Nd}(h:ys.Sublist xs)(hg:z1j xs=0):z1j ys=0:=by
 rw[z5z] at*;obtain⟨h1,h2,h3⟩:=hg;exact⟨qT h.length_le h1,fun x hx=>h2 x (h.mem hx),h3.sublist h⟩
end
section
theorem Tryz.tyIntss:z1s prog 78=⟨true,.slice 22,1,24,[]⟩:=by kernel_rfl
theorem Tryz.szIntss:z2l prog 78=1:=by kernel_rfl
theorem Tryz.zInts:z3f prog 22=some [.nils]:=by kernel_rfl
theorem z1u (m:Nat)(l:List Int)(i:Nat):SV.ltL m (ints l i):=by simp[ints,SV.ltL,SV.lt]
theorem z2u (π:Pn)(xs:List Int)(i:Nat):SV.renPL π (ints xs i)=ints xs i:=by simp[ints,SV.renPL,SV.renP]
def ind (cs:List (List Int))(i:Nat):List Int:=cs.getD i []
def ilR (g:Bool)(f:Nat)(cs:List (List Int)):Nat->List SV:=fun i=>[.slc g f (i+1) 0 (ind cs i).length]
def ilF (o:Bool)(cs:List (List Int)):Nat->Sk.Obj:=fun i=> .row ⟨o,false,3,1,(ind cs i).length,ints (ind cs i)⟩
theorem ilR_ap (g:Bool)(f:Nat)(cs:List (List Int))(i:Nat):ilR g f cs i=[.slc g f (i+1) 0 (ind cs i).length]:=rfl
theorem ilR_fold (g:Bool)(f:Nat)(cs:List (List Int)):(fun i=>[SV.slc g f (i+1) 0 (ind cs i).length])=ilR g f cs:=rfl
theorem ilF_ap (o:Bool)(cs:List (List Int))(i:Nat):ilF o cs i= .row ⟨o,false,3,1,(ind cs i).length,ints (ind cs i)⟩:=rfl
theorem ilR_ren (ρ:Nat->Nat)(g:Bool)(f:Nat)(cs:List (List Int)):(fun i=>SV.renL ρ (ilR g f cs i))=ilR g (ρ f) cs:=by funext i;simp[ilR,SV.renL,SV.ren]
theorem ilR_ren' (ρ:Nat->Nat)(g:Bool)(f:Nat)(cs:List (List Int))(i:Nat):SV.renL ρ (ilR g f cs i)=ilR g (ρ f) cs i:=jH (ilR_ren ρ g f cs) i
theorem ilR_lt (m:Nat)(g:Bool)(f:Nat)(cs:List (List Int))(i:Nat):SV.ltL m (ilR g f cs i)↔f<m:=by simp[ilR,SV.ltL,SV.lt]
theorem ilF_gives (ρ:Nat->Nat)(o o':Bool)(cs:List (List Int))(i:Nat):z1d ρ (ilF o cs i) (ilF o' cs i)↔(o'=true->o=true):=by
 simp[ilF,z1d,z3g,z1x]
theorem ilFm_lt (m:Nat)(o:Bool)(cs:List (List Int))(i:Nat):(ilF o cs i).lt m:=Obj.lt_row.2 fun q _=>z1u m _ q
theorem ilF_own (o:Bool)(cs:List (List Int))(i:Nat):(ilF o cs i).own=o:=rfl
theorem ilF_fown (o:Bool)(e:Go.TypeId)(sz:Nat)(cs:List (List Int))(k:Nat):(fam o e sz (ilF o cs) k).own=o:=fam_own1 (ilF_own o cs) k
theorem ilF_ren (ρ:Nat->Nat)(o:Bool)(cs:List (List Int)):(fun i=>(ilF o cs i).ren ρ)=ilF o cs:=by
 funext i;simp[ilF,Obj.ren,Row.ren,z1v]
theorem ilR_renP (ρ:Nat->Nat)(g:Bool)(f j a:Nat)(cs:List (List Int))(i:Nat):SV.renPL (mvP ρ f j a) (ilR g f cs i)=if i=j then [.slc g a 0 0 (ind cs i).length] else [.slc g (ρ f) (i+1) 0 (ind cs i).length]:=by
 simp only[ilR,SV.renPL,SV.renP,mvP,QT,j6]
 split<;>rfl
theorem clR_renO (ρ:Nat->Nat)(g:Bool)(f j a h:Nat)(hh:h≠f)(cs:List (List Nd))(i:Nat):SV.renPL (mvP ρ f j a) (clR g h cs i)=clR g (ρ h) cs i:=by
 simp[clR,SV.renPL,SV.renP,mvP,hh]
theorem ilF_givesP (π:Pn)(o o':Bool)(cs cs':List (List Int))(i:Nat)(h:o'=true->o=true)(e:ind cs' i=ind cs i):zt π (ilF o cs i) (ilF o' cs' i):=⟨fun h2=>⟨h h2,rfl⟩,rfl,by rw[e];exact qc _,fun q _=>by rw[e];exact(z2u π _ q).symm⟩
theorem ilF_newP (π:Pn)(n:Nat)(l:List Int)(cs:List (List Int))(i:Nat)(hn:l.length=n)(e:ind cs i=l):zt π (.row ⟨true,false,3,1,n,ints l⟩) (ilF true cs i):=⟨fun _=>⟨rfl,rfl⟩,rfl,by rw[e,hn];exact qc _,fun q _=>by rw[e];exact(z2u π _ q).symm⟩
theorem ind_append {cs:List (List Int)}{c:List Int}{i:Nat}(h:i<cs.length):ind (cs++[c]) i=ind cs i:=by simp[ind,List.getD,Qv h]
theorem ind_last (cs:List (List Int))(c:List Int):ind (cs++[c]) cs.length=c:=by simp[ind,List.getD]
theorem ind_lt {cs:List (List Int)}{i:Nat}(h:i<cs.length):ind cs i=cs[i]:=by simp[ind,List.getD,h]
def ec30:=aj @Tryz.tyIntss @Tryz.szIntss
def ec31:=aj @ilR_ap @ilF_ap
def InGm.exE:=aj9 @zg @zh @zi @zo @zl z5u @zp z47 (aj9 z4n ec28 ec22 @z2h ec23 ec24 ec30 @Tryz.zInts (aj8 @zk @z14 @zq ec31 @ints.eq_1 @z1f @z2m @z12.eq_1))
def ec32:=aj5 @ilR_ren' @ilR_lt @ilF_gives @ilFm_lt @ilF_fown
def InGm.gxE:=aj9 z47 ec16 z4n ec25 ec26 ec29 ec32 @z1x (aj @z1u @z12.eq_1)
def ec33:=aj @ilF_ren @ilR_ren
def InGm.axE:=aj9 @zg @zh @zi @zo @zl z5u @zp z47 (aj9 z4n ec28 ec22 @z2h ec24 ec30 @Tryz.zInts @zk (aj9 @z14 @zq @z1f @z2m @z12.eq_1 @z1v @z2e @z3z (aj ec27 ec33)))
open InGm (gxE axE exE)
open D0 (oxE sdE)
theorem ordered_spec (xs:List Nd)(n:Nat)(hn:xs.length=n)(hx:n<=19):
  zf prog 79 [.slc false 0 0 0 n] ⟨1,[(0,uQ (.row ⟨false,false,62,3,n,nds xs⟩))]⟩
   (fun s H1=>s= .tup [.slc true 1 0 0 n,.bool (decide (z1j xs=0))]/\H1=⟨2,[(1,uQ (.row ⟨true,false,62,3,n,nds (z43 xs)⟩))]⟩):=by
 refine zf.ofC false 9 [.tmp 2,.tmp 3] func79 rfl rfl ntmps79 results79 rfl ?_;intro w0 own0 β0 Q hQ hQn;simp only[z1c];refine Zrs [0] ?_;refine sg [2,3] rfl ?_;intro K hK;refine Zo Zl ?_;refine Zo Zl ?_;refine Zc1 (sort_spec xs n hn hx) (id) ?_;refine Zo Zl ?_;refine Zo Zl ?_;refine Zc1 (check_spec xs n hn (by omega)) (id) ?_;iterate 3 (refine Zo Zl ?_)
 refine z8 (Zpr (hK _ _ ?_));clear hK K;refine ze (hQ _ _ ?_);refine zc (H':=⟨2,[(1,uQ (.row ⟨true,false,62,3,n,nds (z43 xs)⟩))]⟩) (.inl rfl) ?_;refine Zou ?_;refine⟨Zs,(Zg id),Zs,?_⟩
 all_goals first|trivial|exact⟨by rw[<-decide_eq];rfl,trivial⟩
theorem level_spec (n:Int):zf prog 50 [.int .i64 n] ⟨0,[]⟩ (fun s H1=>s= .bool (decide (0<=n) && decide (n<=16))/\H1=⟨0,[]⟩):=by
 refine zf.ofC false 9 [.tmp 2] func50 rfl rfl ntmps50 results50 rfl ?_;intro w0 own0 β0 Q hQ hQn;simp only[z1c];refine Zrs [0] ?_;refine Zrs [2] ?_;refine ze (hQ _ _ ?_);refine zc (H':=⟨0,[]⟩) (.inl rfl) ?_;refine Zou ?_;refine⟨Zs,(Zg id),Zs,?_⟩
 all_goals first|trivial|exact⟨rfl,trivial⟩
end
section
def lstN (xs:List Nd)(lv:Int):List (List Int):=if z1j xs=0/\0<=lv/\lv<=16 then lstG (z43 xs) lv else []
theorem lstG_len (s:List Nd)(lv:Int):(lstG s lv).length=(z4l s lv).length:=by simp[lstG]
theorem ind_lstG (s:List Nd)(lv:Int){i:Nat}(h:i<(z4l s lv).length):ind (lstG s lv) i=(cnd (z4l s lv) i).map (·.id):=by
 rw[ind_lt (by rw[lstG_len];exact h),cnd_lt h];simp[lstG]
theorem clsN_len (s:List Nd)(lv:Int):(z4l s lv).length<=s.length:=by
 unfold z4l
 split
 ·simp
 ·have:=clsG_len' lv s [];simpa using this
theorem cnd_len (s:List Nd)(lv:Int)(i:Nat):(cnd (z4l s lv) i).length<=s.length:=by
 by_cases h:i<(z4l s lv).length
 ·have h16:lv<=16:=by
   by_cases g:16<lv
   ·rw[z4l,qf g] at h;simp at h
   ·omega
  have:=(clsN_ok h16 s).1.eq (cnd (z4l s lv) i) (by rw[cnd_lt h];exact qN h);rw[this];exact jF ..
 ·have:cnd (z4l s lv) i=[]:=by simp[cnd,List.getD,Nat.not_lt.1 h]
  rw[this];simp
theorem app_intsN {xs ys:List Int}{n:Nat}(h:xs.length=n):app (ints xs) n (ints ys)=ints (xs++ys):=by subst h;exact z2m xs ys
theorem take_ind {ls:List (List Int)}{i:Nat}(h:i<ls.length):ls.take (i+1)=ls.take i++[ind ls i]:=by
 rw[ind_lt h,QU h]
theorem map_take_id {c:List Nd}{j:Nat}(h:j<c.length):(c.take (j+1)).map (·.id)=(c.take j).map (·.id)++[(nd c j).id]:=by
 rw[take_nd h,yC];rfl
def InHm.exE:=aj9 @zg @zh @zi @zo @zl z5u @zp z47 (aj9 z4n ec28 ec22 @z2h ec23 ec30 @Tryz.zInts @zk (aj7 @z14 @zq ec31 @ints.eq_1 @z1f @z2m @z12.eq_1))
def InHm.axE:=aj9 @zg @zh @zi @zo @zl z5u @zp z47 (aj9 z4n ec28 ec22 @z2h ec30 @Tryz.zInts @zk @z14 (aj9 @zq @z1f @z2m @z12.eq_1 @z1v @z2e @z3z ec27 (aj3 @clR_fold ec33 @ilR_fold)))
open InGm (gxE)
open InHm (axE exE)
open D0 (oxE sdE)
theorem lists_spec (xs:List Nd)(n:Nat)(hn:xs.length=n)(lv:Int)(hx:n<=19):
  zf prog 48 [.slc false 0 0 0 n,.int .i64 lv] ⟨1,[(0,uQ (.row ⟨false,false,62,3,n,nds xs⟩))]⟩
   (fun s H1=>s= .slc true 1 0 0 (lstN xs lv).length/\H1=⟨3,[(1,uQ (.row ⟨true,false,22,1,(lstN xs lv).length,ilR true 2 (lstN xs lv)⟩)),(2,((lstN xs lv).length+1,fam true 3 1 (ilF true (lstN xs lv))))]⟩):=by
 subst hn;have hsl:(z43 xs).length=xs.length:=(z1o xs).length_eq.symm;refine zf.ofC false 54 [.tmp 4] func48 rfl rfl ntmps48 results48 rfl ?_;intro w0 own0 β0 Q hQ hQn;simp only[z1c];refine Zrs [0,1] ?_;refine sg [1,5,6] rfl ?_;intro K hK;refine Zo Zl ?_;refine Zo Zl ?_;refine Zc1 (ordered_spec xs xs.length rfl hx) (id) ?_;iterate 5 (refine Zo Zl ?_)
 refine z8 (Zpr (hK _ _ ?_));clear hK K;refine z6 ?_;refine Zrs [1,5,27] ?_;refine z7 _ rfl ?_ ?_
 ·intro h27
  refine Zrs [4] ?_;refine z29 4 22 1 (ilR true 3 []) rfl ?_;dsimp only;refine z2x 3 1 (ilF true []) ?_;dsimp only;refine ze (hQ _ _ ?_)
  have hno:¬(z1j xs=0/\0<=lv/\lv<=16):=by
   rintro⟨g1,g2,g3⟩;rcases(by simpa using h27:(¬z1j xs=0\/lv<0)\/16<lv) with(h|h)|h
   ·exact h g1
   ·omega
   ·omega
  rw[show lstN xs lv=[] by rw[lstN,qb hno]];refine zu (fun q=>if q=1 then 2 else if q=2 then 3 else q) (.slc true 1 0 0 ([]:List (List Int)).length) (⟨3,[(1,uQ (.row ⟨true,false,22,1,([]:List (List Int)).length,ilR true 2 []⟩)),(2,(([]:List (List Int)).length+1,fam true 3 1 (ilF true [])))]⟩) (.inl rfl) ?_;refine Zou ?_;refine⟨Zs,Zs,(Zg (fun q=>if q=1 then 2 else if q=2 then 3 else q)),Zs,?_⟩
  all_goals first|trivial|exact⟨rfl,trivial⟩
 ·intro h27
  refine za ?_;refine Zrs [1,5,7] ?_;refine z6 ?_;refine sg [7,30,31,32] rfl ?_;intro K hK;iterate 2 (refine Zo Zl ?_)
  refine Zo Zl ?_;have h27':z1j xs=0/\0<=lv/\lv<=16:=by simpa [and_assoc] using h27
  refine Zc1 (classes_spec (z43 xs) xs.length hsl lv (by omega)) (fun q=>if q=0 then 1 else q) ?_;iterate 2 (refine Zo Zl ?_)
  refine z8 (Zpr (hK _ _ ?_));clear hK K;obtain⟨cl,hcl⟩:∃cl,z4l (z43 xs) lv=cl:=⟨_,rfl⟩;obtain⟨ls,hls⟩:∃ls,lstG (z43 xs) lv=ls:=⟨_,rfl⟩;have hml:cl.length<=xs.length:=by rw[<-hcl,<-hsl];exact clsN_len _ _
  have hll:ls.length=cl.length:=by rw[<-hcl,<-hls,lstG_len]
  have hcn:∀i,(cnd cl i).length<=xs.length:=fun i=>by rw[<-hcl,<-hsl];exact cnd_len _ _ i
  have hil:∀i,i<cl.length->ind ls i=(cnd cl i).map (·.id):=fun i hi=>by rw[<-hls,<-hcl] at*;exact ind_lstG _ _ hi
  rw[hcl];refine z29 7 22 1 (ilR true 5 (ls.take 0)) rfl ?_;dsimp only;refine z2x 3 1 (ilF true (ls.take 0)) ?_;dsimp only;refine zb fun Q0 hN0 hX0 hR0 hE0=> ?_;refine zn (σ:=Nat) (fun i=>i<=cl.length) (fun i=>cl.length-i) (fun i=>[(7,.slc true 4 0 0 i),(30,.slc true 2 0 0 cl.length),(31,.int .i64 cl.length),(32,.int .i64 i)]) (fun i=>⟨6,[(4,uQ (.row ⟨true,false,22,1,i,ilR true 5 (ls.take i)⟩)),(5,(i+1,fam true 3 1 (ilF true (ls.take i)))),(2,uQ (.row ⟨true,false,23,1,cl.length,clR true 3 cl⟩)),(3,(cl.length+1,fam true 62 3 (clF true cl)))]⟩) 0 (qo _) (ρ:=id) (Zg id) ?_;rintro i hi QL1 hL1 hRL1 hEL1;refine Zrs [7,30,31,32,33] ?_;refine z6 ?_;refine z7 _ rfl ?_ ?_
  ·intro h33;replace h33:=Znb h33;have hlc:=hcn i;refine za (z6 (zb fun Q1 hN1 hX1 hR1 hE1=> ?_));refine Zrs [7,9,30,31,32] ?_;refine Zrs [7,9,10,30,31,32] ?_;refine z6 ?_;refine Zrs [7,10,30,31,32,36,37,38] ?_;refine z29 10 3 1 (ints (((cnd cl i).take 0).map (·.id))) rfl ?_;dsimp only;refine zb fun Q2 hN2 hX2 hR2 hE2=> ?_;refine zn (σ:=Nat) (fun j=>j<=(cnd cl i).length) (fun j=>(cnd cl i).length-j) (fun j=>[(7,.slc true 4 0 0 i),(10,.slc true 6 0 0 j),(30,.slc true 2 0 0 cl.length),(31,.int .i64 cl.length),(32,.int .i64 i),(36,.slc true 3 (i+1) 0 (cnd cl i).length),(37,.int .i64 (cnd cl i).length),(38,.int .i64 j)]) (fun j=>⟨7,[(6,uQ (.row ⟨true,false,3,1,j,ints (((cnd cl i).take j).map (·.id))⟩)),(4,uQ (.row ⟨true,false,22,1,i,ilR true 5 (ls.take i)⟩)),(5,(i+1,fam true 3 1 (ilF true (ls.take i)))),(2,uQ (.row ⟨true,false,23,1,cl.length,clR true 3 cl⟩)),(3,(cl.length+1,fam true 62 3 (clF true cl)))]⟩) 0 (qo _) (ρ:=id) (Zg id) ?_;rintro j hj QL2 hL2 hRL2 hEL2;refine Zrs [7,10,30,31,32,36,37,38,39] ?_;refine z6 ?_;refine z7 _ rfl ?_ ?_
   ·intro h39;replace h39:=Znb h39;refine za (z6 (zb fun Q3 hN3 hX3 hR3 hE3=> ?_));refine Zrs [7,10,12,30,31,32,36,37,38] ?_;refine Zrg [7,10,30,31,32,36,37,38] ?_;refine zd (hN3 _ _ ?_);refine Zrg [7,10,30,31,32,36,37,38] ?_;refine zd (hL2 _ _ ?_);rw[show(j:Int)+1=((j+1:Nat):Int) from by omega,app_intsN (by simp;omega),<-map_take_id (by omega)];exact⟨j+1,⟨by omega,by omega⟩,fun q=>if q=6 then 9 else q,(Zg (fun q=>if q=6 then 9 else q))⟩
   ·intro h39;replace h39:=Znb h39;refine zm (hEL2 _ _ _ (hX2 _ _ ?_));refine Zrg [7,30,31,32] ?_;refine zd (hN1 _ _ ?_);have hjl:j=(cnd cl i).length:=by omega
    subst hjl;have hT:ls.take (i+1)=ls.take i++[(cnd cl i).map (·.id)]:=by rw[take_ind (by omega),hil i (by omega)]
    have hTl:(ls.take i).length=i:=by rw[qS];omega
    rw[QZ]
    have hout:∀q,q<i+1->app (ilR true 5 (ls.take i)) i (z42 1 1 [SV.slc true 6 0 0 (cnd cl i).length]) q=SV.renPL (mvP (fun q=>if q=4 then 8 else q) 5 i 6) (ilR true 5 (ls.take (i+1)) q):=fun q hq=>by
     rw[ilR_renP,hT]
     split
     ·rename_i e;subst e;rw[app,qb (by omega),jm,show ind (ls.take q++[(cnd cl q).map (·.id)]) q=(cnd cl q).map (·.id) by have h:=ind_last (ls.take q) ((cnd cl q).map (·.id));rw[hTl] at h;exact h,qA]
      rfl
     ·rw[ind_append (by omega),app,qf (by omega)];rfl
    have hlast:ind (ls.take (i+1)) i=(cnd cl i).map (·.id):=by
     have h:=ind_last (ls.take i) ((cnd cl i).map (·.id));rw[hTl] at h;rw[hT];exact h
    refine z4o (fr':=[(7,.slc true 4 0 0 (i+1)),(30,.slc true 2 0 0 cl.length),(31,.int .i64 cl.length),(32,.int .i64 i)]) (H':=⟨6,[(4,uQ (.row ⟨true,false,22,1,i+1,ilR true 5 (ls.take (i+1))⟩)),(5,(i+1+1,fam true 3 1 (ilF true (ls.take (i+1))))),(2,uQ (.row ⟨true,false,23,1,cl.length,clR true 3 cl⟩)),(3,(cl.length+1,fam true 62 3 (clF true cl)))]⟩) _ (Zgp (fun q=>if q=4 then 8 else q) (5) (i) (6) (z1g rfl qm (by decide) (zr.of (fun _=>⟨rfl,rfl⟩) rfl (qc _) hout) (Obj.lt_row.2 fun q _=>(ilR_lt _ _ _ _ q).2 (qd rfl)) (qd rfl) (z4f rfl rfl qm ⟨fun _=>⟨rfl,rfl⟩,rfl⟩ (jh _) (fun q hq hne=>⟨by omega,ilF_givesP _ _ _ _ _ _ id (by rw[hT];exact ind_append (by omega)),ilFm_lt _ _ _ _⟩) (ilF_newP _ _ _ _ _ (by simp) hlast) (ilFm_lt _ _ _ _) (qd rfl) (z1g rfl qm (by decide) (zr.of (fun _=>⟨rfl,rfl⟩) rfl (qc _) fun q _=>(show clR true 3 cl q=SV.renPL _ (clR true 3 cl q) by rw[clR_renO _ _ 5 i 6 3 (by decide)];rfl)) (Obj.lt_row.2 fun q _=>(clR_lt _ _ _ _ q).2 (qd rfl)) (qd rfl) (z1m.consO rfl (by decide) ⟨fun _=>⟨rfl,rfl⟩,rfl⟩ (qc _) (fun q _=>⟨clF_givesP _ _ _ _ _ _ id rfl,clFm_lt _ _ _ _⟩) (qd rfl) trivial))))) ?_;refine Zrg [7,30,31,32] ?_;refine zd (hL1 _ _ ?_)
    rw[show(i:Int)+1=((i+1:Nat):Int) from by omega];exact⟨i+1,⟨by omega,by omega⟩,id,(Zg id)⟩
  ·intro h33
   refine zm (hEL1 _ _ _ (hX0 _ _ ?_));refine Zrs [4] ?_;refine ze (hQ _ _ ?_)
   have hic:i=cl.length:=by
    have:¬(i:Int)<cl.length:=by simpa using h33
    omega
   subst hic;rw[show lstN xs lv=ls by rw[lstN,qf (by simpa [and_assoc] using h27),hls],Qt (by omega:ls.length<=cl.length),<-hll];refine zu (fun q=>if q=1 then 4 else if q=2 then 5 else q) (.slc true 1 0 0 ls.length) (⟨3,[(1,uQ (.row ⟨true,false,22,1,ls.length,ilR true 2 ls⟩)),(2,(ls.length+1,fam true 3 1 (ilF true ls)))]⟩) (.inl rfl) ?_;refine Zou ?_;refine⟨Zs,Zs,(Zg (fun q=>if q=1 then 4 else if q=2 then 5 else q)),Zs,?_⟩
   all_goals first|trivial|exact⟨rfl,trivial⟩
end
section
structure Ly where
 lvl:Int
 wd:Int
 ids:List Int
 cs:List Cl
 ps:List Pr
deriving DecidableEq
structure Cb where
 kind:Int
 node:Int
 lvl:Int
deriving DecidableEq
structure Fo where
 ns:List Nd
 ht:Int
 ly:List Ly
 cb:List Cb
deriving DecidableEq
def noLy:Ly:=⟨0,0,[],[],[]⟩
def noCb:Cb:=⟨0,0,0⟩
def noFo:Fo:=⟨[],0,[],[]⟩
def lyA (L:List Ly)(i:Nat):Ly:=L.getD i noLy
def cbA (C:List Cb)(i:Nat):Cb:=C.getD i noCb
theorem lyA_lt {l:List Ly}{i:Nat}(h:i<l.length):lyA l i=l[i]:=by simp[lyA,List.getD,h]
theorem cbA_lt {l:List Cb}{i:Nat}(h:i<l.length):cbA l i=l[i]:=by simp[cbA,List.getD,h]
theorem lyA_set_eq {l:List Ly}{i:Nat}{x:Ly}(h:i<l.length):lyA (l.set i x) i=x:=by simp[lyA,List.getD,h]
theorem lyA_set_ne {l:List Ly}{i j:Nat}{x:Ly}(h:i≠j):lyA (l.set i x) j=lyA l j:=by simp[lyA,List.getD,jv h]
theorem z3m {l:List Cb}{i:Nat}{x:Cb}(h:i<l.length):cbA (l.set i x) i=x:=by simp[cbA,List.getD,h]
theorem z5a {l:List Cb}{i j:Nat}{x:Cb}(h:i≠j):cbA (l.set i x) j=cbA l j:=by simp[cbA,List.getD,jv h]
def z36 (ns:List Nd)(h:Nat):List (Int×List Nd):=(List.range (h+1)).flatMap fun(n:Nat)=>(z4l (z43 ns) (n:Int)).map fun c=>((n:Int),c)
def shA (S:List (Int×List Nd))(i:Nat):Int×List Nd:=S.getD i (0,[])
theorem shA_lt {S:List (Int×List Nd)}{i:Nat}(h:i<S.length):shA S i=S[i]:=by simp[shA,List.getD,h]
theorem mem_shpL {ns:List Nd}{h:Nat}{x:Int×List Nd}:x∈z36 ns h↔∃n:Nat,n<=h/\x.1=n/\x.2∈z4l (z43 ns) n:=by
 simp only[z36,List.mem_flatMap,Qd,Qy]
 constructor
 ·rintro⟨n,hn,c,hc,rfl⟩;exact⟨n,by omega,rfl,hc⟩
 ·rintro⟨n,hn,h1,h2⟩;exact⟨n,by omega,x.2,h2,by rw[<-h1]⟩
theorem cls_disj {lv:Int}(h16:lv<=16)(l:List Nd):(z4l l lv).Pairwise fun c d=> ∀x∈c,x∉d:=by
 have h:=(clsN_ok h16 l).1
 have:∀c∈z4l l lv,∀x∈c,z41 x.word (hdN c).word lv=true:=fun c hc x hx=>by
  rw[h.eq c hc,grpW,ji] at hx;exact hx.2
 refine List.Pairwise.imp_of_mem ?_ h.pw;intro c d hc hd hs x h1 h2;have:=sameW_trans (sameW_symm (this c hc x h1)) (this d hd x h2);rw[hs] at this;cases this
theorem shpL_pw (ns:List Nd):∀h:Nat,h<=16->(z36 ns h).Pairwise fun a b=>a.1=b.1->∀x∈a.2,x∉b.2:=fun h h16=>by
 unfold z36;rw[List.pairwise_flatMap];refine⟨fun n hn=> ?_,?_⟩
 ·rw[Qd] at hn;rw[jZ];refine(cls_disj (lv:=(n:Int)) (by omega) (z43 ns)).imp ?_;intro a b hh _;exact hh
 ·refine List.Pairwise.imp ?_ List.pairwise_lt_range;intro a b hab x hx y hy e;simp only[Qy] at hx hy;obtain⟨_,_,rfl⟩:=hx;obtain⟨_,_,rfl⟩:=hy;dsimp only at e;omega
structure LyOk (x:Ly) (s:Int×List Nd) (m:Nat):Prop where
 lvl:x.lvl=s.1
 ids:x.ids=s.2.map (·.id)
 len:x.cs.length=s.2.length+2
 key:∀k,k<s.2.length->(cl x.cs (k+2)).key=(nd s.2 k).key
 wd:x.wd=(hdN s.2).word
 pn:x.ps.length=m
structure Fsh (fo:Fo):Prop where
 ck:z1j fo.ns=0
 sm:fo.ns.length<=19
 h0:0<=fo.ht
 h16:fo.ht<=16
 m1:1<=fo.cb.length
 m8:fo.cb.length<=8
 len:fo.ly.length=(z36 fo.ns fo.ht.toNat).length
 at_:∀i,i<fo.ly.length->LyOk (lyA fo.ly i) (shA (z36 fo.ns fo.ht.toNat) i) fo.cb.length
def idI (ids:List Int)(v:Int):Int:=idxB ids.length fun q=>decide (nth ids q=v)
def plP (L:List Ly)(id lv:Int)(i:Nat):Bool:=(lyA L i).lvl==lv && decide (0<=idI (lyA L i).ids id)
def plI (L:List Ly)(id lv:Int):Int:=idxB L.length (plP L id lv)
def plK (L:List Ly)(id lv:Int):Int:=if plI L id lv<0 then 0 else idI (lyA L (plI L id lv).toNat).ids id+2
theorem idI_mem {ids:List Int}{v:Int}(h:0<=idI ids v):∃k,k<ids.length/\idI ids v=k/\nth ids k=v:=by
 rcases z3n ids.length fun q=>decide (nth ids q=v) with⟨h1,_⟩|⟨j,h1,h2,h3,_⟩
 ·unfold idI at h;omega
 ·exact⟨j,h2,h1,jy h3⟩
theorem idI_of {ids:List Int}{v:Int}{k:Nat}(h:k<ids.length)(e:nth ids k=v):0<=idI ids v:=by
 rcases z3n ids.length fun q=>decide (nth ids q=v) with⟨_,h2⟩|⟨j,h1,_⟩
 ·have:=h2 k h;rw[qg] at this;exact absurd e this
 ·unfold idI;omega
theorem idI_at {ids:List Int}{v:Int}{k:Nat}(hd:ids.Nodup)(h:k<ids.length)(e:nth ids k=v):idI ids v=k:=by
 obtain⟨j,h1,h2,h3⟩:=idI_mem (idI_of h e);rw[h2];rw[z2n h] at e;rw[z2n h1] at h3;have hp:=Qb.1 hd;rcases je j k with g|g|g
 ·exact absurd (h3.trans e.symm) (hp j k h1 h g)
 ·omega
 ·exact absurd (e.trans h3.symm) (hp k j h h1 g)
section
variable {fo:Fo}
theorem Fsh.cls (h:Fsh fo){i:Nat}(hi:i<fo.ly.length):∃n:Nat,(n:Int)<=fo.ht/\(shA (z36 fo.ns fo.ht.toNat) i).1=n/\(shA (z36 fo.ns fo.ht.toNat) i).2∈z4l (z43 fo.ns) n:=by
 rw[shA_lt (by rw[<-h.len];exact hi)];obtain⟨n,h1,h2,h3⟩:=mem_shpL.1 (qN (l:=z36 fo.ns fo.ht.toNat) (n:=i) (by rw[<-h.len];exact hi));have:=h.h0;exact⟨n,by omega,h2,h3⟩
theorem cls_sub {lv:Int}(h16:lv<=16){l c:List Nd}(hc:c∈z4l l lv):c.Sublist l:=by
 rw[(clsN_ok h16 l).1.eq c hc];exact jL
theorem ids_inj {ns:List Nd}(hc:z1j ns=0){x y:Nd}(hx:x∈ns)(hy:y∈ns)(e:x.id=y.id):x=y:=by
 obtain⟨i,hi,rfl⟩:=Qg hx;obtain⟨j,hj,rfl⟩:=Qg hy;have hp:=((z5z ns).1 hc).2.2;rcases je i j with h|h|h
 ·exact absurd e (z59 (Qb.1 hp i j hi hj h)).1
 ·subst h;rfl
 ·exact absurd e.symm (z59 (Qb.1 hp j i hj hi h)).1
theorem ids_nodup {ns:List Nd}(hc:z1j ns=0):(ns.map (·.id)).Nodup:=by
 rw[Js,jZ];exact((z5z ns).1 hc).2.2.imp fun h=>(z59 h).1
theorem Fsh.sub (h:Fsh fo){i:Nat}(hi:i<fo.ly.length):(shA (z36 fo.ns fo.ht.toNat) i).2.Sublist (z43 fo.ns):=by
 obtain⟨n,h1,_,h3⟩:=h.cls hi;exact cls_sub (by have:=h.h16;omega) h3
theorem Fsh.mem (h:Fsh fo){i:Nat}(hi:i<fo.ly.length){x:Nd}(hx:x∈(shA (z36 fo.ns fo.ht.toNat) i).2):x∈fo.ns:=
 (z1o fo.ns).mem_iff.2 ((h.sub hi).subset hx)
theorem Fsh.idn (h:Fsh fo){i:Nat}(hi:i<fo.ly.length):(lyA fo.ly i).ids.Nodup:=by
 rw[(h.at_ i hi).ids];exact ids_nodup (good_sub (h.sub hi) (good_perm (z1o _) h.ck))
structure At (fo:Fo) (x:Nd) (lv:Int) (i k:Nat):Prop where
 hi:i<fo.ly.length
 hk:k<(lyA fo.ly i).ids.length
 lvl:(lyA fo.ly i).lvl=lv
 ide:nth (lyA fo.ly i).ids k=x.id
 nde:nd (shA (z36 fo.ns fo.ht.toNat) i).2 k=x
 cel:k+2<(lyA fo.ly i).cs.length
 key:(cl (lyA fo.ly i).cs (k+2)).key=x.key
 pI:plI fo.ly x.id lv=i
 pK:plK fo.ly x.id lv=k+2
 mm:x∈fo.ns
 l0:0<=lv
 lh:lv<=fo.ht
theorem Fsh.uniq (h:Fsh fo){i j:Nat}(hi:i<fo.ly.length)(hj:j<fo.ly.length){x:Nd}(h1:x∈(shA (z36 fo.ns fo.ht.toNat) i).2)(h2:x∈(shA (z36 fo.ns fo.ht.toNat) j).2)
  (he:(shA (z36 fo.ns fo.ht.toNat) i).1=(shA (z36 fo.ns fo.ht.toNat) j).1):i=j:=by
 have hp:=shpL_pw fo.ns fo.ht.toNat (by have:=h.h16;omega);have hi':i<(z36 fo.ns fo.ht.toNat).length:=by rw[<-h.len];exact hi
 have hj':j<(z36 fo.ns fo.ht.toNat).length:=by rw[<-h.len];exact hj
 rw[shA_lt hi'] at h1 he;rw[shA_lt hj'] at h2 he;rcases je i j with g|g|g
 ·exact absurd h2 (Qb.1 hp i j hi' hj' g he x h1)
 ·exact g
 ·exact absurd h1 (Qb.1 hp j i hj' hi' g he.symm x h2)
theorem Fsh.mk_at (h:Fsh fo){i k:Nat}(hi:i<fo.ly.length)(hk:k<(lyA fo.ly i).ids.length):At fo (Go.Proofs.nd (shA (z36 fo.ns fo.ht.toNat) i).2 k) (lyA fo.ly i).lvl i k:=by
 have hA:=h.at_ i hi;obtain⟨n,n1,n2,n3⟩:=h.cls hi;have hk':k<(shA (z36 fo.ns fo.ht.toNat) i).2.length:=by rw[hA.ids,qA] at hk;exact hk
 have hx:Go.Proofs.nd (shA (z36 fo.ns fo.ht.toNat) i).2 k∈(shA (z36 fo.ns fo.ht.toNat) i).2:=nd_mem hk'
 have hid:nth (lyA fo.ly i).ids k=(Go.Proofs.nd (shA (z36 fo.ns fo.ht.toNat) i).2 k).id:=by
  rw[z2n hk,z3e hk'];simp only[hA.ids,js]
 have hmem:=h.mem hi hx
 have hI:plI fo.ly (Go.Proofs.nd (shA (z36 fo.ns fo.ht.toNat) i).2 k).id (lyA fo.ly i).lvl=i:=by
  refine idxB_at ?_ hi fun q hq=> ?_
  ·rw[plP,qh,qv,qj];exact⟨rfl,idI_of hk hid⟩
  ·rw[plP,Bool.and_eq_false_iff]
   by_cases g:(lyA fo.ly q).lvl=(lyA fo.ly i).lvl
   ·right
    rw[qg];intro g2;obtain⟨j,j1,_,j3⟩:=idI_mem g2;have hqi:q<fo.ly.length:=by omega
    have hB:=h.at_ q hqi;have hj':j<(shA (z36 fo.ns fo.ht.toNat) q).2.length:=by rw[hB.ids,qA] at j1;exact j1
    have hy:Go.Proofs.nd (shA (z36 fo.ns fo.ht.toNat) q).2 j∈(shA (z36 fo.ns fo.ht.toNat) q).2:=nd_mem hj'
    have e1:(Go.Proofs.nd (shA (z36 fo.ns fo.ht.toNat) q).2 j).id=(Go.Proofs.nd (shA (z36 fo.ns fo.ht.toNat) i).2 k).id:=by
     rw[<-j3,z2n j1,z3e hj'];simp only[hB.ids,js]
    have e2:=ids_inj h.ck (h.mem hqi hy) hmem e1;rw[e2] at hy;have:=h.uniq hqi hi hy hx (by rw[<-hB.lvl,<-hA.lvl];exact g);omega
   ·left;simpa using g
 refine⟨hi,hk,rfl,hid,rfl,by have:=hA.len;omega,hA.key k hk',hI,?_,hmem,by rw[hA.lvl,n2];omega,by rw[hA.lvl,n2];exact n1⟩;rw[plK,hI,qb (by omega),qz,idI_at (h.idn hi) hk hid]
theorem Fsh.place (h:Fsh fo){x:Nd}(hx:x∈fo.ns){lv:Int}(l0:0<=lv)(lh:lv<=fo.ht):∃i k,At fo x lv i k:=by
 have h16:=h.h16;obtain⟨c,hc,hxc⟩:=(clsN_ok (lv:=lv) (by omega) (z43 fo.ns)).2 x ((z1o fo.ns).mem_iff.1 hx);have hm:(lv,c)∈z36 fo.ns fo.ht.toNat:=mem_shpL.2 ⟨lv.toNat,by omega,by dsimp only;omega,by dsimp only;rw[show((lv.toNat:Nat):Int)=lv by omega];exact hc⟩;obtain⟨i,hi,hie⟩:=Qg hm;have hi':i<fo.ly.length:=by rw[h.len];exact hi
 obtain⟨k,hk,hke⟩:=Qg hxc;have hs:shA (z36 fo.ns fo.ht.toNat) i=(lv,c):=by rw[shA_lt hi,hie]
 have hA:=h.at_ i hi';have hk':k<(lyA fo.ly i).ids.length:=by rw[hA.ids,hs,qA];exact hk
 have:=h.mk_at hi' hk';rw[hA.lvl,hs] at this;rw[show Go.Proofs.nd c k=x by rw[z3e hk,hke]] at this;exact⟨i,k,this⟩
theorem At.inj (h:Fsh fo){x y:Nd}{lv lw:Int}{i k:Nat}(a:At fo x lv i k)(b:At fo y lw i k):x=y/\lv=lw:=⟨a.nde.symm.trans b.nde,a.lvl.symm.trans b.lvl⟩
end
end
end Go.Proofs
namespace Go.Sk
open Go.RowKit
section
def mvM (ρ:Nat->Nat)(f:Nat)(ms:Nat->Option Nat):Pn:=fun id k=>if id=f then(match ms k with|some a=>(a,0)|none=>(ρ id,k)) else(ρ id,k)
def z1e (π:Pn)(m:Nat)(os:List (Nat×Nat×(Nat->Obj))):List (Nat×Nat×(Nat->Obj))->Prop
 |[]=>True
 |(id,c',F')::l=>(∀k,k<c'->F' k≠ .gone->∃o,look os (π id k).1 (π id k).2=some o/\zt π o (F' k)/\(F' k).lt m)/\id<m/\z1e π m os l
theorem z1e.get {π:Pn}{m:Nat}{os:List (Nat×Nat×(Nat->Obj))}:∀{os':List (Nat×Nat×(Nat->Obj))},z1e π m os os'->∀id c' F',(id,c',F')∈os'->∀k,k<c'->F' k≠ .gone->
  id<m/\(F' k).lt m/\∃o,look os (π id k).1 (π id k).2=some o/\zt π o (F' k)
 |[],_,_,_,_,hm=>by cases hm
 |(i,c1,F1)::l,h,id,c',F',hm=>by
  obtain⟨h1,h2,h3⟩:=h
  cases hm with
  |head=>
   intro k hk hg;obtain⟨o,q1,q2,q3⟩:=h1 k hk hg;exact⟨h2,q3,o,q1,q2⟩
  |tail _ hm=>exact z1e.get h3 id c' F' hm
structure MsOk (X:Cx) (ρ:Nat->Nat) (ms:Nat->Option Nat) (os':List (Nat×Nat×(Nat->Obj))):Prop where
 inj:∀k k' a,ms k=some a->ms k'=some a->k=k'
 out:∀k a,ms k=some a->(os'.all fun x=> !(ρ x.1==a))=true/\X.m0<=a
theorem z5g.mkM {X:Cx}{fr:Fr}{H:AH}{fr':Fr}{H':AH}(ρ:Nat->Nat)(f:Nat)(ms:Nat->Option Nat)(hs:MsOk X ρ ms H'.os)(h1:frGivesP (mvM ρ f ms) H'.nxt fr fr')(h2:z1e (mvM ρ f ms) H'.nxt H.os H'.os)(h3:injB ρ H'.os=true)(h3u:ownU H'.os)
  (h4:(List.range X.m0).all (fun id=>ρ id==id)=true)
  (h5:X.m0<=H'.nxt) (h5f:X.m0<=f) (h6:∀x∈H.os,x.1<X.m0->∀k,(x.2.2 k).own=(x.2.2 0).own) (h7:keepB X.m0 H.os H'.os) (h8:bigB X.m0 ρ H'.os=true):z5g X (mvM ρ f ms) fr H fr' H' where
 fr:=frGivesP_ok h1
 os id k o' hl:=by
  have hg:=z3s hl;obtain⟨c,F,hf,hk,rfl⟩:=z1h hl;exact h2.get _ _ _ (z1l hf) k hk hg
 inj id k o id' k' o' hl hl' ho he:=by
  have hna:∀{id k:Nat} {o:Obj} {j a:Nat},look H'.os id k=some o->ms j=some a->ρ id≠a:=fun {id k o j a} h g e=>by
   obtain⟨c,F,hf,hk,rfl⟩:=z1h h;have:=qu.1 (hs.out j a g).1 _ (z1l hf);simp[e] at this
  have hij:InjOn ρ H'.os:= .of h3 h3u
  have hv:∀i j,mvM ρ f ms i j=(ρ i,j)\/∃a,i=f/\ms j=some a/\mvM ρ f ms i j=(a,0):=fun i j=>by
   unfold mvM
   split
   ·rename_i e
    cases g:ms j with
    |none=>exact .inl rfl
    |some a=>exact .inr ⟨a,e,rfl,rfl⟩
   ·exact .inl rfl
  rcases hv id k with e1|⟨a,g1,g2,e1⟩<;>rcases hv id' k' with e2|⟨b,g3,g4,e2⟩<;>rw[e1,e2] at he<;>simp only[ju] at he
  ·exact⟨hij _ _ _ _ _ _ hl hl' ho he.1,he.2⟩
  ·exact absurd he.1 (hna hl g4)
  ·exact absurd he.1.symm (hna hl' g2)
  ·have:=he.1;subst this;exact⟨g1.trans g3.symm,hs.inj k k' _ g2 g4⟩
 fix id k hid:=by
  have:=qu.1 h4 id (Qd.2 hid);unfold mvM;rw[qb (by omega)];rw[qv] at this;rw[this]
 m0:=h5
 keep id k hid ho:=by
  obtain⟨o,ho1,ho2⟩:=ho;obtain⟨c,F,hf,hk,rfl⟩:=z1h ho1;have:=h7 _ (z1l hf) hid (by have:=h6 _ (z1l hf) hid k;simp only at this;rw[<-this];exact ho2);simp only at this
  split at this
  ·rename_i c' F' hf';exact⟨F' k,(z10 hf' (by omega)).trans (Obj.opt_of fun e=>by have:=this.2 k;rw[e] at this;cases this),this.2 k⟩
  ·exact this.elim
 big id k o h0 hl ho:=by
  obtain⟨c,F,hf,hk,rfl⟩:=z1h hl;have h9:=qu.1 h8 _ (z1l hf);have h10:=h3u _ (z1l hf) k;simp only[qr,qj,qk] at h9;simp only at h10;rw[<-h10,ho] at h9
  have h11:X.m0<=ρ id:=by
   rcases h9 with(h9|h9)|h9
   ·omega
   ·exact h9
   ·cases h9
  unfold mvM
  split
  ·cases g:ms k with
   |none=>exact h11
   |some a=>exact(hs.out k a g).2
  ·exact h11
theorem z13 {ρ:Nat->Nat}{f:Nat}{ms:Nat->Option Nat}{m:Nat}{os l:List (Nat×Nat×(Nat->Obj))}{id c:Nat}{F:Nat->Obj}{o':Obj}(hid:id≠f)(hf:find os (ρ id)=some (c,F))(hc:0<c)(h:zt (mvM ρ f ms) (F 0) o')(hl:o'.lt m)(hm:id<m)(ht:z1e (mvM ρ f ms) m os l):z1e (mvM ρ f ms) m os ((id,uQ o')::l):=by
 refine⟨fun k hk _=> ?_,hm,ht⟩
 have hk0:k=0:=by
  have:k<1:=hk;omega
 subst hk0;have e:mvM ρ f ms id 0=(ρ id,0):=qb hid;rw[e];exact⟨F 0,(z10 hf hc).trans (Obj.opt_of (z2g h)),h,hl⟩
theorem z1e.consF {ρ:Nat->Nat}{f:Nat}{ms:Nat->Option Nat}{m:Nat}{os l:List (Nat×Nat×(Nat->Obj))}{c c':Nat}{o o':Bool}{e e':TypeId}{sz sz':Nat}{G G':Nat->Obj}(hf:find os (ρ f)=some (c,fam o e sz G))(h0:0<c)(h1:(o'=true->o=true/\e'=e)/\sz'=sz)(hz:ms 0=none)
  (h:∀i,i+1<c'->match ms (i+1) with
   |some a=> ∃ca Fa,find os a=some (ca,Fa)/\0<ca/\zt (mvM ρ f ms) (Fa 0) (G' i)/\(G' i).lt m
   |none=>i+1<c/\zt (mvM ρ f ms) (G i) (G' i)/\(G' i).lt m) (hm:f<m) (ht:z1e (mvM ρ f ms) m os l):z1e (mvM ρ f ms) m os ((f,(c',fam o' e' sz' G'))::l):=by
 refine⟨fun k hk _=> ?_,hm,ht⟩
 cases k with
 |zero=>
  have e9:mvM ρ f ms f 0=(ρ f,0):=by unfold mvM;rw[qf rfl,hz]
  rw[e9]
  have q:zt (mvM ρ f ms) (fam o e sz G 0) (fam o' e' sz' G' 0):=by
   simp only[fam,zt,zr];exact⟨h1.1,h1.2,qc _,fun i hi=>absurd hi (qR _)⟩
  exact⟨_,(z10 hf h0).trans (Obj.opt_of (z2g q)),q,fun i j s hi _=>absurd hi (qR _)⟩
 |succ i=>
  have:=h i hk
  cases g:ms (i+1) with
  |some a=>
   rw[g] at this;obtain⟨ca,Fa,q1,q2,q3,q4⟩:=this;have e:mvM ρ f ms f (i+1)=(a,0):=by unfold mvM;rw[qf rfl,g]
   rw[e];exact⟨Fa 0,(z10 q1 q2).trans (Obj.opt_of (z2g q3)),q3,q4⟩
  |none=>
   rw[g] at this;obtain⟨q1,q2,q3⟩:=this;have e:mvM ρ f ms f (i+1)=(ρ f,i+1):=by unfold mvM;rw[qf rfl,g]
   rw[e];exact⟨G i,(z10 hf q1).trans (Obj.opt_of (z2g q2)),q2,q3⟩
theorem z1e.consO {ρ:Nat->Nat}{f:Nat}{ms:Nat->Option Nat}{m:Nat}{os l:List (Nat×Nat×(Nat->Obj))}{id c c':Nat}{o o':Bool}{e e':TypeId}{sz sz':Nat}{G G':Nat->Obj}(hid:id≠f)(hf:find os (ρ id)=some (c,fam o e sz G))
  (h1:(o'=true->o=true/\e'=e)/\sz'=sz) (h0:0<c) (hc:c'<=c) (h:∀i,i+1<c'->zt (mvM ρ f ms) (G i) (G' i)/\(G' i).lt m) (hm:id<m) (ht:z1e (mvM ρ f ms) m os l):z1e (mvM ρ f ms) m os ((id,(c',fam o' e' sz' G'))::l):=by
 refine⟨fun k hk _=> ?_,hm,ht⟩;have e0:mvM ρ f ms id k=(ρ id,k):=qb hid;rw[e0]
 cases k with
 |zero=>
  have q:zt (mvM ρ f ms) (fam o e sz G 0) (fam o' e' sz' G' 0):=by
   simp only[fam,zt,zr];exact⟨h1.1,h1.2,qc _,fun i hi=>absurd hi (qR _)⟩
  exact⟨_,(z10 hf h0).trans (Obj.opt_of (z2g q)),q,fun i j s hi _=>absurd hi (qR _)⟩
 |succ i=>
  obtain⟨q1,q2⟩:=h i hk;exact⟨G i,(z10 hf (by omega)).trans (Obj.opt_of (z2g q1)),q1,q2⟩
structure GmR (X:Cx) (ρ:Nat->Nat) (f:Nat) (H1:AH):Prop where
 a3:injB ρ H1.os=true
 a5:(List.range X.m0).all (fun id=>ρ id==id)=true
 a6:X.m0<=H1.nxt
 a6f:X.m0<=f
 a9:bigB X.m0 ρ H1.os=true
theorem gmS {X:Cx}{fr:Fr}{H:AH}{fr1:Fr}{H1:AH}(ρ:Nat->Nat)(f:Nat)(ms:Nat->Option Nat)(hs:MsOk X ρ ms H1.os)(a2:z1e (mvM ρ f ms) H1.nxt H.os H1.os)(q:GpQ X (mvM ρ f ms) fr H fr1 H1)(r:GmR X ρ f H1):z5g X (mvM ρ f ms) fr H fr1 H1:=
 z5g.mkM ρ f ms hs q.a1 a2 r.a3 q.a4 r.a5 r.a6 r.a6f q.a7 q.a8 r.a9
def ms3 (j a b c:Nat):Nat->Option Nat:=fun k=>if k=3*j+1 then some a else if k=3*j+2 then some b else if k=3*j+3 then some c else none
def ms2 (j b c:Nat):Nat->Option Nat:=fun k=>if k=3*j+2 then some b else if k=3*j+3 then some c else none
theorem ms3_ok {X:Cx}{ρ:Nat->Nat}{os:List (Nat×Nat×(Nat->Obj))}(j:Nat){a b c:Nat}(h:a≠b/\a≠c/\b≠c)(ho:(os.all fun x=> !(ρ x.1==a))=true/\(os.all fun x=> !(ρ x.1==b))=true/\(os.all fun x=> !(ρ x.1==c))=true)(hm:X.m0<=a/\X.m0<=b/\X.m0<=c):MsOk X ρ (ms3 j a b c) os:=by
 refine⟨fun k k' z h1 h2=> ?_,fun k z h1=> ?_⟩
 ·unfold ms3 at h1 h2
  (repeat' split at h1)<;>(repeat' split at h2)<;>first|omega|(simp only[QE,reduceCtorEq] at h1 h2<;>omega)
 ·unfold ms3 at h1
  (repeat' split at h1)<;>simp only[QE,reduceCtorEq] at h1<;>subst h1
  ·exact⟨ho.1,hm.1⟩
  ·exact⟨ho.2.1,hm.2.1⟩
  ·exact⟨ho.2.2,hm.2.2⟩
theorem ms2_ok {X:Cx}{ρ:Nat->Nat}{os:List (Nat×Nat×(Nat->Obj))}(j:Nat){b c:Nat}(h:b≠c)(ho:(os.all fun x=> !(ρ x.1==b))=true/\(os.all fun x=> !(ρ x.1==c))=true)(hm:X.m0<=b/\X.m0<=c):MsOk X ρ (ms2 j b c) os:=by
 refine⟨fun k k' z h1 h2=> ?_,fun k z h1=> ?_⟩
 ·unfold ms2 at h1 h2
  (repeat' split at h1)<;>(repeat' split at h2)<;>first|omega|(simp only[QE,reduceCtorEq] at h1 h2<;>omega)
 ·unfold ms2 at h1
  (repeat' split at h1)<;>simp only[QE,reduceCtorEq] at h1<;>subst h1
  ·exact⟨ho.1,hm.1⟩
  ·exact⟨ho.2,hm.2⟩
end
section
def HGivesJ (π:Pn)(m:Nat)(os:List (Nat×Nat×(Nat->Obj))):List (Nat×Nat×(Nat->Obj))->Prop
 |[]=>True
 |(id,c',F')::l=>(∀k,k<c'->∃c F,find os (π id k).1=some (c,F)/\(π id k).2<c/\zt π (F (π id k).2) (F' k)/\(F' k).lt m)/\id<m/\HGivesJ π m os l
theorem HGivesJ.get {π:Pn}{m:Nat}{os:List (Nat×Nat×(Nat->Obj))}:∀{os':List (Nat×Nat×(Nat->Obj))},HGivesJ π m os os'->∀id c' F',(id,c',F')∈os'->∀k,k<c'->
  id<m/\(F' k).lt m/\∃o,look os (π id k).1 (π id k).2=some o/\zt π o (F' k)
 |[],_,_,_,_,hm=>by cases hm
 |(i,c1,F1)::l,h,id,c',F',hm=>by
  obtain⟨h1,h2,h3⟩:=h
  cases hm with
  |head=>
   intro k hk;obtain⟨c,F,q0,q1,q2,q3⟩:=h1 k hk;exact⟨h2,q3,_,(z10 q0 q1).trans (Obj.opt_of (z2g q2)),q2⟩
  |tail _ hm=>exact HGivesJ.get h3 id c' F' hm
end
section
def anP (ρ:Nat->Nat)(f:Nat)(μ:Nat->Nat×Nat):Pn:=fun id k=>if id=f/\0<k then μ k else(ρ id,k)
theorem z37 {ρ:Nat->Nat}{f m:Nat}{μ:Nat->Nat×Nat}{os l:List (Nat×Nat×(Nat->Obj))}{id c:Nat}{F:Nat->Obj}{o':Obj}(hf:find os (ρ id)=some (c,F))(hc:0<c)(h:zt (anP ρ f μ) (F 0) o')(hl:o'.lt m)(hm:id<m)(ht:HGivesJ (anP ρ f μ) m os l):HGivesJ (anP ρ f μ) m os ((id,uQ o')::l):=by
 refine⟨fun k hk=> ?_,hm,ht⟩
 have hk0:k=0:=by
  have:k<1:=hk;omega
 subst hk0;have e:anP ρ f μ id 0=(ρ id,0):=by rw[anP,qb (by omega)]
 rw[e];exact⟨c,F,hf,hc,h,hl⟩
section
variable {X:Cx} {Q:Exit->Fr->AH->Prop} {fr:Fr} {H:AH} {l:List Code}
theorem wkL_len:∀{a b:List SV},SV.wkL a b->a.length=b.length
 |[],[],_=>rfl
 |_::a,_::b,h=>by simp[wkL_len h.2]
 |[],_::_,h=>h.elim
 |_::_,[],h=>h.elim
theorem wkL_get9:∀{a b:List SV},SV.wkL a b->∀(j:Nat) (s:SV),b[j]? =some s->∃s0,a[j]? =some s0/\SV.wk s0 s
 |[],[],_,j,s,h=>by simp at h
 |x::a,y::b,h,j,s,hj=>by
  cases j with
  |zero=>simp at hj;subst hj;exact⟨x,by simp,h.1⟩
  |succ j=>simp at hj;simpa using wkL_get9 h.2 j s hj
 |[],_::_,h,_,_,_=>h.elim
 |_::_,[],h,_,_,_=>h.elim
end
end
section
def rowWk (m:Nat):Obj->Obj->Prop
 |.row a,.row b=>a.own=false/\b.own=false/\b.sz=a.sz/\b.n<=a.n/\∀i,i<b.n->SV.wkL (a.f i) (b.f i)/\(∀s∈b.f i,s.scalar=true)/\SV.ltL m (b.f i)
 |_,_=>False
def oWk (m:Nat)(a b:Obj):Prop:=a=b\/rowWk m a b
theorem rowWk_own {m:Nat}{a b:Obj}(h:rowWk m a b):a.own=false/\b.own=false:=by
 cases a<;>cases b<;>simp only[rowWk] at h
 exact⟨h.1,h.2.1⟩
theorem oWk_own {m:Nat}{a b:Obj}(h:oWk m a b):a.own=b.own/\(b.own=true->a=b):=by
 rcases h with rfl|h
 ·exact⟨rfl,fun _=>rfl⟩
 ·obtain⟨h1,h2⟩:=rowWk_own h;exact⟨h1.trans h2.symm,fun e=>by rw[h2] at e;cases e⟩
theorem oWk_gone {m:Nat}{a b:Obj}(h:oWk m a b):a= .gone↔b= .gone:=by
 rcases h with rfl|h
 ·exact QS
 ·cases a<;>cases b<;>simp only[rowWk] at h
  exact⟨fun e=>(by cases e),fun e=>(by cases e)⟩
theorem oWk_holds {m:Nat}{a b:Obj}(h:oWk m a b){β:Env}{w:World}{q:Option Loc}(hh:a.holds β w q):b.holds β w q:=by
 rcases h with rfl|h
 ·exact hh
 ·cases a<;>cases b<;>simp only[rowWk] at h
  rename_i x y;obtain⟨_,h2,h3,h4,h5⟩:=h;rcases hh with⟨g1,g2⟩|⟨L,g0,g1,g2,g3,_⟩
  ·exact .inl ⟨by omega,g2⟩
  ·refine .inr ⟨L,g0,by rw[g1,h3],g2,fun i hi=> ?_,fun e=>by rw[h2] at e;cases e⟩;obtain⟨q1,q2⟩:=g3 i (by omega);obtain⟨e1,e2,_⟩:=h5 i hi;refine⟨by rw[<-wkL_len e1,q1,h3],fun j s hs=> ?_⟩;obtain⟨s0,hs0,hw⟩:=wkL_get9 e1 j s hs;obtain⟨_,v,c2,c3⟩:=q2 j s0 hs0;exact⟨e2 s (q7 hs),v,c2,SV.wk_den hw c3⟩
theorem ltL_get9 {m:Nat}:∀{l:List SV},SV.ltL m l->∀(j:Nat) (s:SV),l[j]? =some s->s.lt m
 |[],_,j,s,h=>by simp at h
 |a::l,hl,j,s,h=>by
  cases j with
  |zero=>simp at h;subst h;exact hl.1
  |succ j=>simp at h;exact ltL_get9 hl.2 j s h
theorem oWk_lt {m:Nat}{a b:Obj}(h:oWk m a b)(hh:a.lt m):b.lt m:=by
 rcases h with rfl|h
 ·exact hh
 ·cases a<;>cases b<;>simp only[rowWk] at h
  exact fun i j s hi hs=>ltL_get9 (h.2.2.2.2 i hi).2.2 j s hs
def HWk (m:Nat):List (Nat×Nat×(Nat->Obj))->List (Nat×Nat×(Nat->Obj))->Prop
 |[],[]=>True
 |(i1,c1,F1)::l1,(i0,c0,F0)::l0=>(i1=i0/\c1=c0/\∀k,oWk m (F1 k) (F0 k))/\HWk m l1 l0
 |_,_=>False
theorem HWk.find {m:Nat}:∀{os1 os0:List (Nat×Nat×(Nat->Obj))},HWk m os1 os0->∀id,(Sk.find os1 id=none/\Sk.find os0 id=none)\/∃c F1 F0,Sk.find os1 id=some (c,F1)/\Sk.find os0 id=some (c,F0)/\∀k,oWk m (F1 k) (F0 k)
 |[],[],_,_=> .inl ⟨rfl,rfl⟩
 |(i1,c1,F1)::l1,(i0,c0,F0)::l0,hh,id=>by
  obtain⟨⟨rfl,rfl,h2⟩,h3⟩:=hh;simp only[Sk.find]
  by_cases e:i1=id
  ·rw[qf e,qf e];exact .inr ⟨c1,F1,F0,rfl,rfl,h2⟩
  ·rw[qb e,qb e];exact HWk.find h3 id
 |[],_::_,hh,_=>hh.elim
 |_::_,[],hh,_=>hh.elim
theorem HWk.look {m:Nat}{os1 os0:List (Nat×Nat×(Nat->Obj))}(h:HWk m os1 os0)(id k:Nat):(Sk.look os1 id k=none/\Sk.look os0 id k=none)\/∃o1 o0,Sk.look os1 id k=some o1/\Sk.look os0 id k=some o0/\oWk m o1 o0:=by
 have no:∀{os:List (Nat×Nat×(Nat->Obj))} {id k:Nat},(∀c F,Sk.find os id=some (c,F)->k<c->F k= .gone)->Sk.look os id k=none:=fun {os id k} g=>by
  cases hl:Sk.look os id k with
  |none=>rfl
  |some o=>
   obtain⟨c,F,hf,hk,rfl⟩:=z1h hl;exact absurd (g c F hf hk) (z3s hl)
 rcases h.find id with⟨h1,h2⟩|⟨c,F1,F0,h1,h2,h3⟩
 ·exact .inl ⟨no fun c F hf=>(by rw[h1] at hf;cases hf),no fun c F hf=>(by rw[h2] at hf;cases hf)⟩
 ·by_cases hk:k<c
  ·by_cases hg:F0 k= .gone
   ·have hg1:=(oWk_gone (h3 k)).2 hg;exact .inl ⟨no fun c' F hf _=>(by rw[h1] at hf;cases hf;exact hg1),no fun c' F hf _=>(by rw[h2] at hf;cases hf;exact hg)⟩
   ·refine .inr ⟨F1 k,F0 k,(z10 h1 hk).trans (Obj.opt_of fun e=>hg ((oWk_gone (h3 k)).1 e)),(z10 h2 hk).trans (Obj.opt_of hg),h3 k⟩
  ·exact .inl ⟨no fun c' F hf hk'=>(by rw[h1] at hf;cases hf;exact absurd hk' hk),no fun c' F hf hk'=>(by rw[h2] at hf;cases hf;exact absurd hk' hk)⟩
theorem HWk.own {m:Nat}{os1 os0:List (Nat×Nat×(Nat->Obj))}(h:HWk m os1 os0){id k:Nat}{o:Obj}(ho:o.own=true):Sk.look os1 id k=some o↔Sk.look os0 id k=some o:=by
 rcases h.look id k with⟨h1,h2⟩|⟨o1,o0,h1,h2,h3⟩
 ·rw[h1,h2]
 ·rw[h1,h2];obtain⟨g1,g2⟩:=oWk_own h3
  constructor
  ·intro e;cases e;rw[g2 (g1.symm.trans ho)]
  ·intro e;cases e;rw[g2 ho]
theorem HWk.mem {m:Nat}:∀{os1 os0:List (Nat×Nat×(Nat->Obj))},HWk m os1 os0->∀y∈os0,(y.2.2 0).own=true->(∀k,(y.2.2 k).own=(y.2.2 0).own)->y∈os1
 |[],[],_,y,h,_,_=>h
 |(i1,c1,F1)::l1,(i0,c0,F0)::l0,hh,y,h,ho,hu=>by
  obtain⟨⟨rfl,rfl,h2⟩,h3⟩:=hh
  cases h with
  |head=>
   have:F1=F0:=funext fun k=>(oWk_own (h2 k)).2 (by have:=hu k;simp only at this ho;rw[this,ho]);rw[this];exact qn ..
  |tail _ h=>exact ql _ (HWk.mem h3 y h ho hu)
 |[],_::_,hh,_,_,_,_=>hh.elim
 |_::_,[],hh,_,_,_,_=>hh.elim
theorem zf.less {P:Program}{f:FuncId}{args:List SV}{H0:AH}{R:SV->AH->Prop}(hF:zf P f args H0 R){os1:List (Nat×Nat×(Nat->Obj))}(hos:HWk H0.nxt os1 H0.os)(hu:ownU H0.os):zf P f args ⟨H0.nxt,os1⟩ R:=by
 intro X β w vs hP hm0 hw hβ ho hS hd hlt
 have hS':St X β H0 w:=by
  refine⟨hS.os,hS.tape,hS.output,hS.size,hS.fix,fun id k o0 h=> ?_,fun id k id' k' o0 o' L L' h h' how hb hb' he=> ?_,fun b hb hn=> ?_,fun id k o0 L h how hb=> ?_,fun id k hb=> ?_,hS.m0,fun id k o0 h=> ?_,hS.tabs,hS.drawn⟩
  ·rcases hos.look id k with⟨_,h2⟩|⟨o1,o0',h1,h2,h3⟩
   ·rw[h2] at h;cases h
   ·rw[h2] at h;cases h
    exact oWk_holds h3 (hS.holds _ _ _ h1)
  ·rcases hos.look id' k' with⟨_,h2⟩|⟨o1,o0',h1,h2,h3⟩
   ·rw[h2] at h';cases h'
   ·exact hS.sep _ _ _ _ _ _ _ _ ((hos.own how).2 h) h1 how hb hb' he
  ·exact hS.old b hb fun id k o0 L h how hbb=>hn id k o0 L ((hos.own how).1 h) how hbb
  ·exact hS.mine _ _ _ _ ((hos.own how).2 h) how hb
  ·obtain⟨h1,o,h2,h3⟩:=hS.keep id k hb;exact⟨h1,o,(hos.own h3).1 h2,h3⟩
  ·rcases hos.look id k with⟨_,h2⟩|⟨o1,o0',h1,h2,h3⟩
   ·rw[h2] at h;cases h
   ·rw[h2] at h;cases h
    obtain⟨g1,g2⟩:=hS.lt _ _ _ h1;exact⟨g1,oWk_lt h3 g2⟩
 have ho':X.own0=fun id k=> ∃o,Sk.look H0.os id k=some o/\o.own=true:=by
  rw[ho]
  funext id k
  apply propext
  constructor
  ·rintro⟨o,h1,h2⟩;exact⟨o,(hos.own h2).1 h1,h2⟩
  ·rintro⟨o,h1,h2⟩;exact⟨o,(hos.own h2).2 h1,h2⟩
 refine(hF X β w vs hP hm0 hw hβ ho' hS' hd hlt).mono ?_;rintro e w' ⟨v,rfl,β',s,H',hR,hown,h2,h3,h4⟩;refine⟨v,rfl,β',s,H',hR,fun x hx=> ?_,h2,h3,h4⟩;obtain⟨h1,h5⟩:=hown x hx;refine⟨h1,?_⟩;rcases h5 with h5|⟨y,hy,e1,e2,e3⟩
 ·exact .inl h5
 ·exact .inr ⟨y,hos.mem y hy e3 (hu y hy),e1,e2,e3⟩
end
section
def z2y.renP (π:Pn):z2y->z2y
 |.ints n h g z=> .ints n h (fun a=>(g a).renP π) (z.renP π)
 |.prs n h g z=> .prs n h (fun a b=>(g a b).renP π) (z.renP π)
theorem z2y.renP_n (π:Pn)(M:z2y):(M.renP π).n=M.n:=by cases M<;>rfl
theorem z2y.renP_has (π:Pn)(M:z2y)(v:Value):(M.renP π).has v=M.has v:=by cases M<;>rfl
theorem z2y.renP_z (π:Pn)(M:z2y):(M.renP π).z=M.z.renP π:=by cases M<;>rfl
theorem z2y.renP_val (π:Pn)(M:z2y)(v:Value):(M.renP π).val v=(M.val v).renP π:=by
 cases M<;>simp only[z2y.renP,z2y.val]<;>split<;>rfl
def Obj.renP (π:Pn):Obj->Obj
 |.row r=> .row {r with f:=fun i=>SV.renPL π (r.f i)}
 |.mapo o M=> .mapo o (M.renP π)
 |o=>o
theorem Obj.renP_own (π:Pn)(o:Obj):(o.renP π).own=o.own:=by cases o<;>rfl
theorem Obj.renP_gone {π:Pn}{o:Obj}(h:o.renP π≠ .gone):o≠ .gone:=by
 cases o<;>simp[Obj.renP] at h ⊢
theorem Obj.renP_holds {π:Pn}{o:Obj}{β:Env}{w:World}{q:Option Loc}(h:o.holds (β.viaP π) w q):(o.renP π).holds β w q:=by
 cases o with
 |row r=>
  rcases h with h|⟨L,hq,h1,h2,h3,h4⟩
  ·exact .inl h
  ·refine .inr ⟨L,hq,h1,h2,fun i hi=> ?_,h4⟩;obtain⟨q1,q2⟩:=h3 i hi;refine⟨by show(SV.renPL π (r.f i)).length=_;rw[renPL_eq,qA];exact q1,fun j s hs=> ?_⟩;have hs':(SV.renPL π (r.f i))[j]? =some s:=hs;rw[renPL_eq,qG,qH] at hs';obtain⟨s0,hs0,rfl⟩:=hs';obtain⟨a,v,b,c⟩:=q2 j s0 hs0;exact⟨by rw[scalar_renP];exact a,v,b,(z48 s0 v).2 c⟩
 |blk _ p=>exact h
 |gone=>trivial
 |mapo _ M=>
  obtain⟨L,b,hq,hb,es,clk,e1,e2,e6,e3,e4,e5⟩:=h;refine⟨L,b,hq,hb,es,clk,e1,e2.trans (M.renP_n π).symm,e6,fun k=>by rw[M.renP_has];exact e3 k,fun e he=>by rw[M.renP_val];exact(z48 _ _).2 (e4 e he),fun k hk v hv=> ?_⟩;rw[M.renP_has] at hk;rw[M.renP_z] at hv;rw[M.renP_val];exact(z48 _ _).2 (e5 k hk v ((z48 _ _).1 hv))
mutual
theorem lt_renP {π:Pn}{m m':Nat}(h:∀id k,id<m->(π id k).1<m'):∀(s:SV),s.lt m->(s.renP π).lt m'
 |.int ..,_=>trivial
 |.bool _,_=>trivial
 |.str _,_=>trivial
 |.nilp,_=>trivial
 |.nils,_=>trivial
 |.nilfn,_=>trivial
 |.raw _,_=>trivial
 |.ptr ..,hl=>h _ _ hl
 |.slc ..,hl=>h _ _ hl
 |.mp ..,hl=>h _ _ hl
 |.fn _ l,hl=>ltL_renP h l hl
 |.agg l,hl=>ltL_renP h l hl
 |.tup l,hl=>ltL_renP h l hl
 |.gd _ s,hl=>fun hg=>lt_renP h s (hl hg)
 |.ifc _ s,hl=>lt_renP h s hl
theorem ltL_renP {π:Pn}{m m':Nat}(h:∀id k,id<m->(π id k).1<m'):∀(l:List SV),SV.ltL m l->SV.ltL m' (SV.renPL π l)
 |[],_=>trivial
 |s::l,hl=>⟨lt_renP h s hl.1,ltL_renP h l hl.2⟩
end
theorem Obj.renP_lt {π:Pn}{m m':Nat}(h:∀id k,id<m->(π id k).1<m'){o:Obj}(hl:o.lt m):(o.renP π).lt m':=by
 cases o with
 |row r=>
  intro i j s hi hs;have hs':(SV.renPL π (r.f i))[j]? =some s:=hs;rw[renPL_eq,qG,qH] at hs';obtain⟨s0,hs0,rfl⟩:=hs';exact lt_renP h s0 (hl i j s0 hi hs0)
 |blk _ _=>trivial
 |gone=>trivial
 |mapo _ M=>exact⟨by rw[M.renP_z];exact lt_renP h _ hl.1,fun v=>by rw[M.renP_val];exact lt_renP h _ (hl.2 v)⟩
def memP (π:Pn)(m:Nat):Pn:=fun id k=>if id<m then π id k else(id,k)
def renPOs (π:Pn)(os:List (Nat×Nat×(Nat->Obj))):List (Nat×Nat×(Nat->Obj)):=os.map fun x=>(x.1,x.2.1,fun k=>(x.2.2 k).renP π)
theorem find_renPOs {π:Pn}:∀(os:List (Nat×Nat×(Nat->Obj))) (id:Nat),find (renPOs π os) id=(find os id).map fun x=>(x.1,fun k=>(x.2 k).renP π)
 |[],_=>rfl
 |(i,c,F)::os,id=>by
  simp only[renPOs,Qk,find]
  split
  ·rfl
  ·exact find_renPOs os id
theorem look_renPOs {π:Pn}{os:List (Nat×Nat×(Nat->Obj))}{id k:Nat}{o:Obj}(h:look (renPOs π os) id k=some o):∃o0,look os id k=some o0/\o=o0.renP π:=by
 have hg:=z3s h;obtain⟨c,F,hf,hk,rfl⟩:=z1h h;rw[find_renPOs,qH] at hf;obtain⟨⟨c0,F0⟩,hf0,he⟩:=hf
 cases he
 exact⟨F0 k,(z10 hf0 hk).trans (Obj.opt_of (Obj.renP_gone hg)),rfl⟩
theorem look_renPOs' {π:Pn}{os:List (Nat×Nat×(Nat->Obj))}{id k:Nat}{o0:Obj}(h:look os id k=some o0):look (renPOs π os) id k=some (o0.renP π):=by
 have hg:=z3s h;obtain⟨c,F,hf,hk,rfl⟩:=z1h h;refine(z10 (F:=fun k=>(F k).renP π) (by rw[find_renPOs,hf];rfl) hk).trans (Obj.opt_of ?_)
 revert hg
 cases F k<;>simp[Obj.renP]
def HMem (π:Pn)(m:Nat)(os1:List (Nat×Nat×(Nat->Obj))):List (Nat×Nat×(Nat->Obj))->Prop
 |[]=>True
 |(id,c',F')::l=>(id<m/\(∀k,(F' k).own=false)/\∀k,k<c'->(F' k).lt m/\match find os1 (π id k).1 with
   |some (c,F)=>(π id k).2<c/\zt π (F (π id k).2) (F' k)
   |none=>False)/\HMem π m os1 l
theorem HMem.get {π:Pn}{m:Nat}{os1:List (Nat×Nat×(Nat->Obj))}:∀{os:List (Nat×Nat×(Nat->Obj))},HMem π m os1 os->∀{id k:Nat} {o:Obj},look os id k=some o->
  id<m/\o.own=false/\o.lt m/\∃o1,look os1 (π id k).1 (π id k).2=some o1/\zt π o1 o
 |[],_,_,_,_,h=>by simp[look,find] at h
 |(i,c',F')::l,hm,id,k,o,h=>by
  obtain⟨⟨h1,h0,h2⟩,h3⟩:=hm;rw[z1i] at h
  split at h
  ·rename_i he;subst he
   split at h
   ·rename_i hk;obtain⟨rfl,_⟩:=Obj.opt_some h;obtain⟨q2,q3⟩:=h2 k hk
    split at q3
    ·rename_i c F hf;exact⟨h1,h0 k,q2,_,(z10 hf q3.1).trans (Obj.opt_of (z2g q3.2)),q3.2⟩
    ·exact q3.elim
   ·cases h
  ·exact HMem.get h3 h
theorem zf.mem {P:Program}{f:FuncId}{args0:List SV}{H0:AH}{R:SV->AH->Prop}(hF:zf P f args0 H0 R)(π:Pn){os1:List (Nat×Nat×(Nat->Obj))}
  (hm:HMem π H0.nxt os1 H0.os) (hl0:SV.ltL H0.nxt args0) (hπ:∀id k,id<H0.nxt->(π id k).1<H0.nxt) (hu:∀x∈os1,∀k,(x.2.2 k).own=false):
  zf P f (SV.renPL π args0) ⟨H0.nxt,os1⟩ (fun s H'=> ∃s0 H0',R s0 H0'/\s=s0.renP (memP π H0.nxt)/\H'=⟨H0'.nxt,renPOs (memP π H0.nxt) H0'.os⟩):=by
 intro X β w vs hP hm0 hw hβ ho hS hd hlt
 have hno:∀{id k:Nat} {o:Obj},look H0.os id k=some o->¬o.own=true:=fun h e=>by
  have:=(hm.get h).2.1;rw[this] at e;cases e
 have hno1:∀{id k:Nat} {o:Obj},look os1 id k=some o->¬o.own=true:=fun h e=>by
  obtain⟨c,F,hf,_,rfl⟩:=z1h h;have:=hu _ (z1l hf);rw[this] at e;cases e
 let Y:Cx:=⟨X.P,X.n,w,fun id k=> ∃o,look H0.os id k=some o/\o.own=true,H0.nxt,β.viaP π,X.wrap⟩
 have hY:St Y (β.viaP π) H0 w:=by
  refine⟨rfl,rfl,rfl,qc _,fun _ _ _=>rfl,fun id k o h=> ?_,fun id k id' k' o o' L L' h h' ho hb hb' he=>absurd ho (hno h),fun _ _ _=>rfl,fun id k o L h ho _=>absurd ho (hno h),fun id k ho=> ?_,qc _,fun id k o h=>⟨(hm.get h).1,(hm.get h).2.2.1⟩,⟨fun g hgt=> ?_,fun g hgt=> ?_⟩,qc _⟩
  ·obtain⟨_,_,_,o1,h1,h2⟩:=hm.get h;exact objGivesP_holds h2 (hS.holds _ _ _ h1)
  ·obtain⟨o,h,ho'⟩:=ho;exact absurd ho' (hno h)
  ·obtain⟨_,hlt2,htab⟩:=hS.tab hgt;exact⟨hlt2,htab,fun id k L ho _=>by obtain⟨o,h,ho'⟩:=ho;exact absurd ho' (hno h)⟩
  ·obtain⟨_,hlt2,htab⟩:=hS.tabB hgt;exact⟨hlt2,htab,fun id k L ho _=>by obtain⟨o,h,ho'⟩:=ho;exact absurd ho' (hno h)⟩
 refine(hF Y (β.viaP π) w vs hP rfl rfl rfl rfl hY ((z5x _ _).1 hd) hl0).mono ?_;rintro e w' ⟨v,rfl,β',s0,H',hR,hown,hds,hsl,hS'⟩;have hnx:H0.nxt<=H'.nxt:=hS'.m0
 let τ:=memP π H0.nxt
 let γ:Env:=fun id k=>if id<H0.nxt then β id k else β' id k
 have hγ:γ.viaP τ=β':=by
  funext id k
  show γ (τ id k).1 (τ id k).2=β' id k
  simp only[τ,memP]
  split
  ·rename_i h;simp only[γ];rw[qf (hπ id k h)];exact(hS'.fix id k h).symm
  ·rename_i h;simp only[γ];rw[qb h]
 have hτ:∀id k,id<H'.nxt->(τ id k).1<H'.nxt:=fun id k h=>by
  simp only[τ,memP]
  split
  ·rename_i h2;exact Qq (hπ id k h2) hnx
  ·exact h
 have hge:∀{x:Nat×Nat×(Nat->Obj)},x∈H'.os->H0.nxt<=x.1:=fun hx=>by
  rcases(hown _ hx).2 with h|⟨y,hy,_,_,hyo⟩
  ·exact h
  ·exfalso
   have:∀{os:List (Nat×Nat×(Nat->Obj))},y∈os->HMem π H0.nxt os1 os->(y.2.2 0).own=false:=by
    intro os
    induction os with
    |nil=>intro h;cases h
    |cons a os ih=>
     intro h g
     cases h with
     |head=>exact g.1.2.1 0
     |tail _ h=>exact ih h g.2
   rw[this hy hm] at hyo;cases hyo
 have hgel:∀{id k:Nat} {o:Obj},look H'.os id k=some o->H0.nxt<=id:=fun h=>by
  obtain⟨c,F,hf,_,_⟩:=z1h h;exact hge (z1l hf)
 have hγn:∀id k,H0.nxt<=id->γ id k=β' id k:=fun id k h=>by simp only[γ];rw[qb (by omega)]
 have hw0:X.w0=w:=hw;refine⟨v,rfl,γ,s0.renP τ,⟨H'.nxt,renPOs τ H'.os⟩,⟨s0,H',hR,rfl,rfl⟩,?_,?_,?_,?_⟩
 ·intro x hx;obtain⟨y,hy,rfl⟩:=Qy.1 hx;exact⟨fun k=>by show((y.2.2 k).renP τ).own=true;rw[Obj.renP_own];exact(hown _ hy).1 k,.inl (show H0.nxt<=y.1 from hge hy)⟩
 ·rw[z48,hγ];exact hds
 ·exact lt_renP hτ s0 hsl
 ·refine⟨hS'.os.trans hS.os,hS'.tape.trans hS.tape,hS'.output.trans hS.output,qT hS.size hS'.size,fun id k h=> ?_,fun id k o h=> ?_,fun id k id' k' o o' L L' h h' ho hb hb' he=> ?_,fun b hb hn=> ?_,fun id k o L h how hb=> ?_,fun id k hb=> ?_,?_,fun id k o h=> ?_,hS.tabs,qT hS.drawn hS'.drawn⟩
  ·rw[hm0] at h
   show γ id k=_
   simp only[γ];rw[qf h,hβ]
  ·obtain⟨o0,h0,rfl⟩:=look_renPOs h;rw[hγn _ _ (hgel h0)];exact Obj.renP_holds (by rw[hγ];exact hS'.holds _ _ _ h0)
  ·obtain⟨o0,h0,rfl⟩:=look_renPOs h;obtain⟨o1,h1,rfl⟩:=look_renPOs h';rw[hγn _ _ (hgel h0)] at hb;rw[hγn _ _ (hgel h1)] at hb';exact hS'.sep _ _ _ _ _ _ _ _ h0 h1 (by rw[Obj.renP_own] at ho;exact ho) hb hb' he
  ·rw[hw0] at hb ⊢;refine hS'.old b hb fun id k o L h how hbb he=> ?_;exact hn id k _ L (look_renPOs' h) (by rw[Obj.renP_own];exact how) (by rw[hγn _ _ (hgel h)];exact hbb) he
  ·obtain⟨o0,h0,rfl⟩:=look_renPOs h;rw[hγn _ _ (hgel h0)] at hb;rw[Obj.renP_own] at how;rcases hS'.mine _ _ _ _ h0 how hb with⟨_,q⟩|⟨q1,q2⟩
   ·obtain⟨o2,h2,ho2⟩:=q;exact absurd ho2 (hno h2)
   ·exact .inr ⟨by rw[hm0];exact q1,by rw[hw0];exact q2⟩
  ·rw[ho] at hb;obtain⟨o2,h2,ho2⟩:=hb;exact absurd ho2 (hno1 h2)
  ·rw[hm0];exact hnx
  ·obtain⟨o0,h0,rfl⟩:=look_renPOs h;have:=hS'.lt _ _ _ h0;exact⟨this.1,Obj.renP_lt hτ this.2⟩
theorem zf.imp {P:Program}{f:FuncId}{args:List SV}{H0:AH}{R R':SV->AH->Prop}(hF:zf P f args H0 R)(h:∀s H',R s H'->R' s H'):zf P f args H0 R':=by
 intro X β w vs hP hm hw hβ ho hS hd hlt;refine(hF X β w vs hP hm hw hβ ho hS hd hlt).mono ?_;rintro e w' ⟨v,rfl,β',s,H',hR,h1,h2,h3,h4⟩;exact⟨v,rfl,β',s,H',h s H' hR,h1,h2,h3,h4⟩
end
end Go.Sk
namespace Go.Proofs
open Tryz
open Go.Sk
section
theorem z2z:z1s prog 98=⟨true,.struct,2,16,[(0,some false,1),(1,some false,1)]⟩:=by kernel_rfl
theorem Tryz.szLink:z2l prog 98=2:=by kernel_rfl
theorem Tryz.zLink:z3f prog 98=some [.int .i64 0,.int .i64 0]:=by kernel_rfl
theorem Tryz.tyLinks:z1s prog 94=⟨true,.slice 98,1,24,[]⟩:=by kernel_rfl
theorem Tryz.szLinks:z2l prog 94=1:=by kernel_rfl
theorem Tryz.tyLinked:z1s prog 96=⟨true,.struct,2,32,[(0,some false,1),(1,some false,1)]⟩:=by kernel_rfl
theorem Tryz.szLinked:z2l prog 96=2:=by kernel_rfl
theorem Tryz.zLinked:z3f prog 96=some [.int .i64 0,.nils]:=by kernel_rfl
theorem Tryz.tyLinkeds:z1s prog 65=⟨true,.slice 96,1,24,[]⟩:=by kernel_rfl
theorem Tryz.szLinkeds:z2l prog 65=1:=by kernel_rfl
theorem Tryz.tyMapII:z1s prog 124=⟨true,.map 3 3,1,8,[]⟩:=by kernel_rfl
theorem Tryz.zsInt:zeroS prog 3=some (.int .i64 0):=by kernel_rfl
def lvs (l:List (Int×Int)):Nat->List SV:=fun i=>[.int .i64 (pI l i).1,.int .i64 (pI l i).2]
theorem lvs_ap (l:List (Int×Int))(i:Nat):lvs l i=[.int .i64 (pI l i).1,.int .i64 (pI l i).2]:=rfl
theorem lvs_ren (ρ:Nat->Nat)(l:List (Int×Int)):(fun i=>SV.renL ρ (lvs l i))=lvs l:=by funext i;simp[lvs,SV.renL,SV.ren]
theorem lvs_ren' (ρ:Nat->Nat)(l:List (Int×Int))(i:Nat):SV.renL ρ (lvs l i)=lvs l i:=jH (lvs_ren ρ l) i
theorem lvs_lt (m:Nat)(l:List (Int×Int))(i:Nat):SV.ltL m (lvs l i):=by simp[lvs,SV.ltL,SV.lt]
theorem lvs_renP (π:Pn)(l:List (Int×Int))(i:Nat):SV.renPL π (lvs l i)=lvs l i:=by simp[lvs,SV.renPL,SV.renP]
def lkR (g:Bool)(f:Nat)(l:List Lk):Nat->List SV:=fun i=>[.int .i64 (lk l i).id,.slc g f (i+1) 0 (lk l i).lv.length]
def lkF (o:Bool)(l:List Lk):Nat->Sk.Obj:=fun i=> .row ⟨o,false,98,2,(lk l i).lv.length,lvs (lk l i).lv⟩
theorem lkR_ap (g:Bool)(f:Nat)(l:List Lk)(i:Nat):lkR g f l i=[.int .i64 (lk l i).id,.slc g f (i+1) 0 (lk l i).lv.length]:=rfl
theorem lkR_fold (g:Bool)(f:Nat)(l:List Lk):(fun i=>[SV.int .i64 (lk l i).id,SV.slc g f (i+1) 0 (lk l i).lv.length])=lkR g f l:=rfl
theorem lkF_ap (o:Bool)(l:List Lk)(i:Nat):lkF o l i= .row ⟨o,false,98,2,(lk l i).lv.length,lvs (lk l i).lv⟩:=rfl
theorem lkR_ren (ρ:Nat->Nat)(g:Bool)(f:Nat)(l:List Lk):(fun i=>SV.renL ρ (lkR g f l i))=lkR g (ρ f) l:=by funext i;simp[lkR,SV.renL,SV.ren]
theorem lkR_ren' (ρ:Nat->Nat)(g:Bool)(f:Nat)(l:List Lk)(i:Nat):SV.renL ρ (lkR g f l i)=lkR g (ρ f) l i:=jH (lkR_ren ρ g f l) i
theorem lkR_lt (m:Nat)(g:Bool)(f:Nat)(l:List Lk)(i:Nat):SV.ltL m (lkR g f l i)↔f<m:=by simp[lkR,SV.ltL,SV.lt]
theorem lkF_gives (ρ:Nat->Nat)(o o':Bool)(l:List Lk)(i:Nat):z1d ρ (lkF o l i) (lkF o' l i)↔(o'=true->o=true):=by
 simp[lkF,z1d,z3g,lvs_ren']
theorem lkFm_lt (m:Nat)(o:Bool)(l:List Lk)(i:Nat):(lkF o l i).lt m:=Obj.lt_row.2 fun q _=>lvs_lt m _ q
theorem lkF_own (o:Bool)(l:List Lk)(i:Nat):(lkF o l i).own=o:=rfl
theorem lkF_fown (o:Bool)(e:Go.TypeId)(sz:Nat)(l:List Lk)(k:Nat):(fam o e sz (lkF o l) k).own=o:=fam_own1 (lkF_own o l) k
theorem lkF_ren (ρ:Nat->Nat)(o:Bool)(l:List Lk):(fun i=>(lkF o l i).ren ρ)=lkF o l:=by
 funext i;simp[lkF,Obj.ren,Row.ren,lvs_ren]
theorem lkR_renP (ρ:Nat->Nat)(g:Bool)(f j a:Nat)(l:List Lk)(i:Nat):SV.renPL (mvP ρ f j a) (lkR g f l i)=if i=j then [.int .i64 (lk l i).id,.slc g a 0 0 (lk l i).lv.length] else [.int .i64 (lk l i).id,.slc g (ρ f) (i+1) 0 (lk l i).lv.length]:=by
 simp only[lkR,SV.renPL,SV.renP,mvP,QT,j6]
 split<;>rfl
theorem lkF_givesP (π:Pn)(o o':Bool)(l l':List Lk)(i:Nat)(h:o'=true->o=true)(e:lk l' i=lk l i):zt π (lkF o l i) (lkF o' l' i):=⟨fun h2=>⟨h h2,rfl⟩,rfl,by rw[e];exact qc _,fun q _=>by rw[e];exact(lvs_renP π _ q).symm⟩
theorem lkF_newP (π:Pn)(n:Nat)(F:Nat->List SV)(l:List Lk)(i:Nat)(hn:(lk l i).lv.length=n)(e:∀q,q<n->F q=lvs (lk l i).lv q):zt π (.row ⟨true,false,98,2,n,F⟩) (lkF true l i):=⟨fun _=>⟨rfl,rfl⟩,rfl,by rw[hn];exact qc _,fun q hq=>by rw[lvs_renP];exact e q (by rw[<-hn];exact hq)⟩
theorem lk_append {l:List Lk}{x:Lk}{i:Nat}(h:i<l.length):lk (l++[x]) i=lk l i:=by simp[lk,List.getD,Qv h]
theorem lk_last (l:List Lk)(x:Lk):lk (l++[x]) l.length=x:=by simp[lk,List.getD]
theorem lkR_shp {g:Bool}{f:Nat}{l l':List Lk}(h:Shp l l'):lkR g f l'=lkR g f l:=by
 funext i;simp only[lkR,h.id,h.lv]
def atP (s:List Nd):Nat->Int->Int
 |0,_=>0
 |i+1,a=>if a=(nd s i).id then i else atP s i a
def atB (s:List Nd):Nat->Int->Bool
 |0=>fun _=>false
 |i+1=>fun a=>a==(nd s i).id||atB s i a
def atC (s:List Nd):Nat->Nat
 |0=>0
 |i+1=>if atB s i (nd s i).id then atC s i else atC s i+1
theorem atP_at {s:List Nd}(hd:∀i j,i<s.length->j<s.length->(nd s i).id=(nd s j).id->i=j):∀{n k:Nat},k<n->n<=s.length->atP s n (nd s k).id=k
 |n+1,k,h,hn=>by
  rw[atP]
  by_cases e:k=n
  ·subst e;rw[qf rfl]
  ·rw[qb (fun g=>e (hd _ _ (by omega) (by omega) g))];exact atP_at hd (by omega) (by omega)
theorem findI_at {s:List Nd}(hd:∀i j,i<s.length->j<s.length->(nd s i).id=(nd s j).id->i=j){k:Nat}(hk:k<s.length):findI s (nd s k).id=k:=
 idxB_at (p:=fun i=>decide ((nd s i).id=(nd s k).id)) (by simp) hk fun q hq=>by
  rw[qg];intro e;have:=hd _ _ (by omega) hk e;omega
theorem idN_at {s:List Nd}(hd:∀i j,i<s.length->j<s.length->(nd s i).id=(nd s j).id->i=j){k:Nat}(hk:k<s.length):idN s (nd s k).id=k:=by rw[idN,findI_at hd hk];rfl
end
section
theorem Tryz.tyLy:z1s prog 89=⟨true,.struct,5,88,[(0,some false,1),(1,some false,1),(2,some false,1),(3,some true,2)]⟩:=by kernel_rfl
theorem Tryz.szLy:z2l prog 89=5:=by kernel_rfl
theorem Tryz.zLy:z3f prog 89=some [.int .i64 0,.int .u32 0,.nils,.nils,.nils]:=by kernel_rfl
theorem Tryz.tyLys:z1s prog 31=⟨true,.slice 89,1,24,[]⟩:=by kernel_rfl
theorem Tryz.szLys:z2l prog 31=1:=by kernel_rfl
theorem Tryz.tyCb:z1s prog 58=⟨true,.struct,3,24,[(0,some false,1),(1,some false,1),(2,some false,1)]⟩:=by kernel_rfl
theorem Tryz.szCb:z2l prog 58=3:=by kernel_rfl
theorem Tryz.zCb:z3f prog 58=some [.int .i64 0,.int .i64 0,.int .i64 0]:=by kernel_rfl
theorem Tryz.tyCbs:z1s prog 32=⟨true,.slice 58,1,24,[]⟩:=by kernel_rfl
theorem Tryz.szCbs:z2l prog 32=1:=by kernel_rfl
theorem Tryz.tyFo:z1s prog 34=⟨true,.struct,4,80,[(0,some false,1),(1,some false,1),(2,some false,1),(3,some false,1)]⟩:=by kernel_rfl
theorem Tryz.szFo:z2l prog 34=4:=by kernel_rfl
theorem Tryz.zFo:z3f prog 34=some [.nils,.int .i64 0,.nils,.nils]:=by kernel_rfl
def Cb.sv (c:Cb):List SV:=[.int .i64 c.kind,.int .i64 c.node,.int .i64 c.lvl]
def cbs (C:List Cb):Nat->List SV:=fun i=>(cbA C i).sv
theorem cbs_ap (C:List Cb)(i:Nat):cbs C i=[.int .i64 (cbA C i).kind,.int .i64 (cbA C i).node,.int .i64 (cbA C i).lvl]:=rfl
theorem cbs_ren (ρ:Nat->Nat)(C:List Cb):(fun i=>SV.renL ρ (cbs C i))=cbs C:=by funext i;simp[cbs,Cb.sv,SV.renL,SV.ren]
theorem cbs_ren' (ρ:Nat->Nat)(C:List Cb)(i:Nat):SV.renL ρ (cbs C i)=cbs C i:=jH (cbs_ren ρ C) i
theorem cbs_lt (m:Nat)(C:List Cb)(i:Nat):SV.ltL m (cbs C i):=by simp[cbs,Cb.sv,SV.ltL,SV.lt]
theorem cbs_renP (π:Pn)(C:List Cb)(i:Nat):SV.renPL π (cbs C i)=cbs C i:=by simp[cbs,Cb.sv,SV.renPL,SV.renP]
theorem z4q (π:Pn)(l:List Cl)(i:Nat):SV.renPL π (z30 l i)=z30 l i:=by simp[z30,Cl.sv,SV.renPL,SV.renP]
theorem prs_renP (π:Pn)(l:List Pr)(i:Nat):SV.renPL π (prs l i)=prs l i:=by simp[prs,Pr.sv,SV.renPL,SV.renP]
theorem cbs_put (C:List Cb)(k:Nat)(a b c:Int)(h:k<C.length):(fun i=>if i=k then [SV.int .i64 a,SV.int .i64 b,SV.int .i64 c] else cbs C i)=cbs (C.set k ⟨a,b,c⟩):=by
 funext i
 simp only[cbs]
 split
 ·rename_i e;subst e;rw[z3m h];rfl
 ·rename_i e;rw[z5a (QD e)]
def lyR (f:Nat)(L:List Ly):Nat->List SV:=fun i=>[.int .i64 (lyA L i).lvl,.int .u32 (lyA L i).wd,.slc true f (3*i+1) 0 (lyA L i).ids.length,.slc true f (3*i+2) 0 (lyA L i).cs.length,.slc true f (3*i+3) 0 (lyA L i).ps.length]
def lyO (o:Bool)(x:Ly)(r:Nat):Sk.Obj:=
 if r=0 then .row ⟨o,false,3,1,x.ids.length,ints x.ids⟩ else if r=1 then .row ⟨o,false,117,5,x.cs.length,z30 x.cs⟩ else .row ⟨o,false,110,7,x.ps.length,prs x.ps⟩
def lyF (o:Bool)(L:List Ly):Nat->Sk.Obj:=fun k=>lyO o (lyA L (k/3)) (k%3)
theorem lyF_0 (o:Bool)(L:List Ly)(i:Nat):lyF o L (3*i)= .row ⟨o,false,3,1,(lyA L i).ids.length,ints (lyA L i).ids⟩:=by
 rw[lyF,Nat.mul_div_cancel_left _ (by decide),Nat.mul_mod_right];rfl
theorem lyF_1 (o:Bool)(L:List Ly)(i:Nat):lyF o L (3*i+1)= .row ⟨o,false,117,5,(lyA L i).cs.length,z30 (lyA L i).cs⟩:=by
 rw[lyF,show(3*i+1)/3=i by omega,show(3*i+1)%3=1 by omega];rfl
theorem lyF_2 (o:Bool)(L:List Ly)(i:Nat):lyF o L (3*i+2)= .row ⟨o,false,110,7,(lyA L i).ps.length,prs (lyA L i).ps⟩:=by
 rw[lyF,show(3*i+2)/3=i by omega,show(3*i+2)%3=2 by omega];rfl
theorem lyR_ap (f:Nat)(L:List Ly)(i:Nat):lyR f L i=[.int .i64 (lyA L i).lvl,.int .u32 (lyA L i).wd,.slc true f (3*i+1) 0 (lyA L i).ids.length,.slc true f (3*i+2) 0 (lyA L i).cs.length,.slc true f (3*i+3) 0 (lyA L i).ps.length]:=rfl
theorem lyR_ren (ρ:Nat->Nat)(f:Nat)(L:List Ly):(fun i=>SV.renL ρ (lyR f L i))=lyR (ρ f) L:=by funext i;simp[lyR,SV.renL,SV.ren]
theorem lyR_ren' (ρ:Nat->Nat)(f:Nat)(L:List Ly)(i:Nat):SV.renL ρ (lyR f L i)=lyR (ρ f) L i:=jH (lyR_ren ρ f L) i
theorem lyR_lt (m:Nat)(f:Nat)(L:List Ly)(i:Nat):SV.ltL m (lyR f L i)↔f<m:=by simp[lyR,SV.ltL,SV.lt]
theorem lyO_3 (o:Bool)(x:Ly)(r:Nat):lyO o x r= .row ⟨o,false,3,1,x.ids.length,ints x.ids⟩\/lyO o x r= .row ⟨o,false,117,5,x.cs.length,z30 x.cs⟩\/lyO o x r= .row ⟨o,false,110,7,x.ps.length,prs x.ps⟩:=by
 unfold lyO
 split
 ·exact .inl rfl
 ·split
  ·exact .inr (.inl rfl)
  ·exact .inr (.inr rfl)
theorem lyO_givesP (π:Pn)(o o':Bool)(x:Ly)(r:Nat)(h:o'=true->o=true):zt π (lyO o x r) (lyO o' x r):=by
 unfold lyO
 split
 ·exact⟨fun h2=>⟨h h2,rfl⟩,rfl,qc _,fun q _=>(z2u π _ q).symm⟩
 ·split
  ·exact⟨fun h2=>⟨h h2,rfl⟩,rfl,qc _,fun q _=>(z4q π _ q).symm⟩
  ·exact⟨fun h2=>⟨h h2,rfl⟩,rfl,qc _,fun q _=>(prs_renP π _ q).symm⟩
theorem lyO_gives (ρ:Nat->Nat)(o o':Bool)(x:Ly)(r:Nat):z1d ρ (lyO o x r) (lyO o' x r)↔(o'=true->o=true):=by
 unfold lyO
 split
 ·simp[z1d,z3g,z1x]
 ·split
  ·simp[z1d,z3g,cls_ren']
  ·simp[z1d,z3g,prs_ren']
theorem lyO_lt (m:Nat)(o:Bool)(x:Ly)(r:Nat):(lyO o x r).lt m:=by
 unfold lyO
 split
 ·exact Obj.lt_row.2 fun q _=>z1u m _ q
 ·split
  ·exact Obj.lt_row.2 fun q _=>cls_lt m _ q
  ·exact Obj.lt_row.2 fun q _=>prs_lt m _ q
theorem lyF_gives (ρ:Nat->Nat)(o o':Bool)(L:List Ly)(k:Nat):z1d ρ (lyF o L k) (lyF o' L k)↔(o'=true->o=true):=lyO_gives ..
theorem z40 (m:Nat)(o:Bool)(L:List Ly)(k:Nat):(lyF o L k).lt m:=lyO_lt ..
theorem lyF_own (o:Bool)(L:List Ly)(k:Nat):(lyF o L k).own=o:=by
 rcases lyO_3 o (lyA L (k/3)) (k%3) with e|e|e<;>exact(Qj Obj.own e)
theorem z4t (o:Bool)(e:Go.TypeId)(sz:Nat)(L:List Ly)(k:Nat):(fam o e sz (lyF o L) k).own=o:=fam_own1 (lyF_own o L) k
theorem lyF_ren (ρ:Nat->Nat)(o:Bool)(L:List Ly):(fun k=>(lyF o L k).ren ρ)=lyF o L:=by
 funext k
 show(lyO o (lyA L (k/3)) (k%3)).ren ρ=lyO o (lyA L (k/3)) (k%3)
 rcases lyO_3 o (lyA L (k/3)) (k%3) with e|e|e<;>rw[e]<;>simp[Obj.ren,Row.ren,z1v,z2t,z34]
theorem lyF_givesP (π:Pn)(o o':Bool)(L L':List Ly)(k:Nat)(h:o'=true->o=true)(e:lyA L' (k/3)=lyA L (k/3)):zt π (lyF o L k) (lyF o' L' k):=by
 rw[lyF,lyF,e];exact lyO_givesP π o o' _ _ h
theorem lyR_renO (ρ:Nat->Nat)(f j a g:Nat)(L:List Ly)(i:Nat)(h:g≠f):SV.renPL (mvP ρ f j a) (lyR g L i)=lyR (ρ g) L i:=by
 simp[lyR,SV.renPL,SV.renP,mvP,h]
theorem lyR_renMO (ρ:Nat->Nat)(f g:Nat)(ms:Nat->Option Nat)(L:List Ly)(i:Nat)(h:g≠f):SV.renPL (mvM ρ f ms) (lyR g L i)=lyR (ρ g) L i:=by
 simp[lyR,SV.renPL,SV.renP,mvM,h]
theorem ms3_at (j a b c i:Nat):ms3 j a b c (3*i+1)=(if i=j then some a else none)/\ms3 j a b c (3*i+2)=(if i=j then some b else none)/\ms3 j a b c (3*i+3)=if i=j then some c else none:=by
 unfold ms3
 by_cases h:i=j
 ·subst h;refine⟨by rw[qf rfl,qf rfl],by rw[qb (by omega),qf rfl,qf rfl],by rw[qb (by omega),qb (by omega),qf rfl,qf rfl]⟩
 ·refine⟨by rw[qb (by omega),qb (by omega),qb (by omega),qb h],by rw[qb (by omega),qb (by omega),qb (by omega),qb h],by rw[qb (by omega),qb (by omega),qb (by omega),qb h]⟩
theorem ms2_at (j b c i:Nat):ms2 j b c (3*i+1)=none/\ms2 j b c (3*i+2)=(if i=j then some b else none)/\ms2 j b c (3*i+3)=if i=j then some c else none:=by
 unfold ms2
 by_cases h:i=j
 ·subst h;refine⟨by rw[qb (by omega),qb (by omega)],by rw[qf rfl,qf rfl],by rw[qb (by omega),qf rfl,qf rfl]⟩
 ·refine⟨by rw[qb (by omega),qb (by omega)],by rw[qb (by omega),qb (by omega),qb h],by rw[qb (by omega),qb (by omega),qb h]⟩
theorem lyR_renM3 (ρ:Nat->Nat)(f j a b c:Nat)(L:List Ly)(i:Nat):SV.renPL (mvM ρ f (ms3 j a b c)) (lyR f L i)=
  if i=j then [.int .i64 (lyA L i).lvl,.int .u32 (lyA L i).wd,.slc true a 0 0 (lyA L i).ids.length,.slc true b 0 0 (lyA L i).cs.length,.slc true c 0 0 (lyA L i).ps.length] else lyR (ρ f) L i:=by
 obtain⟨h1,h2,h3⟩:=ms3_at j a b c i
 by_cases h:i=j
 ·subst h;rw[qf rfl] at h1 h2 h3;simp only[lyR,SV.renPL,SV.renP,mvM,Qi,h1,h2,h3]
 ·simp only[lyR,SV.renPL,SV.renP,mvM,Qi,h1,h2,h3,qb h]
theorem lyR_renM2 (ρ:Nat->Nat)(f j b c:Nat)(L:List Ly)(i:Nat):SV.renPL (mvM ρ f (ms2 j b c)) (lyR f L i)=
  if i=j then [.int .i64 (lyA L i).lvl,.int .u32 (lyA L i).wd,.slc true (ρ f) (3*i+1) 0 (lyA L i).ids.length,.slc true b 0 0 (lyA L i).cs.length,.slc true c 0 0 (lyA L i).ps.length] else lyR (ρ f) L i:=by
 obtain⟨h1,h2,h3⟩:=ms2_at j b c i
 by_cases h:i=j
 ·subst h;rw[qf rfl] at h2 h3;simp only[lyR,SV.renPL,SV.renP,mvM,Qi,h1,h2,h3]
 ·simp only[lyR,SV.renPL,SV.renP,mvM,Qi,h1,h2,h3,qb h]
theorem lyF_cons3 {ρ:Nat->Nat}{f j a b c m n n':Nat}{os l:List (Nat×Nat×(Nat->Sk.Obj))}{L L':List Ly}{x:Ly}(hf:Sk.find os (ρ f)=some (3*n+1,fam true 3 1 (lyF true L)))
  (ha:Sk.find os a=some (uQ (.row ⟨true,false,3,1,x.ids.length,ints x.ids⟩))) (hb:Sk.find os b=some (uQ (.row ⟨true,false,117,5,x.cs.length,z30 x.cs⟩))) (hc:Sk.find os c=some (uQ (.row ⟨true,false,110,7,x.ps.length,prs x.ps⟩)))
  (hx:lyA L' j=x) (h:∀i,i<n'->i≠j->i<n/\lyA L' i=lyA L i) (hm:f<m) (ht:z1e (mvM ρ f (ms3 j a b c)) m os l):z1e (mvM ρ f (ms3 j a b c)) m os ((f,(3*n'+1,fam true 3 1 (lyF true L')))::l):=by
 refine z1e.consF hf (by omega) ⟨fun _=>⟨rfl,rfl⟩,rfl⟩ (by unfold ms3;rw[qb (by omega),qb (by omega),qb (by omega)]) (fun i hi=> ?_) hm ht;obtain⟨q,r,hr,e⟩:∃q r,r<3/\i=3*q+r:=⟨i/3,i%3,by omega,by omega⟩;obtain⟨h1,h2,h3⟩:=ms3_at j a b c q
 have old:q≠j->i+1<3*n+1/\zt (mvM ρ f (ms3 j a b c)) (lyF true L i) (lyF true L' i)/\(lyF true L' i).lt m:=fun hne=>by
  have:=h q (by omega) hne;exact⟨by omega,lyF_givesP _ _ _ _ _ _ id (by rw[show i/3=q by omega];exact this.2),z40 ..⟩
 have h012:r=0\/r=1\/r=2:=by omega
 rcases h012 with g|g|g<;>subst g<;>subst e
 ·rw[h1]
  by_cases hq:q=j
  ·subst hq;rw[qf rfl];refine⟨1,_,ha,qm,?_,z40 ..⟩;rw[jg,lyF_0,hx];exact⟨fun _=>⟨rfl,rfl⟩,rfl,qc _,fun q _=>(z2u _ _ q).symm⟩
  ·rw[qb hq];exact old hq
 ·rw[show 3*q+1+1=3*q+2 from rfl,h2]
  by_cases hq:q=j
  ·subst hq;rw[qf rfl];refine⟨1,_,hb,qm,?_,z40 ..⟩;rw[lyF_1,hx];exact⟨fun _=>⟨rfl,rfl⟩,rfl,qc _,fun q _=>(z4q _ _ q).symm⟩
  ·rw[qb hq];exact old hq
 ·rw[show 3*q+2+1=3*q+3 from rfl,h3]
  by_cases hq:q=j
  ·subst hq;rw[qf rfl];refine⟨1,_,hc,qm,?_,z40 ..⟩;rw[lyF_2,hx];exact⟨fun _=>⟨rfl,rfl⟩,rfl,qc _,fun q _=>(prs_renP _ _ q).symm⟩
  ·rw[qb hq];exact old hq
theorem lyF_cons2 {ρ:Nat->Nat}{f j b c m n:Nat}{os l:List (Nat×Nat×(Nat->Sk.Obj))}{L L':List Ly}{x:Ly}(hf:Sk.find os (ρ f)=some (3*n+1,fam true 3 1 (lyF true L)))
  (hb:Sk.find os b=some (uQ (.row ⟨true,false,117,5,x.cs.length,z30 x.cs⟩))) (hc:Sk.find os c=some (uQ (.row ⟨true,false,110,7,x.ps.length,prs x.ps⟩)))
  (hx:lyA L' j=x) (hi:x.ids=(lyA L j).ids) (h:∀i,i≠j->lyA L' i=lyA L i) (hm:f<m) (ht:z1e (mvM ρ f (ms2 j b c)) m os l):z1e (mvM ρ f (ms2 j b c)) m os ((f,(3*n+1,fam true 3 1 (lyF true L')))::l):=by
 refine z1e.consF hf (by omega) ⟨fun _=>⟨rfl,rfl⟩,rfl⟩ (by unfold ms2;rw[qb (by omega),qb (by omega)]) (fun i hi'=> ?_) hm ht;obtain⟨q,r,hr,e⟩:∃q r,r<3/\i=3*q+r:=⟨i/3,i%3,by omega,by omega⟩;obtain⟨h1,h2,h3⟩:=ms2_at j b c q
 have old:q≠j->i+1<3*n+1/\zt (mvM ρ f (ms2 j b c)) (lyF true L i) (lyF true L' i)/\(lyF true L' i).lt m:=fun hne=>
  ⟨by omega,lyF_givesP _ _ _ _ _ _ id (by rw[show i/3=q by omega];exact h q hne),z40 ..⟩
 have h012:r=0\/r=1\/r=2:=by omega
 rcases h012 with g|g|g<;>subst g<;>subst e
 ·rw[h1];refine⟨by omega,?_,z40 ..⟩;rw[jg,lyF_0,lyF_0]
  by_cases hq:q=j
  ·subst hq;rw[hx,hi];exact⟨fun _=>⟨rfl,rfl⟩,rfl,qc _,fun q _=>(z2u _ _ q).symm⟩
  ·rw[h q hq];exact⟨fun _=>⟨rfl,rfl⟩,rfl,qc _,fun q _=>(z2u _ _ q).symm⟩
 ·rw[show 3*q+1+1=3*q+2 from rfl,h2]
  by_cases hq:q=j
  ·subst hq;rw[qf rfl];refine⟨1,_,hb,qm,?_,z40 ..⟩;rw[lyF_1,hx];exact⟨fun _=>⟨rfl,rfl⟩,rfl,qc _,fun q _=>(z4q _ _ q).symm⟩
  ·rw[qb hq];exact old hq
 ·rw[show 3*q+2+1=3*q+3 from rfl,h3]
  by_cases hq:q=j
  ·subst hq;rw[qf rfl];refine⟨1,_,hc,qm,?_,z40 ..⟩;rw[lyF_2,hx];exact⟨fun _=>⟨rfl,rfl⟩,rfl,qc _,fun q _=>(prs_renP _ _ q).symm⟩
  ·rw[qb hq];exact old hq
def lyPi (i:Nat):Pn:=fun id k=>if id=0 then(0,3*i+2) else if id=1 then(0,3*i+3) else(id,k)
def lyPd (i:Nat):Pn:=fun id k=>if id=0 then(0,3*i+1) else(id,k)
theorem lyLs {f : Go.FuncId} {ar : List SV} {R : SV -> AH -> Prop} (L : List Ly) (i k : Nat) (hi : i < k)
    (h:zf prog f (.agg [.slc false 0 0 0 (lyA L i).cs.length,.slc false 1 0 0 (lyA L i).ps.length]::ar) ⟨2,[(0,inCl (lyA L i).cs),(1,inPr (lyA L i).ps)]⟩ R)
    (h2:SV.ltL 2 ar) (h3:∀π:Pn,SV.renPL π ar=ar):
    zf prog f (.agg [.slc false 0 (3*i+2) 0 (lyA L i).cs.length,.slc false 0 (3*i+3) 0 (lyA L i).ps.length]::ar) ⟨2,[(0,(3*k+1,fam false 3 1 (lyF false L)))]⟩
      (fun s H'=> ∃s0 H0',R s0 H0'/\s=s0.renP (memP (lyPi i) 2)/\H'=⟨H0'.nxt,renPOs (memP (lyPi i) 2) H0'.os⟩):=by
  have g:=h.mem (lyPi i) (os1:=[(0,(3*k+1,fam false 3 1 (lyF false L)))])
    (by
      refine⟨⟨by show 0<2;decide,fun k=>rfl,fun k' hk=>⟨Obj.lt_row.2 fun q _=>cls_lt _ _ q,?_⟩⟩,⟨by show 1<2;decide,fun k=>rfl,fun k' hk=>⟨Obj.lt_row.2 fun q _=>prs_lt _ _ q,?_⟩⟩,trivial⟩
      · simp only[lyPi,Qi,Sk.find];refine⟨by omega,?_⟩;rw[show 3*i+2=(3*i+1)+1 from rfl,z2q,lyF_1];exact⟨fun h=>(by cases h),rfl,qc _,fun q _=>(z4q _ _ q).symm⟩
      · simp only[lyPi,Qi,Sk.find,Jx,Qo];refine⟨by omega,?_⟩;rw[show 3*i+3=(3*i+2)+1 from rfl,z2q,lyF_2]
        exact⟨fun h=>(by cases h),rfl,qc _,fun q _=>(prs_renP _ _ q).symm⟩)
    ⟨by simp [SV.lt, SV.ltL], h2⟩ (by intro id k hid; simp only [lyPi]; split; · exact Nat.zero_lt_two
                                      · split
                                        · exact Nat.zero_lt_two
                                        · exact hid) (by
      intro x hx k;simp only[qY] at hx;subst hx
      exact z4t false _ _ L k)
  have e:SV.renPL (lyPi i) (.agg [.slc false 0 0 0 (lyA L i).cs.length,.slc false 1 0 0 (lyA L i).ps.length]::ar)= .agg [.slc false 0 (3*i+2) 0 (lyA L i).cs.length,.slc false 0 (3*i+3) 0 (lyA L i).ps.length]::ar:=by
    rw[SV.renPL,h3];simp[SV.renP,SV.renPL,lyPi]
  rw[e] at g;exact g
theorem lyLsB {f:Go.FuncId}{B:Bool}(L:List Ly)(i k:Nat)(hi:i<k)
  (h:zf prog f [.agg [.slc false 0 0 0 (lyA L i).cs.length,.slc false 1 0 0 (lyA L i).ps.length]] ⟨2,[(0,inCl (lyA L i).cs),(1,inPr (lyA L i).ps)]⟩ (fun s H1=>s= .bool B/\H1=⟨2,[]⟩)):
  zf prog f [.agg [.slc false 0 (3*i+2) 0 (lyA L i).cs.length,.slc false 0 (3*i+3) 0 (lyA L i).ps.length]] ⟨2,[(0,(3*k+1,fam false 3 1 (lyF false L)))]⟩ (fun s H1=>s= .bool B/\H1=⟨2,[]⟩):=by
 refine(lyLs L i k hi h trivial fun _=>rfl).imp ?_;rintro s H' ⟨s0,H0',⟨rfl,rfl⟩,rfl,rfl⟩;exact⟨rfl,rfl⟩
theorem lyId {f : Go.FuncId} {ar : List SV} {R : SV -> AH -> Prop} (L : List Ly) (i k : Nat) (hi : i < k)
    (h:zf prog f (.slc false 0 0 0 (lyA L i).ids.length::ar) ⟨1,[(0,uQ (.row ⟨false,false,3,1,(lyA L i).ids.length,ints (lyA L i).ids⟩))]⟩ R)
    (h2:SV.ltL 1 ar) (h3:∀π:Pn,SV.renPL π ar=ar):
    zf prog f (.slc false 0 (3*i+1) 0 (lyA L i).ids.length::ar) ⟨1,[(0,(3*k+1,fam false 3 1 (lyF false L)))]⟩
      (fun s H'=> ∃s0 H0',R s0 H0'/\s=s0.renP (memP (lyPd i) 1)/\H'=⟨H0'.nxt,renPOs (memP (lyPd i) 1) H0'.os⟩):=by
  have g:=h.mem (lyPd i) (os1:=[(0,(3*k+1,fam false 3 1 (lyF false L)))])
    (by
      refine⟨⟨qm,fun k=>rfl,fun k' hk=>⟨Obj.lt_row.2 fun q _=>z1u _ _ q,?_⟩⟩,trivial⟩;simp only[lyPd,Qi,Sk.find];refine⟨by omega,?_⟩;rw[z2q,lyF_0]
      exact⟨fun h=>(by cases h),rfl,qc _,fun q _=>(z2u _ _ q).symm⟩)
    ⟨by simp [SV.lt], h2⟩ (by intro id k hid; simp only [lyPd]; split; · exact qm
                              · exact hid) (by
      intro x hx k;simp only[qY] at hx;subst hx
      exact z4t false _ _ L k)
  have e:SV.renPL (lyPd i) (.slc false 0 0 0 (lyA L i).ids.length::ar)= .slc false 0 (3*i+1) 0 (lyA L i).ids.length::ar:=by
    rw[SV.renPL,h3];simp[SV.renP,lyPd]
  rw[e] at g;exact g
end
section
def z4c (L:List Ly)(id lv:Int):Bool:=gn (lyA L (plI L id lv).toNat).cs (plK L id lv)
def memF (L:List Ly)(id lv:Int):Bool:=decide (0<=plI L id lv) && !z4c L id lv
def cbOk (ns:List Nd)(ht:Int)(c:Cb):Bool:=decide (c=noCb)||((c.kind==1||c.kind==2) && decide (0<=findI ns c.node) && decide (0<=c.lvl) && decide (c.lvl<=ht))
def busyF (C:List Cb)(id:Int):Bool:=anyB C.length fun i=>(cbA C i).kind !=0 && (cbA C i).node==id
def upL (L:List Ly)(i:Nat)(cs:List Cl)(ps:List Pr):List Ly:=L.set i {lyA L i with cs:=cs,ps:=ps}
def beginE (L:List Ly)(p:Int)(c:Cb):Int:=z58 (lyA L (plI L c.node c.lvl).toNat).cs (lyA L (plI L c.node c.lvl).toNat).ps p c.kind (plK L c.node c.lvl)
def beginL (L:List Ly)(p:Int)(c:Cb):List Ly:=
 upL L (plI L c.node c.lvl).toNat (lyA L (plI L c.node c.lvl).toNat).cs (startP (lyA L (plI L c.node c.lvl).toNat).cs (lyA L (plI L c.node c.lvl).toNat).ps p c.kind (plK L c.node c.lvl))
def nxC (c:Cb):Cb:=if c.kind=1 then {c with lvl:=c.lvl+1} else {c with lvl:=c.lvl-1}
structure SkEq (L L':List Ly):Prop where
 len:L'.length=L.length
 lvl:∀i,(lyA L' i).lvl=(lyA L i).lvl
 ids:∀i,(lyA L' i).ids=(lyA L i).ids
theorem SkEq.plI {L L':List Ly}(h:SkEq L L')(id lv:Int):plI L' id lv=plI L id lv:=by
 unfold Go.Proofs.plI;rw[h.len]
 congr 1
 funext i
 rw[plP,plP,h.lvl,h.ids]
theorem SkEq.plK {L L':List Ly}(h:SkEq L L')(id lv:Int):plK L' id lv=plK L id lv:=by
 unfold Go.Proofs.plK;rw[h.plI,h.ids]
theorem z5f (L:List Ly)(i:Nat)(cs:List Cl)(ps:List Pr):(upL L i cs ps).length=L.length:=by simp[upL]
theorem upL_eq {L:List Ly}{i:Nat}(h:i<L.length)(cs:List Cl)(ps:List Pr):lyA (upL L i cs ps) i={lyA L i with cs:=cs,ps:=ps}:=lyA_set_eq h
theorem upL_ne {L:List Ly}{i j:Nat}(h:i≠j)(cs:List Cl)(ps:List Pr):lyA (upL L i cs ps) j=lyA L j:=lyA_set_ne h
theorem skEq_up {L:List Ly}{i:Nat}(h:i<L.length)(cs:List Cl)(ps:List Pr):SkEq L (upL L i cs ps):=by
 refine⟨z5f ..,fun j=> ?_,fun j=> ?_⟩
 ·by_cases e:i=j
  ·subst e;rw[upL_eq h]
  ·rw[upL_ne e]
 ·by_cases e:i=j
  ·subst e;rw[upL_eq h]
  ·rw[upL_ne e]
theorem Fsh.up {fo:Fo}(h:Fsh fo){i:Nat}(hi:i<fo.ly.length){cs:List Cl}{ps:List Pr}{C:List Cb}(hk:z4e (lyA fo.ly i).cs cs)(hp:ps.length=(lyA fo.ly i).ps.length)(hC:C.length=fo.cb.length):Fsh {fo with ly:=upL fo.ly i cs ps,cb:=C}:=by
 refine⟨h.ck,h.sm,h.h0,h.h16,by dsimp only;rw[hC];exact h.m1,by dsimp only;rw[hC];exact h.m8,by dsimp only;rw[z5f];exact h.len,fun j hj=> ?_⟩;dsimp only at hj ⊢;rw[z5f] at hj;rw[hC];have hA:=h.at_ j hj
 by_cases e:i=j
 ·subst e;rw[upL_eq hi];exact⟨hA.lvl,hA.ids,hk.len.trans hA.len,fun k hk'=>(hk.key _).trans (hA.key k hk'),hA.wd,hp.trans hA.pn⟩
 ·rw[upL_ne e];exact hA
theorem Fsh.cbs {fo:Fo}(h:Fsh fo){C:List Cb}(hC:C.length=fo.cb.length):Fsh {fo with cb:=C}:=
 ⟨h.ck,h.sm,h.h0,h.h16,by dsimp only;rw[hC];exact h.m1,by dsimp only;rw[hC];exact h.m8,h.len,fun j hj=>by dsimp only;rw[hC];exact h.at_ j hj⟩
theorem goneF_up {L:List Ly}{i:Nat}(hi:i<L.length)(cs:List Cl)(ps:List Pr)(id lv:Int):z4c (upL L i cs ps) id lv=if(plI L id lv).toNat=i then gn cs (plK L id lv) else z4c L id lv:=by
 unfold z4c;rw[(skEq_up hi cs ps).plI,(skEq_up hi cs ps).plK]
 split
 ·rename_i e;rw[e,upL_eq hi]
 ·rename_i e;rw[upL_ne (QD e)]
structure FI (fo:Fo) (ls:Nat->List Int):Prop where
 sh:Fsh fo
 inv:∀i,i<fo.ly.length->Inv (lyA fo.ly i).cs (lyA fo.ly i).ps (ls i)
 clm:∀p,p<fo.cb.length->cbOk fo.ns fo.ht (cbA fo.cb p)=true
 idl:∀p i,p<fo.cb.length->i<fo.ly.length->((cbA fo.cb p).kind=0\/plI fo.ly (cbA fo.cb p).node (cbA fo.cb p).lvl≠i)->z3h (pr (lyA fo.ly i).ps p)=false
 cur:∀p i:Nat,p<fo.cb.length->i<fo.ly.length->(cbA fo.cb p).kind≠0->plI fo.ly (cbA fo.cb p).node (cbA fo.cb p).lvl=i->
  (pr (lyA fo.ly i).ps p).cell=plK fo.ly (cbA fo.cb p).node (cbA fo.cb p).lvl/\(pr (lyA fo.ly i).ps p).kind=(cbA fo.cb p).kind/\(pr (lyA fo.ly i).ps p).phase≠0/\Own (lyA fo.ly i).cs (pr (lyA fo.ly i).ps p)
 dis:∀p q,p<fo.cb.length->q<fo.cb.length->(cbA fo.cb p).kind≠0->(cbA fo.cb q).kind≠0->(cbA fo.cb p).node=(cbA fo.cb q).node->p=q
 lev:∀x∈fo.ns,busyF fo.cb x.id=false->∀lv,0<=lv->lv<=fo.ht->z4c fo.ly x.id lv=z4c fo.ly x.id 0
 low:∀p,p<fo.cb.length->(cbA fo.cb p).kind≠0->∀lv,0<=lv->lv<=fo.ht->(lv<(cbA fo.cb p).lvl->z4c fo.ly (cbA fo.cb p).node lv=false)/\((cbA fo.cb p).lvl<lv->z4c fo.ly (cbA fo.cb p).node lv=true)
theorem findI_mem {xs:List Nd}{v:Int}(h:0<=findI xs v):∃x∈xs,x.id=v:=by
 rcases z3n xs.length fun i=>decide ((nd xs i).id=v) with⟨h1,_⟩|⟨j,h1,h2,h3,_⟩
 ·unfold findI at h;omega
 ·exact⟨nd xs j,nd_mem h2,jy h3⟩
theorem findI_of {xs:List Nd}{x:Nd}(h:x∈xs):0<=findI xs x.id:=by
 obtain⟨i,hi,rfl⟩:=Qg h;rcases z3n xs.length fun q=>decide ((nd xs q).id=(xs[i]).id) with⟨_,h2⟩|⟨j,h1,_⟩
 ·have:=h2 i hi;rw[qg,z3e hi] at this;exact absurd rfl this
 ·unfold findI;omega
structure Works (fo:Fo) (c:Cb) (x:Nd):Prop where
 k:c.kind=1\/c.kind=2
 mm:x∈fo.ns
 id:x.id=c.node
 l0:0<=c.lvl
 lh:c.lvl<=fo.ht
theorem cbOk_works {fo:Fo}{c:Cb}(h:cbOk fo.ns fo.ht c=true)(hk:c.kind≠0):∃x,Works fo c x:=by
 rw[cbOk,qr,qj] at h;rcases h with h|h
 ·subst h;exact absurd rfl hk
 ·simp only[qh,qr,qv,qj] at h;obtain⟨x,h1,h2⟩:=findI_mem h.1.1.2;exact⟨x,h.1.1.1,h1,h2,h.1.2,h.2⟩
theorem Works.ok {fo:Fo}{c:Cb}{x:Nd}(h:Works fo c x):cbOk fo.ns fo.ht c=true:=by
 simp only[cbOk,qr,qh,qv,qj];exact .inr ⟨⟨⟨h.k,by rw[<-h.id];exact findI_of h.mm⟩,h.l0⟩,h.lh⟩
theorem z1z {C:List Cb}{id:Int}:busyF C id=false↔∀p,p<C.length->(cbA C p).kind≠0->(cbA C p).node≠id:=by
 rw[busyF,anyB_iff];refine forall_congr' fun p=>forall_congr' fun hp=> ?_;simp[qU]
section
variable {fo:Fo} {ls:Nat->List Int}
theorem FI.works (h:FI fo ls){p:Nat}(hp:p<fo.cb.length)(hk:(cbA fo.cb p).kind≠0):∃x,Works fo (cbA fo.cb p) x:=cbOk_works (h.clm p hp) hk
theorem FI.stands (h:FI fo ls){p:Nat}(hp:p<fo.cb.length)(hk:(cbA fo.cb p).kind≠0):∃x i k,Works fo (cbA fo.cb p) x/\At fo x (cbA fo.cb p).lvl i k/\
  (pr (lyA fo.ly i).ps p).cell=k+2/\(pr (lyA fo.ly i).ps p).kind=(cbA fo.cb p).kind/\(pr (lyA fo.ly i).ps p).phase≠0/\Own (lyA fo.ly i).cs (pr (lyA fo.ly i).ps p):=by
 obtain⟨x,hw⟩:=h.works hp hk;obtain⟨i,k,ha⟩:=h.sh.place hw.mm hw.l0 hw.lh;have h1:=ha.pI;have h2:=ha.pK;rw[hw.id] at h1 h2;have:=h.cur p i hp ha.hi hk h1;rw[h2] at this;exact⟨x,i,k,hw,ha,this⟩
theorem At.gone {x:Nd}{lv:Int}{i k:Nat}(a:At fo x lv i k):z4c fo.ly x.id lv=gn (lyA fo.ly i).cs (k+2):=by
 rw[z4c,a.pI,a.pK,qz]
theorem FI.rest (h:FI fo ls){p:Nat}(hp:p<fo.cb.length)(hd:∀i:Nat,(cbA fo.cb p).kind≠0->plI fo.ly (cbA fo.cb p).node (cbA fo.cb p).lvl=i->(pr (lyA fo.ly i).ps p).phase=18)(i:Nat)(hi:i<fo.ly.length):z3h (pr (lyA fo.ly i).ps p)=false:=by
 by_cases hk:(cbA fo.cb p).kind=0
 ·exact h.idl p i hp hi (.inl hk)
 ·by_cases he:plI fo.ly (cbA fo.cb p).node (cbA fo.cb p).lvl=i
  ·have:=hd i hk he;simp[z3h,this]
  ·exact h.idl p i hp hi (.inr he)
theorem Fsh.same (h:Fsh fo){x y:Nd}(hx:x∈fo.ns)(hy:y∈fo.ns){lv lw:Int}(l0:0<=lv)(lh:lv<=fo.ht)(m0:0<=lw)(mh:lw<=fo.ht)(hI:plI fo.ly x.id lv=plI fo.ly y.id lw)(hK:plK fo.ly x.id lv=plK fo.ly y.id lw):x=y/\lv=lw:=by
 obtain⟨i,k,a⟩:=h.place hx l0 lh;obtain⟨j,m,b⟩:=h.place hy m0 mh;have h1:=a.pI;have h2:=a.pK;have h3:=b.pI;have h4:=b.pK;have e1:i=j:=by omega
 have e2:k=m:=by omega
 subst e1 e2;exact a.inj h b
theorem FI.layer (h:FI fo ls){p:Nat}(hp:p<fo.cb.length)(hk:(cbA fo.cb p).kind≠0){i:Nat}(hI:plI fo.ly (cbA fo.cb p).node (cbA fo.cb p).lvl=i)(ha:z3h (pr (lyA fo.ly i).ps p)=true){ds:List Cl}{y:Pr}(t:Tr (lyA fo.ly i).cs p (pr (lyA fo.ly i).ps p) ds y):
  ∃l',i<fo.ly.length/\Inv ds ((lyA fo.ly i).ps.set p y) l'/\FI {fo with ly:=upL fo.ly i ds ((lyA fo.ly i).ps.set p y)} (fun j=>if j=i then l' else ls j)/\
   ∀x∈fo.ns,∀lv,0<=lv->lv<=fo.ht->x.id≠(cbA fo.cb p).node\/lv≠(cbA fo.cb p).lvl->z4c (upL fo.ly i ds ((lyA fo.ly i).ps.set p y)) x.id lv=z4c fo.ly x.id lv:=by
 obtain⟨x0,i0,k0,hw,hat,hc1,hc2,hc3,hc4⟩:=h.stands hp hk;have e0:i0=i:=by have:=hat.pI;rw[hw.id] at this;omega
 subst e0;have hi:=hat.hi;have hpl:p<(lyA fo.ly i0).ps.length:=by rw[(h.sh.at_ i0 hi).pn];exact hp
 have hinv:=h.inv i0 hi;obtain⟨l',hl'⟩:=hinv.step hpl ha t;have hke:=(hinv.marks hpl ha t).1;have hsk:=skEq_up hi ds ((lyA fo.ly i0).ps.set p y)
 have off:∀x∈fo.ns,∀lv,0<=lv->lv<=fo.ht->x.id≠(cbA fo.cb p).node\/lv≠(cbA fo.cb p).lvl->z4c (upL fo.ly i0 ds ((lyA fo.ly i0).ps.set p y)) x.id lv=z4c fo.ly x.id lv:=fun x hx lv l0 lh hne=>by
  obtain⟨j,m,b⟩:=h.sh.place hx l0 lh;rw[goneF_up hi,b.pI,b.pK,qz]
  split
  ·rename_i e;subst e;rw[hinv.off hpl ha t (by omega) (fun g=> ?_),b.gone];rw[hc1] at g;have e2:m=k0:=by omega
   subst e2;obtain⟨g1,g2⟩:=b.inj h.sh hat;subst g1;rcases hne with hne|hne
   ·exact hne hw.id
   ·exact hne g2
  ·rfl
 have kd:=t.kind';refine⟨l',hi,hl',⟨h.sh.up hi hke qD rfl,fun j hj=> ?_,h.clm,fun q j hq hj hz=> ?_,fun q j hq hj hz hzz=> ?_,h.dis,fun x hx hb lv l0 lh=> ?_,fun q hq hz lv l0 lh=> ?_⟩,off⟩
 ·dsimp only at hj ⊢;rw[z5f] at hj
  by_cases e:i0=j
  ·subst e;rw[upL_eq hi,qf rfl];exact hl'
  ·rw[upL_ne e,qb (QD e)];exact h.inv j hj
 ·dsimp only at hq hj hz ⊢;rw[z5f] at hj;rw[hsk.plI] at hz
  by_cases e:i0=j
  ·subst e;rw[upL_eq hi];dsimp only
   by_cases e2:p=q
   ·subst e2;rcases hz with hz|hz
    ·exact absurd hz hk
    ·exact absurd hI hz
   ·rw[z2k e2];exact h.idl q i0 hq hj hz
  ·rw[upL_ne e];exact h.idl q j hq hj hz
 ·dsimp only at hq hj hz hzz ⊢;rw[z5f] at hj;rw[hsk.plI] at hzz;rw[hsk.plK]
  by_cases e:i0=j
  ·subst e;rw[upL_eq hi];dsimp only
   by_cases e2:p=q
   ·subst e2;rw[z3v hpl,kd.1,kd.2.1];have:=h.cur p i0 hq hj hz hzz;exact⟨this.1,this.2.1,kd.2.2,hc4.step hinv hpl ha t⟩
   ·rw[z2k e2];obtain⟨g1,g2,g3,g4⟩:=h.cur q i0 hq hj hz hzz;refine⟨g1,g2,g3,g4.off (hinv.off hpl ha t ?_ ?_)⟩
    ·rw[g1];obtain⟨xq,iq,kq,wq,aq,_⟩:=h.stands hq hz;have:=aq.pK;rw[wq.id] at this;omega
    ·intro g;obtain⟨xq,wq⟩:=h.works hq hz;have e3:=h.sh.same wq.mm hw.mm wq.l0 wq.lh hw.l0 hw.lh (by rw[wq.id,hw.id,hzz,hI]) (by rw[wq.id,<-g1,g,hc1,hat.pK]);exact e2 (h.dis p q hp hq hk hz (by rw[<-wq.id,<-hw.id,e3.1]))
  ·rw[upL_ne e];exact h.cur q j hq hj hz hzz
 ·dsimp only at hx hb l0 lh ⊢;have hne:=z1z.1 hb p hp hk;rw[off x hx lv l0 lh (.inl (QD hne)),off x hx 0 (by omega) (by have:=h.sh.h0;omega) (.inl (QD hne))];exact h.lev x hx hb lv l0 lh
 ·dsimp only at hq hz l0 lh ⊢;obtain⟨xq,wq⟩:=h.works hq hz;have:=h.low q hq hz lv l0 lh
  by_cases e:lv=(cbA fo.cb q).lvl
  ·exact⟨fun g=>by omega,fun g=>by omega⟩
  ·have hg:=off xq wq.mm lv l0 lh (by
    by_cases e2:p=q
    ·subst e2;exact .inr e
    ·left;intro g;exact e2 (h.dis p q hp hq hk hz (by rw[<-wq.id,g])))
   rw[wq.id] at hg;rw[hg];exact this
theorem FI.begin (h:FI fo ls){p:Nat}(hp:p<fo.cb.length)(hr:∀i,i<fo.ly.length->z3h (pr (lyA fo.ly i).ps p)=false){c:Cb}{x:Nd}(hw:Works fo c x)
  (hn:∀q,q<fo.cb.length->q≠p->(cbA fo.cb q).kind≠0->(cbA fo.cb q).node≠c.node) (ho:(cbA fo.cb p).kind≠0->(cbA fo.cb p).node=c.node)
  (hg:z4c fo.ly c.node c.lvl=(c.kind==1)) (hl:∀lv,0<=lv->lv<=fo.ht->(lv<c.lvl->z4c fo.ly c.node lv=false)/\(c.lvl<lv->z4c fo.ly c.node lv=true)):
  beginE fo.ly p c=0/\FI {fo with ly:=beginL fo.ly p c,cb:=fo.cb.set p c} ls:=by
 obtain⟨i,k,a⟩:=h.sh.place hw.mm hw.l0 hw.lh;have hI:=a.pI;have hK:=a.pK;rw[hw.id] at hI hK;have hi:=a.hi;have hinv:=h.inv i hi;have hpl:p<(lyA fo.ly i).ps.length:=by rw[(h.sh.at_ i hi).pn];exact hp
 have hcel:=a.cel
 have he:z58 (lyA fo.ly i).cs (lyA fo.ly i).ps (p:Int) c.kind ((k:Int)+2)=0:=by
  unfold z58;rw[hinv.vb]
  have h1:(decide ((p:Int)<0)||decide (((lyA fo.ly i).ps.length:Int)<=p))=false:=by
   rw[qi,qg,qg];omega
  have h2:(decide ((k:Int)+2<2)||decide (((lyA fo.ly i).cs.length:Int)<=k+2))=false:=by
   rw[qi,qg,qg];omega
  have h3:kindBad c.kind=false:=by
   rw[kindBad,qi,qg,qg];have:=hw.k;omega
  rw[h1,h2,h3,qz,hr i hi]
  rfl
 refine⟨by rw[beginE,hI,hK,qz];exact he,?_⟩;unfold beginL;rw[hI,hK,qz];have hinv':=hinv.start he;have hs:=startP_length (lyA fo.ly i).cs (lyA fo.ly i).ps (p:Int) c.kind ((k:Int)+2);have hst:startP (lyA fo.ly i).cs (lyA fo.ly i).ps (p:Int) c.kind ((k:Int)+2)=(lyA fo.ly i).ps.set p ⟨c.kind,(k:Int)+2,1,0,(cl (lyA fo.ly i).cs 0).right,0,false⟩:=by rw[startP,qz]
 have hsk:=skEq_up hi (lyA fo.ly i).cs (startP (lyA fo.ly i).cs (lyA fo.ly i).ps (p:Int) c.kind ((k:Int)+2))
 have gsame:∀id lv,z4c (upL fo.ly i (lyA fo.ly i).cs (startP (lyA fo.ly i).cs (lyA fo.ly i).ps (p:Int) c.kind ((k:Int)+2))) id lv=z4c fo.ly id lv:=fun id lv=>by
  rw[goneF_up hi]
  split
  ·rename_i e;rw[z4c,e]
  ·rfl
 have cset:∀q,cbA (fo.cb.set p c) q=if q=p then c else cbA fo.cb q:=fun q=>by
  split
  ·rename_i e;subst e;exact z3m hp
  ·rename_i e;exact z5a (QD e)
 have hck:c.kind≠0:=by have:=hw.k;omega
 refine⟨h.sh.up hi (.refl _) hs qD,fun j hj=> ?_,fun q hq=> ?_,fun q j hq hj hz=> ?_,fun q j hq hj hz hzz=> ?_,fun q r hq hr1 hz1 hz2 hz3=> ?_,fun y hy hb lv l0 lh=> ?_,fun q hq hz lv l0 lh=> ?_⟩
 ·dsimp only at hj ⊢;rw[z5f] at hj
  by_cases e:i=j
  ·subst e;rw[upL_eq hi];exact hinv'
  ·rw[upL_ne e];exact h.inv j hj
 ·dsimp only at hq ⊢;rw[qD] at hq;rw[cset]
  split
  ·exact hw.ok
  ·exact h.clm q hq
 ·dsimp only at hq hj hz ⊢;rw[qD] at hq;rw[z5f] at hj;rw[hsk.plI,cset] at hz
  by_cases e2:q=p
  ·subst e2;rw[qf rfl] at hz;rcases hz with hz|hz
   ·exact absurd hz hck
   ·rw[hI] at hz;rw[upL_ne (fun e=>hz (by rw[e]))];exact hr j hj
  ·rw[qb e2] at hz
   by_cases e:i=j
   ·subst e;rw[upL_eq hi];dsimp only;rw[hst,z2k (QD e2)];exact h.idl q i hq hj hz
   ·rw[upL_ne e];exact h.idl q j hq hj hz
 ·dsimp only at hq hj hz hzz ⊢;rw[qD] at hq;rw[z5f] at hj;rw[hsk.plI,cset] at hzz;rw[hsk.plK];rw[cset] at hz ⊢
  by_cases e2:q=p
  ·subst e2;rw[qf rfl] at hz hzz ⊢;have e:i=j:=by omega
   subst e;rw[upL_eq hi];dsimp only;rw[hst,z3v hpl,hK];refine⟨rfl,rfl,by dsimp only;decide,Own.start hw.k ?_⟩;rw[<-hg,<-hw.id,a.gone]
  ·rw[qb e2] at hz hzz ⊢
   by_cases e:i=j
   ·subst e;rw[upL_eq hi];dsimp only;rw[hst,z2k (QD e2)];exact h.cur q i hq hj hz hzz
   ·rw[upL_ne e];exact h.cur q j hq hj hz hzz
 ·dsimp only at hq hr1 hz1 hz2 hz3;rw[qD] at hq hr1;rw[cset] at hz1 hz3;rw[cset] at hz2 hz3
  by_cases e1:q=p
  ·by_cases e2:r=p
   ·rw[e1,e2]
   ·rw[qf e1,qb e2] at hz3;rw[qb e2] at hz2;exact absurd hz3.symm (hn r hr1 e2 hz2)
  ·rw[qb e1] at hz1
   by_cases e2:r=p
   ·rw[qb e1,qf e2] at hz3;exact absurd hz3 (hn q hq e1 hz1)
   ·rw[qb e1,qb e2] at hz3;rw[qb e2] at hz2;exact h.dis q r hq hr1 hz1 hz2 hz3
 ·dsimp only at hy hb l0 lh ⊢;rw[gsame,gsame];refine h.lev y hy (z1z.2 fun q hq hz=> ?_) lv l0 lh;have hb1:=z1z.1 hb;rw[qD] at hb1
  by_cases e:q=p
  ·subst e;have:=hb1 q hq;rw[cset,qf rfl] at this;rw[ho hz];exact this hck
  ·have:=hb1 q hq;rw[cset,qb e] at this;exact this hz
 ·dsimp only at hq hz l0 lh ⊢;rw[qD] at hq;rw[gsame];rw[cset] at hz ⊢
  split
  ·exact hl lv l0 lh
  ·rename_i e;rw[qb e] at hz;exact h.low q hq hz lv l0 lh
theorem FI.finish (h:FI fo ls){p:Nat}(hp:p<fo.cb.length)(hk:(cbA fo.cb p).kind≠0)(hr:∀i,i<fo.ly.length->z3h (pr (lyA fo.ly i).ps p)=false)
  (hg:∀lv,0<=lv->lv<=fo.ht->z4c fo.ly (cbA fo.cb p).node lv=((cbA fo.cb p).kind==2)):FI {fo with cb:=fo.cb.set p noCb} ls:=by
 have cset:∀q,cbA (fo.cb.set p noCb) q=if q=p then noCb else cbA fo.cb q:=fun q=>by
  split
  ·rename_i e;subst e;exact z3m hp
  ·rename_i e;exact z5a (QD e)
 refine⟨h.sh.cbs qD,h.inv,fun q hq=> ?_,fun q j hq hj hz=> ?_,fun q j hq hj hz hzz=> ?_,fun q r hq hr1 hz1 hz2 hz3=> ?_,fun y hy hb lv l0 lh=> ?_,fun q hq hz lv l0 lh=> ?_⟩
 ·dsimp only at hq ⊢;rw[qD] at hq;rw[cset]
  split
  ·rfl
  ·exact h.clm q hq
 ·dsimp only at hq hj hz ⊢;rw[qD] at hq
  by_cases e:q=p
  ·subst e;exact hr j hj
  ·rw[cset,qb e] at hz;exact h.idl q j hq hj hz
 ·dsimp only at hq hj hz hzz ⊢;rw[qD] at hq;rw[cset] at hz hzz ⊢
  by_cases e:q=p
  ·rw[qf e] at hz;exact absurd rfl hz
  ·rw[qb e] at hz hzz ⊢;exact h.cur q j hq hj hz hzz
 ·dsimp only at hq hr1 hz1 hz2 hz3;rw[qD] at hq hr1;rw[cset] at hz1 hz2;have e1:q≠p:=fun e=>by rw[qf e] at hz1;exact hz1 rfl
  have e2:r≠p:=fun e=>by rw[qf e] at hz2;exact hz2 rfl
  rw[cset,cset,qb e1,qb e2] at hz3;rw[qb e1] at hz1;rw[qb e2] at hz2;exact h.dis q r hq hr1 hz1 hz2 hz3
 ·dsimp only at hy hb l0 lh ⊢
  by_cases e:y.id=(cbA fo.cb p).node
  ·rw[e,hg lv l0 lh,hg 0 (jC _) h.sh.h0]
  ·refine h.lev y hy (z1z.2 fun q hq hz=> ?_) lv l0 lh;have hb1:=z1z.1 hb;rw[qD] at hb1
   by_cases e2:q=p
   ·subst e2;exact fun g=>e g.symm
   ·have:=hb1 q hq;rw[cset,qb e2] at this;exact this hz
 ·dsimp only at hq hz l0 lh ⊢;rw[qD] at hq;rw[cset] at hz ⊢;have e1:q≠p:=fun e=>by rw[qf e] at hz;exact hz rfl
  rw[qb e1] at hz ⊢;exact h.low q hq hz lv l0 lh
end
end
section
def sumR (f:Nat->Nat):Nat->Nat
 |0=>0
 |n+1=>sumR f n+f n
theorem sumR_congr {f g:Nat->Nat}:∀{n:Nat},(∀i,i<n->g i=f i)->sumR g n=sumR f n
 |0,_=>rfl
 |n+1,h=>by rw[sumR,sumR,sumR_congr fun i hi=>h i (by omega),h n (by omega)]
theorem sumR_le {f g:Nat->Nat}:∀{n:Nat},(∀i,i<n->g i<=f i)->sumR g n<=sumR f n
 |0,_=>qc _
 |n+1,h=>by have:=sumR_le (f:=f) (g:=g) (n:=n) fun i hi=>h i (by omega);have:=h n (by omega);simp only[sumR];omega
theorem sumR_one {f g:Nat->Nat}{i:Nat}:∀{n:Nat},i<n->(∀j,j<n->j≠i->g j=f j)->sumR g n+f i=sumR f n+g i
 |n+1,hi,h=>by
  simp only[sumR]
  by_cases e:i=n
  ·subst e;rw[sumR_congr (f:=f) (g:=g) fun j hj=>h j (by omega) (by omega)];omega
  ·have:=sumR_one (n:=n) (by omega) fun j hj hne=>h j (by omega) hne;rw[h n (by omega) (QD e)];omega
theorem sumR_add (f g:Nat->Nat):∀n,sumR (fun i=>f i+g i) n=sumR f n+sumR g n
 |0=>rfl
 |n+1=>by simp only[sumR];rw[sumR_add f g n];omega
theorem sumR_zero:∀n,sumR (fun _=>0) n=0
 |0=>rfl
 |n+1=>by rw[sumR,sumR_zero n]
theorem sumR_comm (f:Nat->Nat->Nat)(m:Nat):∀n,sumR (fun i=>sumR (f i) m) n=sumR (fun j=>sumR (fun i=>f i j) n) m
 |0=>(sumR_zero m).symm
 |n+1=>by simp only[sumR];rw[sumR_comm f m n,sumR_add]
theorem sumR_mul (f:Nat->Nat)(k:Nat):∀n,sumR (fun i=>f i*k) n=sumR f n*k
 |0=>by simp[sumR]
 |n+1=>by simp only[sumR];rw[sumR_mul f k n,qX]
theorem sumR_ge {f:Nat->Nat}{i:Nat}:∀{n:Nat},i<n->f i<=sumR f n
 |n+1,h=>by
  simp only[sumR]
  by_cases e:i=n
  ·subst e;omega
  ·have:=sumR_ge (f:=f) (n:=n) (show i<n by omega);omega
theorem sumR_single {f:Nat->Nat}{B:Nat}:∀{n:Nat},(∀i,i<n->f i<=B)->(∀i j,i<n->j<n->f i≠0->f j≠0->i=j)->sumR f n<=B
 |0,_,_=>qo _
 |n+1,h,hu=>by
  simp only[sumR]
  by_cases e:f n=0
  ·rw[e];exact sumR_single (fun i hi=>h i (by omega)) fun i j hi hj=>hu i j (by omega) (by omega)
  ·have:sumR f n=0:=by
    rw[<-sumR_zero n];refine sumR_congr fun i hi=> ?_
    cases g:f i with
    |zero=>rfl
    |succ v=>have:=hu i n (by omega) (by omega) (by omega) e;omega
   have:=h n (by omega);omega
theorem actN_sum (ps:List Pr):∀n,actN ps n=sumR (fun i=>(z3h (pr ps i)).toNat) n
 |0=>rfl
 |n+1=>by
  simp only[actN,sumR];rw[actN_sum ps n]
  cases z3h (pr ps n)<;>rfl
def futB (L:List Ly)(c:Cb)(i:Nat):Bool:=decide (plI L c.node (lyA L i).lvl=i) && ((c.kind==1 && decide (c.lvl<(lyA L i).lvl))||(c.kind==2 && decide ((lyA L i).lvl<c.lvl)))
def futN (L:List Ly)(C:List Cb)(i:Nat):Nat:=sumR (fun p=>(futB L (cbA C p) i).toNat) C.length
def rem (ht:Int)(c:Cb):Nat:=(if c.kind=1 then ht-c.lvl else c.lvl).toNat
def wC (ht:Int)(k:Nat)(c:Cb):Nat:=if c.kind=0 then 0 else rem ht c*k+1
def Phi (fo:Fo)(ls:Nat->List Int)(k:Nat):Nat:=sumR (fun i=>phiE (lyA fo.ly i).cs (lyA fo.ly i).ps (ls i) (futN fo.ly fo.cb i)) fo.ly.length+sumR (fun p=>wC fo.ht k (cbA fo.cb p)) fo.cb.length
def z2c (C:List Cb):Nat:=sumR (fun p=>((cbA C p).kind !=0).toNat) C.length
theorem futB_sk {L L':List Ly}(h:SkEq L L')(c:Cb)(i:Nat):futB L' c i=futB L c i:=by rw[futB,futB,h.plI,h.lvl]
theorem futN_sk {L L':List Ly}(h:SkEq L L')(C:List Cb)(i:Nat):futN L' C i=futN L C i:=by simp only[futN,futB_sk h]
theorem futB_kind {L:List Ly}{c:Cb}{i:Nat}(h:futB L c i=true):c.kind≠0:=by
 intro e;simp[futB,e] at h
section
variable {fo:Fo} {ls:Nat->List Int}
theorem FI.crowd (h:FI fo ls){i:Nat}(hi:i<fo.ly.length):actN (lyA fo.ly i).ps (lyA fo.ly i).ps.length+futN fo.ly fo.cb i<=z2c fo.cb:=by
 rw[(h.sh.at_ i hi).pn,actN_sum,futN,<-sumR_add,z2c];refine sumR_le fun p hp=> ?_
 by_cases hk:(cbA fo.cb p).kind=0
 ·rw[h.idl p i hp hi (.inl hk)]
  cases g:futB fo.ly (cbA fo.cb p) i with
  |false=>simp
  |true=>exact absurd hk (futB_kind g)
 ·have e:((cbA fo.cb p).kind !=0)=true:=by simpa using hk
  rw[e]
  by_cases hI:plI fo.ly (cbA fo.cb p).node (cbA fo.cb p).lvl=i
  ·obtain⟨x,j,k,hw,ha,_⟩:=h.stands hp hk;have hj:j=i:=by have:=ha.pI;rw[hw.id] at this;omega
   subst hj
   have g:futB fo.ly (cbA fo.cb p) j=false:=by
    unfold futB;rw[ha.lvl];simp
   rw[g]
   cases z3h (pr (lyA fo.ly j).ps p)<;>decide
  ·rw[h.idl p i hp hi (.inr hI)]
   cases futB fo.ly (cbA fo.cb p) i<;>decide
theorem FI.acts (h:FI fo ls):sumR (fun i=>actN (lyA fo.ly i).ps (lyA fo.ly i).ps.length) fo.ly.length<=z2c fo.cb:=by
 have e:sumR (fun i=>actN (lyA fo.ly i).ps (lyA fo.ly i).ps.length) fo.ly.length=sumR (fun i=>sumR (fun p=>(z3h (pr (lyA fo.ly i).ps p)).toNat) fo.cb.length) fo.ly.length:=
  sumR_congr fun i hi=>by rw[(h.sh.at_ i hi).pn,actN_sum]
 rw[e,sumR_comm,z2c];refine sumR_le fun p hp=> ?_;have hb:∀b:Bool,b.toNat<=1:=fun b=>by cases b<;>decide
 by_cases hk:(cbA fo.cb p).kind=0
 ·rw[sumR_congr (f:=fun _=>0) fun i hi=>by rw[h.idl p i hp hi (.inl hk)];rfl,sumR_zero];exact qo _
 ·have e:((cbA fo.cb p).kind !=0)=true:=by simpa using hk
  rw[e];refine sumR_single (fun i _=>hb _) fun i j hi hj h1 h2=> ?_
  have f:∀i,i<fo.ly.length->(z3h (pr (lyA fo.ly i).ps p)).toNat≠0->plI fo.ly (cbA fo.cb p).node (cbA fo.cb p).lvl=i:=fun i hi hh=>by
   by_cases g:plI fo.ly (cbA fo.cb p).node (cbA fo.cb p).lvl=i
   ·exact g
   ·rw[h.idl p i hp hi (.inr g)] at hh;exact absurd rfl hh
  have:=f i hi h1;have:=f j hj h2;omega
theorem Fsh.small (h:Fsh fo){i:Nat}(hi:i<fo.ly.length):(lyA fo.ly i).cs.length<=fo.ns.length+2:=by
 rw[(h.at_ i hi).len];have:=(h.sub hi).length_le;rw[<-(z1o fo.ns).length_eq] at this;omega
def z2o (fo:Fo)(M:Nat):Nat:=(M+1)*(fo.ns.length+7)+7
theorem FI.bound (h:FI fo ls):Phi fo ls (z2o fo (z2c fo.cb))<=z2c fo.cb*(fo.ht.toNat+1)*z2o fo (z2c fo.cb):=by
 generalize hM:z2c fo.cb=M
 have h1:sumR (fun i=>phiE (lyA fo.ly i).cs (lyA fo.ly i).ps (ls i) (futN fo.ly fo.cb i)) fo.ly.length<=M*(M*(fo.ns.length+7)+fo.ns.length+11):=by
  refine qT (sumR_le (f:=fun i=>actN (lyA fo.ly i).ps (lyA fo.ly i).ps.length*(M*(fo.ns.length+7)+fo.ns.length+11)) fun i hi=> ?_) ?_
  ·refine qT (phiE_le (M:=M) (by rw[<-hM];exact h.crowd hi)) (jA _ ?_);have h1:=h.sh.small hi;have:=jA M (show(lyA fo.ly i).cs.length+5<=fo.ns.length+7 by omega);omega
  ·rw[sumR_mul];exact qQ _ (by rw[<-hM];exact h.acts)
 have h2:sumR (fun p=>wC fo.ht (z2o fo M) (cbA fo.cb p)) fo.cb.length<=M*(fo.ht.toNat*z2o fo M+1):=by
  have hb:sumR (fun p=>((cbA fo.cb p).kind !=0).toNat) fo.cb.length=M:=hM;refine qT (sumR_le (f:=fun p=>((cbA fo.cb p).kind !=0).toNat*(fo.ht.toNat*z2o fo M+1)) fun p hp=> ?_) (by rw[sumR_mul,hb];exact qc _);unfold wC
  by_cases hk:(cbA fo.cb p).kind=0
  ·rw[qf hk];exact qo _
  ·rw[qb hk,show((cbA fo.cb p).kind !=0)=true by simpa using hk];obtain⟨x,hw⟩:=h.works hp hk
   have hr:rem fo.ht (cbA fo.cb p)<=fo.ht.toNat:=by
    unfold rem;have:=hw.l0;have:=hw.lh
    split<;>omega
   have:=qQ (z2o fo M) hr;simp only[Bool.toNat_true,jo];omega
 unfold Phi;refine qT (Nat.add_le_add h1 h2) ?_;rw[<-J7,Nat.mul_assoc];refine jA _ ?_;rw[qX,jo];have:z2o fo M=M*(fo.ns.length+7)+fo.ns.length+14:=by unfold z2o;rw[qX,jo];omega
 omega
theorem FI.layer_phi (h:FI fo ls){p:Nat}(hp:p<fo.cb.length){i:Nat}(hi:i<fo.ly.length)(ha:z3h (pr (lyA fo.ly i).ps p)=true){ds:List Cl}{y:Pr}(t:Tr (lyA fo.ly i).cs p (pr (lyA fo.ly i).ps p) ds y){l':List Int}(hl:Inv ds ((lyA fo.ly i).ps.set p y) l')(k:Nat):
  Phi {fo with ly:=upL fo.ly i ds ((lyA fo.ly i).ps.set p y)} (fun j=>if j=i then l' else ls j) k+1<=Phi fo ls k:=by
 have hpl:p<(lyA fo.ly i).ps.length:=by rw[(h.sh.at_ i hi).pn];exact hp
 have hsk:=skEq_up hi ds ((lyA fo.ly i).ps.set p y);have h1:=phiE_step (h.inv i hi) hpl ha t hl (futN fo.ly fo.cb i);unfold Phi
 try dsimp only
 rw[z5f]
 have h2:=sumR_one (f:=fun j=>phiE (lyA fo.ly j).cs (lyA fo.ly j).ps (ls j) (futN fo.ly fo.cb j)) (g:=fun j=>phiE (lyA (upL fo.ly i ds ((lyA fo.ly i).ps.set p y)) j).cs (lyA (upL fo.ly i ds ((lyA fo.ly i).ps.set p y)) j).ps (if j=i then l' else ls j) (futN (upL fo.ly i ds ((lyA fo.ly i).ps.set p y)) fo.cb j)) hi fun j hj hne=>by
  try dsimp only
  rw[futN_sk hsk,upL_ne (QD hne),qb hne]
 try dsimp only at h2
 rw[futN_sk hsk,upL_eq hi,qf rfl] at h2
 try dsimp only at h2
 omega
theorem phiE_mono {cs:List Cl}{ps:List Pr}{l:List Int}{e e':Nat}(h:e<=e'):phiE cs ps l e<=phiE cs ps l e':=by
 unfold phiE;have:=qQ (cs.length+5) (qQ (actN ps ps.length) h);omega
theorem FI.finish_phi {p:Nat}(hp:p<fo.cb.length)(hk:(cbA fo.cb p).kind≠0)(k:Nat):Phi {fo with cb:=fo.cb.set p noCb} ls k+1<=Phi fo ls k:=by
 have cset:∀q,cbA (fo.cb.set p noCb) q=if q=p then noCb else cbA fo.cb q:=fun q=>by
  split
  ·rename_i e;subst e;exact z3m hp
  ·rename_i e;exact z5a (QD e)
 unfold Phi
 try dsimp only
 rw[qD]
 have h1:sumR (fun i=>phiE (lyA fo.ly i).cs (lyA fo.ly i).ps (ls i) (futN fo.ly (fo.cb.set p noCb) i)) fo.ly.length<=sumR (fun i=>phiE (lyA fo.ly i).cs (lyA fo.ly i).ps (ls i) (futN fo.ly fo.cb i)) fo.ly.length:=
  sumR_le fun i _=>phiE_mono (by
   unfold futN;rw[qD];refine sumR_le fun q _=> ?_;rw[cset]
   split
   ·rw[show futB fo.ly noCb i=false by simp[futB,noCb]];exact qo _
   ·exact qc _)
 have h2:=sumR_one (f:=fun q=>wC fo.ht k (cbA fo.cb q)) (g:=fun q=>wC fo.ht k (cbA (fo.cb.set p noCb) q)) hp fun j _ hne=>by(try dsimp only);rw[cset,qb hne]
 try dsimp only at h2
 rw[cset,qf rfl,show wC fo.ht k noCb=0 from rfl] at h2;have h3:1<=wC fo.ht k (cbA fo.cb p):=by unfold wC;rw[qb hk];omega
 omega
theorem FI.climb_phi (h:FI fo ls){p:Nat}(hp:p<fo.cb.length)(hk:(cbA fo.cb p).kind≠0)(hr:∀i,i<fo.ly.length->z3h (pr (lyA fo.ly i).ps p)=false){x:Nd}(hw:Works fo (nxC (cbA fo.cb p)) x){M:Nat}(hM:z2c fo.cb<=M):
  Phi {fo with ly:=beginL fo.ly p (nxC (cbA fo.cb p)),cb:=fo.cb.set p (nxC (cbA fo.cb p))} ls (z2o fo M)+1<=Phi fo ls (z2o fo M):=by
 obtain⟨c0,hc0⟩:∃c0,cbA fo.cb p=c0:=⟨_,rfl⟩;obtain⟨x0,hw0⟩:=h.works hp hk;rw[hc0] at hw hw0 hk ⊢;obtain⟨c,hc⟩:∃c,nxC c0=c:=⟨_,rfl⟩;have hcn:c.node=c0.node:=by subst hc;unfold nxC;split<;>rfl
 have hck:c.kind=c0.kind:=by subst hc;unfold nxC;split<;>rfl
 have hcl:c.lvl=if c0.kind=1 then c0.lvl+1 else c0.lvl-1:=by subst hc;unfold nxC;split<;>rfl
 rw[hc] at hw ⊢;obtain⟨i,k,a⟩:=h.sh.place hw.mm hw.l0 hw.lh;have hI:=a.pI;have hK:=a.pK;rw[hw.id] at hI hK;have hi:=a.hi;have hpl:p<(lyA fo.ly i).ps.length:=by rw[(h.sh.at_ i hi).pn];exact hp
 unfold beginL;rw[hI,hK,qz];have hst:startP (lyA fo.ly i).cs (lyA fo.ly i).ps (p:Int) c.kind ((k:Int)+2)=(lyA fo.ly i).ps.set p ⟨c.kind,(k:Int)+2,1,0,(cl (lyA fo.ly i).cs 0).right,0,false⟩:=by rw[startP,qz]
 rw[hst];obtain⟨qs,hqs⟩:∃qs,(lyA fo.ly i).ps.set p ⟨c.kind,(k:Int)+2,1,0,(cl (lyA fo.ly i).cs 0).right,0,false⟩=qs:=⟨_,rfl⟩;rw[hqs];have hsk:=skEq_up hi (lyA fo.ly i).cs qs
 have cset:∀q,cbA (fo.cb.set p c) q=if q=p then c else cbA fo.cb q:=fun q=>by
  split
  ·rename_i e;subst e;exact z3m hp
  ·rename_i e;exact z5a (QD e)
 have fut1:futB fo.ly c0 i=true:=by
  unfold futB;rw[a.lvl,<-hcn,hI,hcl];have:=hw0.k;rcases this with g|g<;>simp[g]<;>omega
 have fut2:futB fo.ly c i=false:=by
  unfold futB;rw[a.lvl];simp
 have fut3:∀j,j<fo.ly.length->j≠i->futB fo.ly c j=futB fo.ly c0 j:=fun j hj hne=>by
  unfold futB;rw[hcn,hck]
  by_cases g:plI fo.ly c0.node (lyA fo.ly j).lvl=j
  ·have g2:(lyA fo.ly j).lvl≠c.lvl:=fun e=>by rw[e,<-hcn,hI] at g;omega
   rw[hcl] at g2 ⊢;rcases hw0.k with e|e
   ·rw[qf e] at g2 ⊢;rw[e];simp only[Jo,qV];rw[show decide (c0.lvl+1<(lyA fo.ly j).lvl)=decide (c0.lvl<(lyA fo.ly j).lvl) by rw[JS];omega]
    rfl
   ·rw[qb (by omega)] at g2 ⊢;rw[e];simp only[Jo,qV];rw[show decide ((lyA fo.ly j).lvl<c0.lvl-1)=decide ((lyA fo.ly j).lvl<c0.lvl) by rw[JS];omega]
    rfl
  ·rw[qM g];rfl
 have futs:∀j,futN (upL fo.ly i (lyA fo.ly i).cs qs) (fo.cb.set p c) j+(futB fo.ly c0 j).toNat=futN fo.ly fo.cb j+(futB fo.ly c j).toNat:=fun j=>by
  rw[futN_sk hsk];unfold futN;rw[qD];have:=sumR_one (f:=fun q=>(futB fo.ly (cbA fo.cb q) j).toNat) (g:=fun q=>(futB fo.ly (cbA (fo.cb.set p c) q) j).toNat) hp fun q _ hne=>by(try dsimp only);rw[cset,qb hne]
  try dsimp only at this
  rw[cset,qf rfl,hc0] at this;exact this
 have fi:=futs i;rw[fut1,fut2] at fi;simp only[Bool.toNat_true,Bool.toNat_false,jg] at fi;have hcrowd:=h.crowd hi;have hlen:=h.sh.small hi;have hphi:=phiE_start (h.inv i hi) hpl (hr i hi) (k:=c.kind) (c:=(k:Int)+2) hw.k (futN (upL fo.ly i (lyA fo.ly i).cs qs) (fo.cb.set p c) i);rw[hqs,fi] at hphi;unfold Phi
 try dsimp only
 rw[z5f,qD]
 have h2:=sumR_one (f:=fun j=>phiE (lyA fo.ly j).cs (lyA fo.ly j).ps (ls j) (futN fo.ly fo.cb j)) (g:=fun j=>phiE (lyA (upL fo.ly i (lyA fo.ly i).cs qs) j).cs (lyA (upL fo.ly i (lyA fo.ly i).cs qs) j).ps (ls j) (futN (upL fo.ly i (lyA fo.ly i).cs qs) (fo.cb.set p c) j)) hi fun j hj hne=>by
  try dsimp only
  have:=futs j;rw[fut3 j hj hne] at this;rw[upL_ne (QD hne),show futN (upL fo.ly i (lyA fo.ly i).cs qs) (fo.cb.set p c) j=futN fo.ly fo.cb j by omega]
 have h3:=sumR_one (f:=fun q=>wC fo.ht (z2o fo M) (cbA fo.cb q)) (g:=fun q=>wC fo.ht (z2o fo M) (cbA (fo.cb.set p c) q)) hp fun j _ hne=>by(try dsimp only);rw[cset,qb hne]
 try dsimp only at h2 h3
 rw[upL_eq hi] at h2
 try dsimp only at h2
 rw[cset,qf rfl,hc0] at h3;have hck':c.kind≠0:=by rw[hck];exact hk
 have w0:wC fo.ht (z2o fo M) c0=wC fo.ht (z2o fo M) c+z2o fo M:=by
  unfold wC;rw[qb hk,qb hck']
  have:rem fo.ht c0=rem fo.ht c+1:=by
   unfold rem;rw[hck,hcl];have:=hw0.l0;have:=hw0.lh;have:=hw.l0;have:=hw.lh;rw[hcl] at*;rcases hw0.k with g|g
   ·rw[qf g] at*;rw[qf g];omega
   ·rw[qb (by omega)] at*;rw[qb (by omega)];omega
  rw[this,qX,jo];omega
 have hb:(actN (lyA fo.ly i).ps (lyA fo.ly i).ps.length+futN (upL fo.ly i (lyA fo.ly i).cs qs) (fo.cb.set p c) i)*((lyA fo.ly i).cs.length+5)+(lyA fo.ly i).cs.length+9+1<=z2o fo M:=by
  have g1:=jx (show actN (lyA fo.ly i).ps (lyA fo.ly i).ps.length+futN (upL fo.ly i (lyA fo.ly i).cs qs) (fo.cb.set p c) i<=M by omega) (show(lyA fo.ly i).cs.length+5<=fo.ns.length+7 by omega);have:z2o fo M=M*(fo.ns.length+7)+fo.ns.length+14:=by unfold z2o;rw[qX,jo];omega
  omega
 omega
theorem FI.moves (h:FI fo ls){p:Nat}(hp:p<fo.cb.length)(hk:(cbA fo.cb p).kind≠0):
  ∃q i:Nat,q<fo.cb.length/\i<fo.ly.length/\(cbA fo.cb q).kind≠0/\plI fo.ly (cbA fo.cb q).node (cbA fo.cb q).lvl=i/\((pr (lyA fo.ly i).ps q).phase=18\/z3b (lyA fo.ly i).cs (pr (lyA fo.ly i).ps q)=true):=by
 obtain⟨x,i,k,hw,ha,hc1,hc2,hc3,hc4⟩:=h.stands hp hk;have hI:=ha.pI;rw[hw.id] at hI
 by_cases e:(pr (lyA fo.ly i).ps p).phase=18
 ·exact⟨p,i,hp,ha.hi,hk,hI,.inl e⟩
 ·have hact:z3h (pr (lyA fo.ly i).ps p)=true:=z5n.2 ⟨hc3,e⟩;have hpl:p<(lyA fo.ly i).ps.length:=by rw[(h.sh.at_ i ha.hi).pn];exact hp
  have hb:0<actN (lyA fo.ly i).ps (lyA fo.ly i).ps.length:=by
   rw[actN_sum];have:=sumR_ge (f:=fun j=>(z3h (pr (lyA fo.ly i).ps j)).toNat) hpl
   try dsimp only at this
   rw[hact] at this;exact this
  obtain⟨q,hq,hs⟩:=some_steps (h.inv i ha.hi) hb;rw[(h.sh.at_ i ha.hi).pn] at hq;have hqa:=step_act hs
  by_cases g:(cbA fo.cb q).kind=0\/plI fo.ly (cbA fo.cb q).node (cbA fo.cb q).lvl≠i
  ·have:=h.idl q i hq ha.hi g;rw[hqa] at this;cases this
  ·have g1:(cbA fo.cb q).kind≠0:=fun e=>g (.inl e);have g2:plI fo.ly (cbA fo.cb q).node (cbA fo.cb q).lvl=i:=Decidable.byContradiction fun e=>g (.inr e);exact⟨q,i,hq,ha.hi,g1,g2,.inr hs⟩
end
end
section
def lvlL (ns:List Nd)(h:Nat):List (Int×List Int):=(List.range (h+1)).flatMap fun(n:Nat)=>(lstN ns (n:Int)).map fun ids=>((n:Int),ids)
def lvA (S:List (Int×List Int))(i:Nat):Int×List Int:=S.getD i (0,[])
def shpB (ns:List Nd)(x:Ly)(lv:Int)(ids:List Int):Bool:=
 x.lvl==lv && decide (x.ids=ids) && decide (x.cs.length=ids.length+2) && !anyB ids.length fun i=>(!sEq (cl x.cs (i+2)).key (findN ns (nth ids i)).key)||(decide (i=0) && x.wd !=(findN ns (nth ids i)).word)
def headF (fo:Fo):Bool:=(z1j fo.ns !=0)||decide (fo.ht<0)||decide (16<fo.ht)||decide ((fo.cb.length:Int)<1)||decide (8<(fo.cb.length:Int))
def z5t (fo:Fo):Bool:=
 !headF fo && decide (fo.ly.length=(lvlL fo.ns fo.ht.toNat).length) && !anyB fo.ly.length (fun i=> !shpB fo.ns (lyA fo.ly i) (lvA (lvlL fo.ns fo.ht.toNat) i).1 (lvA (lvlL fo.ns fo.ht.toNat) i).2)
  && !anyB fo.ly.length (fun i=> !z38 (lyA fo.ly i).cs (lyA fo.ly i).ps||decide ((lyA fo.ly i).ps.length≠fo.cb.length)) && !anyB fo.cb.length fun p=> !cbOk fo.ns fo.ht (cbA fo.cb p)
theorem lvlL_eq {ns:List Nd}(hc:z1j ns=0){h:Nat}(h16:h<=16):lvlL ns h=(z36 ns h).map fun s=>(s.1,s.2.map (·.id)):=by
 unfold lvlL z36;rw[List.map_flatMap]
 have:∀l:List Nat,(∀n∈l,n<=16)->l.flatMap (fun(n:Nat)=>(lstN ns (n:Int)).map fun ids=>((n:Int),ids))=l.flatMap fun(n:Nat)=>((z4l (z43 ns) (n:Int)).map fun c=>((n:Int),c)).map fun s=>(s.1,s.2.map (·.id)):=fun l=>by
  induction l with
  |nil=>intro _;rfl
  |cons n l ih=>
   intro hl;rw[yk,yk,ih fun m hm=>hl m (ql _ hm),lstN,qf ⟨hc,by omega,by have:=hl n (qn ..);omega⟩,lstG];simp[j5,Function.comp_def]
 exact this _ fun n hn=>by rw[Qd] at hn;omega
theorem findN_at {ns:List Nd}(hc:z1j ns=0){x:Nd}(hx:x∈ns):findN ns x.id=x:=by
 obtain⟨i,hi,rfl⟩:=Qg hx;have hd:=ids_nodup hc;have h0:=findI_of hx
 obtain⟨j,hj,e,hjx⟩:∃j:Nat,j<ns.length/\findI ns (ns[i]).id=j/\(nd ns j).id=(ns[i]).id:=by
  rcases z3n ns.length fun q=>decide ((nd ns q).id=(ns[i]).id) with⟨h1,_⟩|⟨j,h1,h2,h3,_⟩
  ·unfold findI at h0;omega
  ·exact⟨j,h2,h1,jy h3⟩
 rw[findN,e,qb (by omega),qz];exact ids_inj hc (nd_mem hj) hx hjx
structure FV (fo:Fo):Prop where
 sh:Fsh fo
 vb:∀i,i<fo.ly.length->z38 (lyA fo.ly i).cs (lyA fo.ly i).ps=true
 cb:∀p,p<fo.cb.length->cbOk fo.ns fo.ht (cbA fo.cb p)=true
theorem shpB_iff {ns:List Nd}(hc:z1j ns=0){x:Ly}{lv:Int}{c:List Nd}(hs:∀y∈c,y∈ns)(hne:c≠[]):shpB ns x lv (c.map (·.id))=true↔x.lvl=lv/\x.ids=c.map (·.id)/\x.cs.length=c.length+2/\(∀k,k<c.length->(cl x.cs (k+2)).key=(nd c k).key)/\x.wd=(hdN c).word:=by
 have hf:∀k,k<c.length->findN ns (nth (c.map (·.id)) k)=nd c k:=fun k hk=>by
  rw[z2n (by rw[qA];exact hk),js,z3e hk];exact findN_at hc (hs _ (qN hk))
 have hl:0<c.length:=by cases c with
  |nil=>exact absurd rfl hne
  |cons _ _=>exact jh _
 rw[shpB];simp only[qh,qv,qj,qk,anyB_iff,qA,qi,qq,sEq_iff,qx,qy]
 constructor
 ·rintro⟨⟨⟨h1,h2⟩,h3⟩,h4⟩;refine⟨h1,h2,h3,fun k hk=> ?_,?_⟩
  ·have:=(h4 k hk).1;rw[hf k hk] at this;exact this
  ·have:=(h4 0 hl).2 rfl;rw[hf 0 hl] at this;exact this
 ·rintro⟨h1,h2,h3,h4,h5⟩;refine⟨⟨⟨h1,h2⟩,h3⟩,fun k hk=>⟨by rw[hf k hk];exact h4 k hk,fun e=> ?_⟩⟩;subst e;rw[hf 0 hk];exact h5
theorem headF_false {fo:Fo}:headF fo=false↔z1j fo.ns=0/\(0<=fo.ht/\fo.ht<=16)/\1<=fo.cb.length/\fo.cb.length<=8:=by
 simp only[headF,qi,qg,qy];omega
theorem lvA_eq {ns:List Nd}(hc:z1j ns=0){h:Nat}(h16:h<=16){i:Nat}(hi:i<(z36 ns h).length):lvA (lvlL ns h) i=((shA (z36 ns h) i).1,(shA (z36 ns h) i).2.map (·.id)):=by
 rw[lvlL_eq hc h16,shA_lt hi,lvA,qt,qF (by rw[qA];exact hi)];simp
theorem shpL_sub {ns:List Nd}{h:Nat}(h16:h<=16){i:Nat}(hi:i<(z36 ns h).length):(∀y∈(shA (z36 ns h) i).2,y∈ns)/\(shA (z36 ns h) i).2≠[]:=by
 rw[shA_lt hi];obtain⟨n,h1,h2,h3⟩:=mem_shpL.1 (qN (l:=z36 ns h) (n:=i) hi);exact⟨fun y hy=>(z1o ns).mem_iff.2 ((cls_sub (by omega) h3).subset hy),(clsN_ok (by omega) _).1.ne _ h3⟩
theorem FV.vf {fo:Fo}:FV fo->z5t fo=true:=by
 rintro⟨h,hv,hc⟩;simp only[z5t,qh,qk,qj,headF_false];have h16:fo.ht.toNat<=16:=by have:=h.h16;omega
 refine⟨⟨⟨⟨⟨h.ck,⟨h.h0,h.h16⟩,h.m1,h.m8⟩,?_⟩,?_⟩,?_⟩,?_⟩
 ·rw[lvlL_eq h.ck h16,qA];exact h.len
 ·rw[anyB_iff];intro i hi;have hi':i<(z36 fo.ns fo.ht.toNat).length:=by rw[<-h.len];exact hi
  obtain⟨s1,s2⟩:=shpL_sub h16 hi';have hA:=h.at_ i hi;rw[lvA_eq h.ck h16 hi',qq,shpB_iff h.ck s1 s2];exact⟨hA.lvl,hA.ids,hA.len,hA.key,hA.wd⟩
 ·rw[anyB_iff];intro i hi;rw[hv i hi,(h.at_ i hi).pn];simp
 ·rw[anyB_iff];intro p hp;rw[hc p hp];rfl
theorem FI.vf {fo:Fo}{ls:Nat->List Int}(h:FI fo ls):z5t fo=true:=FV.vf ⟨h.sh,fun i hi=>(h.inv i hi).vb,h.clm⟩
def inC (C:List Cb)(p:Int):Bool:= !(decide (p<0)||decide ((C.length:Int)<=p))
def begC (ht kind id:Int):Cb:=⟨kind,id,if kind=2 then ht else 0⟩
def z28 (fo:Fo)(p kind id:Int):Int:=
 if !z5t fo then 1 else if !inC fo.cb p then 2 else if findI fo.ns id<0 then 6 else if kind≠1/\kind≠2 then 1 else if(cbA fo.cb p.toNat).kind≠0 then 7
 else if busyF fo.cb id then 13 else if kind=1/\memF fo.ly id 0=true then 5 else if kind=2/\memF fo.ly id 0=false then 18 else beginE fo.ly p (begC fo.ht kind id)
def z15 (fo:Fo)(p kind id:Int):Fo:=if z28 fo p kind id=0 then {fo with ly:=beginL fo.ly p (begC fo.ht kind id),cb:=fo.cb.set p.toNat (begC fo.ht kind id)} else noFo
def curI (fo:Fo)(p:Int):Nat:=(plI fo.ly (cbA fo.cb p.toNat).node (cbA fo.cb p.toNat).lvl).toNat
def endB (fo:Fo)(p:Int):Bool:=(pr (lyA fo.ly (curI fo p)).ps p.toNat).phase==18
def outB (ht:Int)(c:Cb):Bool:=decide (c.lvl<0)||decide (ht<c.lvl)
def z3w (fo:Fo)(p:Int):Bool:=
 z5t fo && (inC fo.cb p && (cbA fo.cb p.toNat).kind !=0) && (if endB fo p then outB fo.ht (nxC (cbA fo.cb p.toNat))||beginE fo.ly p (nxC (cbA fo.cb p.toNat))==0 else stepOk (lyA fo.ly (curI fo p)).cs (lyA fo.ly (curI fo p)).ps p)
def z21 (fo:Fo)(p:Int):Fo:=
 if !z5t fo then noFo else if z3w fo p then
  (if endB fo p then(if outB fo.ht (nxC (cbA fo.cb p.toNat)) then {fo with cb:=fo.cb.set p.toNat noCb} else {fo with ly:=beginL fo.ly p (nxC (cbA fo.cb p.toNat)),cb:=fo.cb.set p.toNat (nxC (cbA fo.cb p.toNat))})
   else {fo with ly:=upL fo.ly (curI fo p) (stepR (lyA fo.ly (curI fo p)).cs (lyA fo.ly (curI fo p)).ps p).1 (stepR (lyA fo.ly (curI fo p)).cs (lyA fo.ly (curI fo p)).ps p).2}) else fo
section
variable {fo:Fo} {ls:Nat->List Int}
theorem memF_at {x:Nd}{lv:Int}{i k:Nat}(a:At fo x lv i k):memF fo.ly x.id lv= !gn (lyA fo.ly i).cs (k+2):=by
 rw[memF,a.pI,a.gone,qL (by omega),qV]
theorem memF_gone (h:Fsh fo){x:Nd}(hx:x∈fo.ns){lv:Int}(l0:0<=lv)(lh:lv<=fo.ht):memF fo.ly x.id lv= !z4c fo.ly x.id lv:=by
 obtain⟨i,k,a⟩:=h.place hx l0 lh;rw[memF_at a,a.gone]
theorem inC_iff {C:List Cb}{p:Int}:inC C p=true↔0<=p/\p<C.length:=by
 simp only[inC,qk,qi,qg];omega
structure Sok (fo:Fo) (p kind id:Int) (x:Nd):Prop where
 p0:0<=p
 pl:p.toNat<fo.cb.length
 k:kind=1\/kind=2
 mm:x∈fo.ns
 ide:x.id=id
 idle:(cbA fo.cb p.toNat).kind=0
 free:busyF fo.cb id=false
 mem:memF fo.ly id 0=(kind==2)
theorem FI.sok (h:FI fo ls){p kind id:Int}(he:z28 fo p kind id=0):∃x,Sok fo p kind id x:=by
 unfold z28 at he;rw[h.vf] at he;simp only[Qp,qw,Qo] at he
 split at he
 ·cases he
 rename_i h1
 split at he
 ·cases he
 rename_i h2
 split at he
 ·cases he
 rename_i h3
 split at he
 ·cases he
 rename_i h4
 split at he
 ·cases he
 rename_i h5
 split at he
 ·cases he
 rename_i h6
 split at he
 ·cases he
 rename_i h7;have h1:inC fo.cb p=true:=by simpa using h1
 rw[inC_iff] at h1;obtain⟨x,hx,hxi⟩:=findI_mem (by omega:0<=findI fo.ns id);refine⟨x,h1.1,by omega,by omega,hx,hxi,by omega,by simpa using h5,?_⟩
 cases hm:memF fo.ly id 0 with
 |true=>
  have:kind≠1:=fun e=>h6 ⟨e,hm⟩;have:kind=2:=by omega
  subst this;rfl
 |false=>
  have:kind≠2:=fun e=>h7 ⟨e,hm⟩
  symm;simpa using this
theorem FI.start_begin (h:FI fo ls){p kind id:Int}{x:Nd}(s:Sok fo p kind id x):beginE fo.ly p (begC fo.ht kind id)=0/\FI {fo with ly:=beginL fo.ly p (begC fo.ht kind id),cb:=fo.cb.set p.toNat (begC fo.ht kind id)} ls:=by
 have h0:=h.sh.h0;have hp:((p.toNat:Nat):Int)=p:=by have:=s.p0;omega
 have hfree:=z1z.1 s.free;have hm:=memF_gone h.sh s.mm (jC 0) h0;rw[s.ide,s.mem] at hm
 have hlev:∀lv,0<=lv->lv<=fo.ht->z4c fo.ly id lv=(kind==1):=fun lv l0 lh=>by
  have:=h.lev x s.mm (by rw[s.ide];exact s.free) lv l0 lh;rw[s.ide] at this;rw[this];rcases s.k with e|e<;>subst e<;>cases g:z4c fo.ly id 0<;>simp_all
 have hb:(begC fo.ht kind id).kind=kind:=rfl;have hbn:(begC fo.ht kind id).node=id:=rfl;have hbl:(begC fo.ht kind id).lvl=if kind=2 then fo.ht else 0:=rfl
 have:=h.begin (p:=p.toNat) s.pl (fun i hi=>h.idl p.toNat i s.pl hi (.inl s.idle)) (c:=begC fo.ht kind id) (x:=x)
  ⟨s.k,s.mm,s.ide,by rw[hbl];split<;>omega,by rw[hbl];split<;>omega⟩ (fun q hq _ hk=>hfree q hq hk) (fun e=>absurd s.idle e)
  (hlev _ (by rw[hbl];split<;>omega) (by rw[hbl];split<;>omega))
  (fun lv l0 lh=>by
   rw[hbl,hbn,hlev lv l0 lh];rcases s.k with e|e<;>subst e
   ·rw[qb (by decide)];exact⟨fun g=>by omega,fun _=>rfl⟩
   ·rw[qf rfl];exact⟨fun _=>rfl,fun g=>by omega⟩)
 rw[hp] at this;exact this
theorem FI.start (h:FI fo ls){p kind id:Int}(he:z28 fo p kind id=0):FI (z15 fo p kind id) ls:=by
 obtain⟨x,s⟩:=h.sok he;rw[z15,qf he];exact(h.start_begin s).2
theorem FI.step (h:FI fo ls){p:Int}(hs:z3w fo p=true){M:Nat}(hM:z2c fo.cb<=M):∃ls',FI (z21 fo p) ls'/\Phi (z21 fo p) ls' (z2o fo M)+1<=Phi fo ls (z2o fo M):=by
 have hs0:=hs;unfold z3w at hs;rw[h.vf,qV,qh,qh,inC_iff,qU] at hs;obtain⟨⟨⟨p0,pl⟩,hk⟩,hs⟩:=hs;have hp:p.toNat<fo.cb.length:=by omega
 have hpp:((p.toNat:Nat):Int)=p:=by omega
 unfold z21;rw[h.vf,hs0];simp only[Qp,qw,Qo,Qi];obtain⟨x,i,k,hw,ha,hc1,hc2,hc3,hc4⟩:=h.stands hp hk;have hI:=ha.pI;rw[hw.id] at hI;have hcur:curI fo p=i:=by rw[curI,hI,qz]
 by_cases he:endB fo p=true
 ·rw[qf he] at hs;rw[qf he];rw[endB,hcur,qv] at he
  have hrest:=h.rest hp fun j _ hj=>by
   have:j=i:=by omega
   subst this;exact he
  have hlow:=h.low p.toNat hp hk;have hgn:=ha.gone;rw[hw.id] at hgn;have hnn:(nxC (cbA fo.cb p.toNat)).node=(cbA fo.cb p.toNat).node:=by unfold nxC;split<;>rfl
  have hnk:(nxC (cbA fo.cb p.toNat)).kind=(cbA fo.cb p.toNat).kind:=by unfold nxC;split<;>rfl
  have hnl:(nxC (cbA fo.cb p.toNat)).lvl=if(cbA fo.cb p.toNat).kind=1 then(cbA fo.cb p.toNat).lvl+1 else(cbA fo.cb p.toNat).lvl-1:=by unfold nxC;split<;>rfl
  have hl0:=hw.l0;have hlh:=hw.lh
  have here:z4c fo.ly (cbA fo.cb p.toNat).node (cbA fo.cb p.toNat).lvl=((cbA fo.cb p.toNat).kind==2):=by
   rw[hgn];rcases hw.k with e|e
   ·have:=hc4.i2 (by rw[hc2,e]) (by omega);rw[hc1] at this;rw[this,e];rfl
   ·have:=hc4.r2 (by rw[hc2,e]) (by omega);rw[hc1] at this;rw[this,e];rfl
  by_cases ho:outB fo.ht (nxC (cbA fo.cb p.toNat))=true
  ·rw[qf ho];rw[outB,qr,qj,qj,hnl] at ho;refine⟨ls,h.finish hp hk hrest fun lv l0 lh=> ?_,FI.finish_phi hp hk _⟩
   by_cases e:lv=(cbA fo.cb p.toNat).lvl
   ·rw[e];exact here
   ·have:=hlow lv l0 lh;rcases hw.k with e1|e1
    ·rw[qf e1] at ho;rw[this.1 (by omega),e1];rfl
    ·rw[qb (by omega)] at ho;rw[this.2 (by omega),e1];rfl
  ·rw[qb ho];have ho:outB fo.ht (nxC (cbA fo.cb p.toNat))=false:=by simpa using ho
   rw[outB,qi,qg,qg] at ho;have hwn:Works fo (nxC (cbA fo.cb p.toNat)) x:=⟨by rw[hnk];exact hw.k,hw.mm,by rw[hnn];exact hw.id,by omega,by omega⟩
   have hb:=h.begin hp hrest hwn (fun q hq hne hkq e=>hne (h.dis q p.toNat hq hp hkq hk (by rw[e,hnn]))) (fun _=>hnn.symm)
    (by
     rw[hnn,hnk];have:=hlow (nxC (cbA fo.cb p.toNat)).lvl (by omega) (by omega);rw[hnl] at*;rcases hw.k with e1|e1
     ·rw[qf e1] at*;rw[this.2 (by omega),e1];rfl
     ·rw[qb (by omega)] at*;rw[this.1 (by omega),e1];rfl)
    (fun lv l0 lh=>by
     have g:=hlow lv l0 lh;rw[hnn,hnl];rcases hw.k with e1|e1
     ·rw[qf e1];refine⟨fun g1=> ?_,fun g1=>g.2 (by omega)⟩
      by_cases e:lv=(cbA fo.cb p.toNat).lvl
      ·rw[e,here,e1];rfl
      ·exact g.1 (by omega)
     ·rw[qb (by omega)];refine⟨fun g1=>g.1 (by omega),fun g1=> ?_⟩
      by_cases e:lv=(cbA fo.cb p.toNat).lvl
      ·rw[e,here,e1];rfl
      ·exact g.2 (by omega))
   have hf:=h.climb_phi hp hk hrest hwn hM;rw[hpp] at hb hf;exact⟨ls,hb.2,hf⟩
 ·rw[qb he] at hs;rw[qb he];rw[hcur] at hs ⊢;have hinv:=h.inv i ha.hi
  have hq:goesB (lyA fo.ly i).ps p=true:=by
   rw[goesB,(h.sh.at_ i ha.hi).pn,qk,qi,qg,qg];omega
  have hr:stepR (lyA fo.ly i).cs (lyA fo.ly i).ps p=(z2a (lyA fo.ly i).cs p.toNat (pr (lyA fo.ly i).ps p.toNat),(lyA fo.ly i).ps.set p.toNat (z2d (lyA fo.ly i).cs (pr (lyA fo.ly i).ps p.toNat))):=by
   rw[stepOk,hinv.vb,qV] at hs;rw[stepR,hinv.vb,hs];rfl
  rw[stepOk,hinv.vb,qV,hq,qV] at hs;rw[hr];have t:=Tr.of (p:=p.toNat) hs;have hact:=step_act hs;obtain⟨l',hi,hl',hF,_⟩:=h.layer hp hk hI hact t;exact⟨_,hF,h.layer_phi hp hi hact t hl' _⟩
theorem FI.can (h:FI fo ls){p:Nat}(hp:p<fo.cb.length)(hk:(cbA fo.cb p).kind≠0):∃q:Nat,q<fo.cb.length/\(cbA fo.cb q).kind≠0/\z3w fo q=true:=by
 obtain⟨q,i,hq,hi,hkq,hI,hs⟩:=h.moves hp hk;refine⟨q,hq,hkq,?_⟩;unfold z3w;have e1:inC fo.cb (q:Int)=true:=inC_iff.2 ⟨by omega,by omega⟩;have hcur:curI fo (q:Int)=i:=by rw[curI,qz,hI,qz]
 rw[h.vf,e1,qV,qV,qh];refine⟨by rw[qz];simpa using hkq,?_⟩
 by_cases he:endB fo (q:Int)=true
 ·rw[qf he,qr];rw[endB,hcur,qv,qz] at he;rw[qz]
  by_cases ho:outB fo.ht (nxC (cbA fo.cb q))=true
  ·exact .inl ho
  ·right
   have ho:outB fo.ht (nxC (cbA fo.cb q))=false:=by simpa using ho
   rw[outB,qi,qg,qg] at ho;obtain⟨x,hw⟩:=h.works hq hkq;have hnn:(nxC (cbA fo.cb q)).node=(cbA fo.cb q).node:=by unfold nxC;split<;>rfl
   have hnk:(nxC (cbA fo.cb q)).kind=(cbA fo.cb q).kind:=by unfold nxC;split<;>rfl
   obtain⟨j,k,a⟩:=h.sh.place hw.mm (lv:=(nxC (cbA fo.cb q)).lvl) (by omega) (by omega);have hIj:=a.pI;have hKj:=a.pK;rw[hw.id,<-hnn] at hIj hKj;have hcel:=a.cel
   have hrest:=h.rest hq (fun j _ hj=>by
    have:j=i:=by omega
    subst this;exact he) j a.hi
   rw[beginE,hIj,hKj,qz,qv];unfold z58;rw[(h.inv j a.hi).vb]
   have h1:(decide ((q:Int)<0)||decide (((lyA fo.ly j).ps.length:Int)<=q))=false:=by
    rw[(h.sh.at_ j a.hi).pn,qi,qg,qg];omega
   have h2:(decide ((k:Int)+2<2)||decide (((lyA fo.ly j).cs.length:Int)<=k+2))=false:=by
    rw[qi,qg,qg];omega
   have h3:kindBad (nxC (cbA fo.cb q)).kind=false:=by
    rw[kindBad,hnk,qi,qg,qg];have:=hw.k;omega
   rw[h1,h2,h3,qz,hrest]
   rfl
 ·rw[qb he,hcur];rw[endB,hcur,qv,qz] at he;rcases hs with hs|hs
  ·exact absurd hs he
  ·rw[stepOk,(h.inv i hi).vb,qV,qz,hs,Jq,goesB,(h.sh.at_ i hi).pn,qk,qi,qg,qg];omega
end
end
end Go.Proofs
