/-
  Walks and plain facts, joined: part 9 of 18.
  Conditions: those that each statement names.
-/
import Derived.Test.YtpnefndionckaaaGreatDoorRph
import Derived.Test.YtpnefndionckaaaGreatDoorRpc
set_option linter.unusedSimpArgs false
set_option linter.unusedVariables false
set_option linter.defProp false
set_option maxRecDepth 4000
set_option maxHeartbeats 8000000
namespace Go.Proofs
open Tryz
open Go.Sk
def bt (w:Int)(i:Nat):Bool:=(BitVec.ofInt 32 w).getLsbD i
def cmnF (a b:Int):Nat->Nat->Nat
 |0,n=>n
 |k+1,n=>if bt a n==bt b n then cmnF a b k (n+1) else n
def cmnW (a b:Int):Nat:=cmnF a b 16 0
def cmnF_spec (a b:Int):∀(k n:Nat),n<=cmnF a b k n/\cmnF a b k n<=n+k/\(∀i,n<=i->i<cmnF a b k n->bt a i=bt b i)/\(cmnF a b k n<n+k->bt a (cmnF a b k n)≠bt b (cmnF a b k n))
 |0,n=>⟨qd _,qd _,fun i h1 h2=>by simp only[cmnF] at h2;omega,fun h=>by simp only[cmnF] at h;omega⟩
 |k+1,n=>by
  obtain⟨h1,h2,h3,h4⟩:=cmnF_spec a b k (n+1);rw[cmnF]
  split
  ·rename_i he;rw[qD] at he;refine⟨by omega,by omega,fun i g1 g2=> ?_,fun h=>h4 (by omega)⟩
   by_cases e:i=n
   ·rw[e];exact he
   exact h3 i (by omega) g2
  rename_i he;exact⟨qd _,by omega,fun i g1 g2=>by omega,fun _ h=>he (by rw[qD];exact h)⟩
def cmnW_le (a b:Int):cmnW a b<=16:=by have:=(cmnF_spec a b 16 0).2.1;simpa [cmnW] using this
def cmnW_eq {a b:Int}{i:Nat}(h:i<cmnW a b):bt a i=bt b i:=(cmnF_spec a b 16 0).2.2.1 i (ql _) h
def cmnW_ne {a b:Int}(h:cmnW a b<16):bt a (cmnW a b)≠bt b (cmnW a b):=(cmnF_spec a b 16 0).2.2.2 (by simpa [cmnW] using h)
def z4f (a b lv:Int):Bool:=decide (lv<=cmnW a b)
def sameW_iff {a b lv:Int}:z4f a b lv=true↔lv<=16/\∀i:Nat,(i:Int)<lv->bt a i=bt b i:=by
 rw[z4f,qm];have h1:=cmnW_le a b
 constructor
 ·intro h;exact⟨by omega,fun i hi=>cmnW_eq (by omega)⟩
 rintro⟨h2,h3⟩
 by_cases h:lv<=cmnW a b
 ·exact h
 exact absurd (h3 (cmnW a b) (by omega)) (cmnW_ne (by omega))
def sameW_refl {lv:Int}(h:lv<=16)(a:Int):z4f a a lv=true:=sameW_iff.2 ⟨h,fun _ _=>rfl⟩
def sameW_symm {a b lv:Int}(h:z4f a b lv=true):z4f b a lv=true:=sameW_iff.2 ⟨(sameW_iff.1 h).1,fun i hi=>((sameW_iff.1 h).2 i hi).symm⟩
def sameW_trans {a b c lv:Int}(h:z4f a b lv=true)(h':z4f b c lv=true):z4f a c lv=true:=sameW_iff.2 ⟨(sameW_iff.1 h).1,fun i hi=>((sameW_iff.1 h).2 i hi).trans ((sameW_iff.1 h').2 i hi)⟩
def grpW (l:List Nd)(lv w:Int):List Nd:=l.filter fun x=>z4f x.word w lv
def hdN (c:List Nd):Nd:=nd c 0
def insC (lv:Int)(x:Nd):List (List Nd)->List (List Nd)
 |[]=>[[x]]
 |c::cs=>if z4f (hdN c).word x.word lv then(c++[x])::cs else c::insC lv x cs
def clsG (lv:Int)(l:List Nd)(cs:List (List Nd)):List (List Nd):=l.foldl (fun cs x=>insC lv x cs) cs
def z54 (l:List Nd)(lv:Int):List (List Nd):=if 16<lv then [] else clsG lv l []
def hdN_append {c:List Nd}(h:c≠[])(x:Nd):hdN (c++[x])=hdN c:=by
 cases c with
 |nil=>exact absurd rfl h
 |cons a t=>rfl
structure ClsOk (lv:Int) (s:List Nd) (cs:List (List Nd)):Prop where
 ne:∀c∈cs,c≠[]
 eq:∀c∈cs,c=grpW s lv (hdN c).word
 pw:cs.Pairwise fun c d=>z4f (hdN c).word (hdN d).word lv=false
def insC_ok {lv:Int}(h16:lv<=16){s:List Nd}{x:Nd}:∀{cs:List (List Nd)},ClsOk lv s cs->(∀y∈s,z4f y.word x.word lv=true->∃c∈cs,z4f (hdN c).word y.word lv=true)->
  ClsOk lv (s++[x]) (insC lv x cs)/\(∃c∈insC lv x cs,x∈c)/\(∀c∈cs,∀y∈c,∃d∈insC lv x cs,y∈d)/\∀d∈insC lv x cs,(∃c∈cs,(hdN d).word=(hdN c).word)\/(hdN d).word=x.word
 |[],_,hc=>by
  have he:grpW s lv x.word=[]:=by
   rw[grpW,jE];intro y hy h;obtain⟨c,hm,_⟩:=hc y hy h
   cases hm
  refine⟨⟨fun c hm=> ?_,fun c hm=> ?_,List.pairwise_singleton ..⟩,⟨[x],qo ..,qo ..⟩,(fun c hm=>by cases hm),fun d hd=> ?_⟩
  ·rw[insC,qU] at hm;subst hm;simp
  ·rw[insC,qU] at hm;subst hm
   show [x]=grpW (s++[x]) lv x.word
   have h2:grpW [x] lv x.word=[x]:=by simp[grpW,sameW_refl h16]
   have h3:grpW (s++[x]) lv x.word=grpW s lv x.word++grpW [x] lv x.word:=jr ..;rw[h3,he,h2];rfl
  rw[insC,qU] at hd;subst hd;exact .inr rfl
 |c::cs,hok,hc=>by
  have hcn:=hok.ne c (qo ..);have hce:=hok.eq c (qo ..);obtain⟨hp1,hp2⟩:=Qz.1 hok.pw;have ht:ClsOk lv s cs:=⟨fun d hd=>hok.ne d (qp _ hd),fun d hd=>hok.eq d (qp _ hd),hp2⟩;have hg:∀w,grpW (s++[x]) lv w=grpW s lv w++grpW [x] lv w:=fun w=>jr ..;rw[insC]
  split
  ·rename_i hs;have hg1:grpW [x] lv (hdN c).word=[x]:=by simp[grpW,sameW_symm hs]
   refine⟨⟨fun d hd=> ?_,fun d hd=> ?_,?_⟩,⟨_,qo ..,Qg _ (qU.2 rfl)⟩,fun d hd y hy=> ?_,fun d hd=> ?_⟩
   ·rcases qv.1 hd with rfl|hd
    ·simp
    exact ht.ne d hd
   ·rcases qv.1 hd with rfl|hd
    ·rw[hdN_append hcn,hg,hg1,<-hce]
    have hf:z4f (hdN c).word (hdN d).word lv=false:=hp1 d hd
    have:grpW [x] lv (hdN d).word=[]:=by
     rw[grpW,jE];intro y hy h;rw[qU] at hy;subst hy;rw[sameW_trans hs h] at hf;cases hf
    rw[hg,this,jc,<-ht.eq d hd]
   ·rw[Qz];exact⟨fun d hd=>by rw[hdN_append hcn];exact hp1 d hd,hp2⟩
   ·rcases qv.1 hd with rfl|hd
    ·exact⟨_,qo ..,QD _ hy⟩
    exact⟨d,qp _ hd,hy⟩
   rcases qv.1 hd with rfl|hd
   ·exact .inl ⟨c,qo ..,by rw[hdN_append hcn]⟩
   exact .inl ⟨d,qp _ hd,rfl⟩
  rename_i hs;have hs':z4f (hdN c).word x.word lv=false:=by simpa using hs
  obtain⟨i1,i2,i3,i4⟩:=insC_ok h16 ht (x:=x) fun y hy hyx=>by
   obtain⟨d,hd,hdy⟩:=hc y hy hyx;rcases qv.1 hd with rfl|hd
   ·rw[sameW_trans hdy hyx] at hs';cases hs'
   exact⟨d,hd,hdy⟩
  have hg1:grpW [x] lv (hdN c).word=[]:=by
   rw[grpW,jE];intro y hy h;rw[qU] at hy;subst hy;rw[sameW_symm h] at hs';cases hs'
  refine⟨⟨fun d hd=> ?_,fun d hd=> ?_,?_⟩,?_,fun d hd y hy=> ?_,fun d hd=> ?_⟩
  ·rcases qv.1 hd with rfl|hd
   ·exact hcn
   exact i1.ne d hd
  ·rcases qv.1 hd with rfl|hd
   ·rw[hg,hg1,jc];exact hce
   exact i1.eq d hd
  ·rw[Qz];refine⟨fun d hd=> ?_,i1.pw⟩;rcases i4 d hd with⟨e,he,h⟩|h
   ·rw[h];exact hp1 e he
   rw[h];exact hs'
  ·obtain⟨d,hd,hx⟩:=i2;exact⟨d,qp _ hd,hx⟩
  ·rcases qv.1 hd with rfl|hd
   ·exact⟨_,qo ..,hy⟩
   obtain⟨e,he,hye⟩:=i3 d hd y hy;exact⟨e,qp _ he,hye⟩
  rcases qv.1 hd with rfl|hd
  ·exact .inl ⟨_,qo ..,rfl⟩
  rcases i4 d hd with⟨e,he,h⟩|h
  ·exact .inl ⟨e,qp _ he,h⟩
  exact .inr h
def clsG_ok {lv:Int}(h16:lv<=16):∀(l:List Nd) {s:List Nd} {cs:List (List Nd)},ClsOk lv s cs->(∀y∈s,∃c∈cs,y∈c)->ClsOk lv (s++l) (clsG lv l cs)/\∀y∈s++l,∃c∈clsG lv l cs,y∈c
 |[],s,cs,hok,hc=>by rw[jc];exact⟨hok,hc⟩
 |x::l,s,cs,hok,hc=>by
  have hin:∀c∈cs,∀y∈c,z4f y.word (hdN c).word lv=true:=fun c hm y hy=>by
   have:=hok.eq c hm;rw[this,grpW,jH] at hy;exact hy.2
  obtain⟨i1,i2,i3,_⟩:=insC_ok h16 hok (x:=x) fun y hy _=>by
   obtain⟨c,hm,hyc⟩:=hc y hy;exact⟨c,hm,sameW_symm (hin c hm y hyc)⟩
  have:=clsG_ok h16 l (s:=s++[x]) i1 fun y hy=>by
   rcases Qa.1 hy with hy|hy
   ·obtain⟨c,hm,hyc⟩:=hc y hy;exact i3 c hm y hyc
   rw[qU] at hy;subst hy;exact i2
  rw[QF] at this;exact this
def clsN_ok {lv:Int}(h16:lv<=16)(l:List Nd):ClsOk lv l (z54 l lv)/\∀y∈l,∃c∈z54 l lv,y∈c:=by
 rw[z54,qc (by omega)];have:=clsG_ok h16 l (s:=[]) (cs:=[]) ⟨fun c h=>(by cases h),fun c h=>(by cases h),Ju⟩ fun y h=>(by cases h);simpa using this
def wrap_u32 (n:Int):IntKind.u32.wrap n=n%4294967296:=by
 simp only[IntKind.wrap,IntKind.bits,IntKind.signed];simp
def low_bit {n:Nat}(h:0<n):∃k m,n=2^k*(2*m+1):=by
 induction n using Nat.strongRecOn with
 |_ n ih=>
  rcases Nat.mod_two_eq_zero_or_one n with h0|h1
  ·obtain⟨k,m,he⟩:=ih (n/2) (by omega) (by omega);refine⟨k+1,m,?_⟩;rw[Nat.pow_succ,Nat.mul_comm (2^k) 2,Nat.mul_assoc,<-he];omega
  exact⟨0,n/2,by omega⟩
def low_test (k m i:Nat):(2^k*(2*m+1)).testBit i=if i<k then false else(2*m+1).testBit (i-k):=by
 have:=Nat.testBit_two_pow_mul_add (2*m+1) (b:=0) (i:=k) (JJ k) i;rw[ja] at this;rw[this];simp
def low_pred (k m:Nat):2^k*(2*m+1)-1=2^k*(2*m)+(2^k-1):=by
 have h:=JJ k;rw[Nat.mul_add,JO];omega
def low_pred_test (k m i:Nat):(2^k*(2*m+1)-1).testBit i=if i<k then true else(2*m).testBit (i-k):=by
 rw[low_pred,Nat.testBit_two_pow_mul_add (2*m) (b:=2^k-1) (i:=k) (by have:=JJ k;omega) i]
 split
 ·rename_i h;rw[Nat.testBit_two_pow_sub_one];simp[h]
 rfl
def low_and {n k m:Nat}(hn:n=2^k*(2*m+1))(h32:n<4294967296):n &&& (4294967296-n)=2^k:=by
 have hpos:0<n:=by rw[hn];exact Nat.mul_pos (JJ k) (by omega)
 have hk:k<32:=by
  rcases Qo k 32 with h|h
  ·exact h
  have h1:2^32<=2^k:=Nat.pow_le_pow_right (by omega) h;have h2:2^k*1<=n:=by rw[hn];exact Jj _ (by omega)
  omega
 apply Nat.eq_of_testBit_eq;intro i;rw[Nat.testBit_and,Nat.testBit_two_pow]
 have h1:(4294967296-n).testBit i=(decide (i<32) && !(n-1).testBit i):=by
  have:=Nat.testBit_two_pow_sub_succ (x:=n-1) (n:=32) (by omega) i;rw[show n-1+1=n by omega] at this;exact this
 rw[h1,hn,low_test,low_pred_test]
 by_cases e1:i<k
 ·simp[e1,show¬k=i by omega]
 rw[qc e1,qc e1]
 by_cases e2:i=k
 ·subst e2;simp[hk]
 obtain⟨j,hj⟩:∃j,i-k=j+1:=⟨i-k-1,by omega⟩;rw[hj,Nat.testBit_add_one,Nat.testBit_add_one,show(2*m+1)/2=m by omega,show 2*m/2=m by omega];have:¬k=i:=fun e=>e2 e.symm
 cases m.testBit j<;>simp[this]
def db_at:∀k:Nat,k<32->(2^k*125613361%4294967296)/134217728<32/\db32.getD ((2^k*125613361%4294967296)/134217728) 0=(k:Int):=by decide+kernel
def tzE (x:Int):Int:=(IntKind.u32.wrap (z3f .and .u32 x (IntKind.u32.wrap (0-x))*125613361)).fdiv (2^min 27 IntKind.u32.bits)
def tz32 (x:Int):Int:=if x=0 then 32 else db32.getD (tzE x).toNat 0
def bits_and (x y:Int):z3f .and .u32 x y=IntKind.u32.wrap ((BitVec.ofInt 32 x).toNat &&& (BitVec.ofInt 32 y).toNat:Nat):=rfl
def bits_xor (x y:Int):z3f .xor .u32 x y=IntKind.u32.wrap (BitVec.ofInt 32 x^^^BitVec.ofInt 32 y).toNat:=rfl
def ofInt_nat {n:Nat}(h:n<4294967296):(BitVec.ofInt 32 (n:Int)).toNat=n:=by
 rw[JP];omega
def pow_k {n k m:Nat}(hn:n=2^k*(2*m+1))(h32:n<4294967296):k<32:=by
 rcases Qo k 32 with h|h
 ·exact h
 have h1:2^32<=2^k:=Nat.pow_le_pow_right (by omega) h;have h2:2^k*1<=n:=by rw[hn];exact Jj _ (by omega)
 omega
def neg_u32 {n:Nat}(h0:0<n)(h32:n<4294967296):IntKind.u32.wrap (0-(n:Int))=((4294967296-n:Nat):Int):=by rw[wrap_u32];omega
def wrap_nat {p:Nat}(h:p<4294967296):IntKind.u32.wrap (p:Int)=p:=by rw[wrap_u32];omega
def and_neg {n k m:Nat}(hn:n=2^k*(2*m+1))(h0:0<n)(h32:n<4294967296)(hp:2^k<4294967296):z3f .and .u32 (n:Int) (IntKind.u32.wrap (0-(n:Int)))=((2^k:Nat):Int):=by
 have h1:4294967296-n<4294967296:=by omega
 rw[neg_u32 h0 h32,bits_and,ofInt_nat h32,ofInt_nat h1,low_and hn h32];exact wrap_nat hp
def tzE_of {x:Int}{p:Nat}(h:z3f .and .u32 x (IntKind.u32.wrap (0-x))=(p:Int)):tzE x=((p*125613361%4294967296/134217728:Nat):Int):=by
 unfold tzE;rw[h,wrap_u32,show((2:Int)^min 27 IntKind.u32.bits)=134217728 from rfl,Int.fdiv_eq_ediv_of_nonneg _ (by omega)];omega
def pow_lt {k:Nat}(hk:k<32):2^k<4294967296:=by
 have h:2^k<2^32:=Nat.pow_lt_pow_right (by omega) hk;rw[show(2:Nat)^32=4294967296 by decide] at h;exact h
def tz_core {n:Nat}(h0:0<n)(h32:n<4294967296):∃k m:Nat,n=2^k*(2*m+1)/\k<32/\0<=tzE n/\tzE n<32/\db32.getD (tzE n).toNat 0=(k:Int):=by
 obtain⟨k,m,hn⟩:=low_bit h0;have hk:=pow_k hn h32;have g:=db_at k hk;have he:=tzE_of (and_neg hn h0 h32 (pow_lt hk));refine⟨k,m,hn,hk,?_⟩;rw[he,qq];exact⟨Int.natCast_nonneg _,Int.ofNat_lt.2 g.1,g.2⟩
def xor_nat (a b:Int):z3f .xor .u32 a b=((BitVec.ofInt 32 a^^^BitVec.ofInt 32 b).toNat:Int):=by
 have h:=(BitVec.ofInt 32 a^^^BitVec.ofInt 32 b).isLt;rw[bits_xor,wrap_u32]
 generalize (BitVec.ofInt 32 a^^^BitVec.ofInt 32 b).toNat=p at h
 omega
def xor_bit (a b:Int)(i:Nat):(BitVec.ofInt 32 a^^^BitVec.ofInt 32 b).toNat.testBit i=(bt a i !=bt b i):=by
 rw[BitVec.testBit_toNat,BitVec.getLsbD_xor];rfl
def tz_range {x:Int}(a b:Int)(hx:x=z3f .xor .u32 a b)(h0:x≠0):0<=tzE x/\tzE x<32:=by
 rw[xor_nat] at hx;obtain⟨k,m,_,_,h1,h2,_⟩:=tz_core (n:=(BitVec.ofInt 32 a^^^BitVec.ofInt 32 b).toNat) (by omega) (BitVec.isLt _);rw[hx];exact⟨h1,h2⟩
def tz_common (a b:Int):min (tz32 (z3f .xor .u32 a b)) 16=(cmnW a b:Int):=by
 have hle:=cmnW_le a b;unfold tz32
 by_cases h0:z3f .xor .u32 a b=0
 ·rw[qe h0];rw[xor_nat] at h0;have hn:(BitVec.ofInt 32 a^^^BitVec.ofInt 32 b).toNat=0:=by omega
  by_cases h:cmnW a b<16
  ·have:=xor_bit a b (cmnW a b);rw[hn,Nat.zero_testBit] at this;exact absurd (by simpa using this.symm) (cmnW_ne h)
  omega
 rw[qc h0,xor_nat];rw[xor_nat] at h0;obtain⟨k,m,hn,hk,_,_,hd⟩:=tz_core (n:=(BitVec.ofInt 32 a^^^BitVec.ofInt 32 b).toNat) (by omega) (BitVec.isLt _);rw[hd];have hb:∀i,(bt a i !=bt b i)=if i<k then false else(2*m+1).testBit (i-k):=fun i=>by rw[<-xor_bit,hn,low_test]
 have h1:∀i,i<k->bt a i=bt b i:=fun i hi=>by have:=hb i;rw[qe hi] at this;simpa using this
 have h2:bt a k≠bt b k:=by
  have:=hb k;rw[qc (jL k),QV,Nat.testBit_zero] at this;intro e;rw[e] at this;simp at this
 rcases ji (cmnW a b) k with h|h|h
 ·have:16<=cmnW a b:=by
   rcases Qo (cmnW a b) 16 with g|g
   ·exact absurd (h1 _ h) (cmnW_ne g)
   exact g
  omega
 ·omega
 exact absurd (cmnW_eq h) h2
def shift_bit (w:Int){i:Nat}(hi:i<32):(w.fdiv (2^i))%2=if bt w i then 1 else 0:=by
 obtain⟨j,hj⟩:∃j,32=i+(j+1):=⟨31-i,by omega⟩
 have hp:(4294967296:Int)=2^i*(2*2^j):=by
  rw[show(4294967296:Int)=2^32 from rfl,hj,Int.pow_add,Int.pow_succ,Int.mul_comm (2^j) 2]
 have h2:(0:Int)<2^i:=Int.pow_pos (by omega)
 have hbt:bt w i=decide ((w%4294967296).toNat/2^i%2=1):=by
  unfold bt;rw[<-BitVec.testBit_toNat,JP,Nat.testBit_eq_decide_div_mod_eq]
  rfl
 rw[Int.fdiv_eq_ediv_of_nonneg _ (by omega)]
 have hw:w/2^i=(w%4294967296)/2^i+(2*2^j)*(w/4294967296):=by
  have h1:w=w%4294967296+2^i*((2*2^j)*(w/4294967296)):=by
   rw[<-Int.mul_assoc,<-hp];omega
  calc w/2^i=(w%4294967296+2^i*((2*2^j)*(w/4294967296)))/2^i:=by rw[<-h1]
   _=_:=Int.add_mul_ediv_left _ _ (by omega)
 have hr:((w%4294967296).toNat:Int)=w%4294967296:=Int.toNat_of_nonneg (by omega)
 have hd:(w%4294967296)/2^i=(((w%4294967296).toNat/2^i:Nat):Int):=by
  rw[Int.natCast_ediv,hr,Int.natCast_pow];rfl
 rw[hw,hd,hbt,Int.mul_assoc]
 generalize (2:Int)^j*(w/4294967296)=X
 generalize (w%4294967296).toNat/2^i=Y
 by_cases hy:Y%2=1
 ·simp only[hy,jR,q9];omega
 simp only[hy,decide_false,qz,Ql];omega
def and_one (w:Int){i:Nat}(hi:i<32):z3f .and .u32 (w.fdiv (2^i)) 1=if bt w i then 1 else 0:=by
 rw[bits_and,wrap_u32,show(BitVec.ofInt 32 1).toNat=1 from rfl,Nat.and_one_is_mod,JP,<-shift_bit w hi]
 generalize w.fdiv (2^i)=z
 omega
end Go.Proofs
namespace Go.Sk
open Go.RowKit
variable {X:Cx} {Q:Exit->Fr->AH->Prop} {fr:Fr} {H:AH} {l:List Code}
def Cs.regG {c:Code}{id:Nat}{ops:List Oper}(keep:List Nat)(hd:dstOk X.n ops=true)
  (h:∀K:Fr->AH->Prop,(∀fr H,Cs X (c::l) Q fr H->K fr H)->(∀fr H F G ρ,z4h X ρ fr H F G->K F G->K fr H)->runL X.P X.wrap X.m0 ops.toArray ops fr H (fun fr H=>K (prune keep fr) H)):Cs X (.region id ops.toArray false::c::l) Q fr H:=
 Cw.reg keep hd (h (fun fr H=>Cs X (c::l) Q fr H) (fun _ _ h=>h) (fun _ _ _ _ _ hg hk=>Cs.give _ hg hk))
end Go.Sk
namespace Go.Proofs
open Tryz
open Go.Sk
def Tryz.tyU8:z1o prog 5=⟨true,.int .u8,1,1,[]⟩:=by kernel_rfl
def Tryz.tyTab32:z1o prog 211=⟨true,.array 32 5,32,32,[]⟩:=by kernel_rfl
def Tryz.szU8:z2m prog 5=1:=by kernel_rfl
def Tryz.tabDb:tabBG prog 1=true:=by kernel_rfl
def db_range (i:Nat):0<=db32.getD i 0/\db32.getD i 0<=31:=by
 rcases Qo i 32 with h|h
 ·exact(by decide+kernel:∀i:Nat,i<32->0<=db32.getD i 0/\db32.getD i 0<=31) i h
 have:db32.getD i 0=0:=by simp[List.getD,show db32.length<=i from h]
 rw[this];omega
def wrap_u64n {i:Nat}(hi:i<16):IntKind.u64.wrap (i:Int)=i:=by
 simp only[IntKind.wrap,IntKind.bits,IntKind.signed];simp;omega
def shift_nat {i:Nat}(hi:i<16):min i IntKind.u32.bits=i:=by
 show min i 32=i
 omega
def ec20:=aj4 @Tryz.tyU8 @Tryz.tyTab32 @Tryz.szU8 @Tryz.tabDb
def InDm.exE:=aj9 @zd @zf @zg @zm @zi z58 @zn z3g (aj3 z3w ec20 @Tryz.tyU64)
def InDm.gxE:=aj3 z3g ec16 z3w
def InDm.axE:=aj9 @zd @zf @zg @zm @zi z58 @zn z3g (aj4 z3w ec20 @Tryz.tyU64 @z21)
open InDm (gxE axE exE)
open D0 (oxE sdE)
def tz_spec (a b:Int):
  zj prog 189 [.int .u32 (z3f .xor .u32 a b)] ⟨0,[]⟩ (fun s H1=>s= .int .i64 (tz32 (z3f .xor .u32 a b))/\H1=⟨0,[]⟩):=by
 refine Zf false 14 [.tmp 2] func189 ntmps189 results189 fun w0 own0 β0 Q hQ hQn=> ?_;refine Zrs [0] (z6 ?_);refine Zrs [0,4] ?_;refine Zcm ?_ ?_
 ·intro h4;refine Zrs [2] (zb (hQ _ _ ?_));rw[show tz32 (z3f .xor .u32 a b)=32 by rw[tz32,qe (by simpa using h4)]];exact Zoc ⟨0,[]⟩
 intro h4;have h0:z3f .xor .u32 a b≠0:=by simpa using h4
 have hr:=tz_range a b rfl h0;refine z7 (sg [2] rfl ?_);intro K hK;iterate 6 (refine Zo Zl ?_)
 rw[show(IntKind.u32.wrap (z3f .and .u32 (z3f .xor .u32 a b) (IntKind.u32.wrap (0-z3f .xor .u32 a b))*125613361)).fdiv (2^min 27 IntKind.u32.bits)=tzE (z3f .xor .u32 a b) from rfl];refine Zad ?_;iterate 2 (refine Zo Zl ?_)
 have hdb:0<=db32.getD (tzE (z3f .xor .u32 a b)).toNat 0/\db32.getD (tzE (z3f .xor .u32 a b)).toNat 0<=31:=db_range _;refine Zad ?_;refine Zkl hK ?_;clear hK K;refine zb (hQ _ _ ?_);rw[show tz32 (z3f .xor .u32 a b)=db32.getD (tzE (z3f .xor .u32 a b)).toNat 0 by rw[tz32,qc h0]];exact Zoc ⟨0,[]⟩
def common_spec (a b:Int):
  zj prog 159 [.int .u32 a,.int .u32 b] ⟨0,[]⟩ (fun s H1=>s= .int .i64 (cmnW a b)/\H1=⟨0,[]⟩):=by
 refine Zf false 10 [.tmp 4] func159 ntmps159 results159 fun w0 own0 β0 Q hQ hQn=> ?_;refine Zrs [0,1] ?_;refine sg [4] rfl ?_;intro K hK;iterate 3 (refine Zo Zl ?_)
 refine Zd Zl (tz_spec a b) (id) ?_;refine Zo Zl ?_;rw[tz_common a b];refine Zad ?_;refine Zkl hK ?_;clear hK K;refine zb (hQ _ _ ?_);exact Zoc ⟨0,[]⟩
def same_w_spec (a b lv:Int):
  zj prog 127 [.int .u32 a,.int .u32 b,.int .i64 lv] ⟨0,[]⟩ (fun s H1=>s= .bool (z4f a b lv)/\H1=⟨0,[]⟩):=by
 refine Zf false 12 [.tmp 6] func127 ntmps127 results127 fun w0 own0 β0 Q hQ hQn=> ?_;refine Zrs [0,1,2] ?_;refine sg [6] rfl ?_;intro K hK;iterate 3 (refine Zo Zl ?_)
 refine Zd Zl (common_spec a b) (id) ?_;refine Zkl hK ?_;clear hK K;refine zb (hQ _ _ ?_);exact Zoc ⟨0,[]⟩
def bit_spec (a:Int)(i:Nat)(hi:i<16):
  zj prog 177 [.int .u32 a,.int .i64 i] ⟨0,[]⟩ (fun s H1=>s= .int .i64 (if bt a i then 1 else 0)/\H1=⟨0,[]⟩):=by
 refine Zf false 17 [.tmp 4] func177 ntmps177 results177 fun w0 own0 β0 Q hQ hQn=> ?_;refine Zrs [0,1] (z6 ?_);refine Zrs [0,1,10] ?_;refine Zcm ?_ ?_
 ·intro h10
  exfalso;replace h10:=Znb h10;omega
 intro h10;refine z7 (sg [4] rfl ?_);intro K hK;iterate 3 (refine Zo Zl ?_)
 rw[wrap_u64n hi];refine Zad ?_;iterate 2 (refine Zo Zl ?_)
 rw[show min i IntKind.u32.bits=i from shift_nat hi,and_one a (by omega)];refine Zad ?_;refine Zkl hK ?_;clear hK K;refine zb (hQ _ _ ?_);exact Zoc ⟨0,[]⟩
def refCommon_spec (a b:Int):
  zj prog 143 [.int .u32 a,.int .u32 b] ⟨0,[]⟩ (fun s H1=>s= .int .i64 (cmnW a b)/\H1=⟨0,[]⟩):=by
 refine Zf false 20 [.tmp 4] func143 ntmps143 results143 fun w0 own0 β0 Q hQ hQn=> ?_;refine Zrs [0,1] ?_;refine Zrs [0,1,5] (z6 ?_);refine z8 fun Q0 hN0 hX0 hR0 hE0=> ?_;refine zl (σ:=Nat) (fun i=>i<=16/\cmnF a b (16-i) i=cmnW a b) (fun i=>16-i) (fun i=>[(0,.int .u32 a),(1,.int .u32 b),(5,.int .i64 i)]) (fun _=>⟨0,[]⟩) 0 ⟨ql _,rfl⟩ (ρ:=id) (Zg id) ?_;rintro i hi QL1 hL1 hRL1 hEL1;refine z6 (sg [0,1,5,16] rfl ?_);intro K hK
 have hk2:i<=16/\cmnF a b (16-i) i=cmnW a b->∀B:Bool,B=(decide (i<16) && (bt a i==bt b i))->K [(0,.int .u32 a),(1,.int .u32 b),(5,.int .i64 i),(16,.bool B)] ⟨0,[]⟩:=by
  intro hi B hB;subst hB;refine hK _ _ ?_;clear hK K;refine Zcm ?_ ?_
  ·intro h16;replace h16:=Znb h16;refine z7 ?_;refine z8 fun Q1 hN1 hX1 hR1 hE1=> ?_;refine Zrg [0,1,5] (za (hN1 _ _ (za (hL1 _ _ ?_))));rw[iS i];refine⟨i+1,⟨⟨by omega,?_⟩,by omega⟩,id,(Zg id)⟩;rw[<-hi.2,show 16-i=(16-(i+1))+1 by omega,cmnF,qe (by rw[h16.2];simp)]
  intro h16
  have hs:cmnF a b (16-i) i=i:=by
   by_cases e:i<16
   ·rw[show 16-i=(15-i)+1 by omega,cmnF,qc];intro g;simp only[e,g,jR,Jg] at h16
    cases h16
   rw[show 16-i=0 by omega];rfl
  refine zk (hEL1 _ _ _ (hX0 _ _ (Zrs [4] (zb (hQ _ _ ?_)))));rw[<-hi.2,hs];exact Zoc ⟨0,[]⟩
 iterate 5 (refine Zo Zl ?_)
 refine z13 ?_;refine z1b rfl rfl ?_;refine Zgr ?_;refine z15 ?_ ?_
 ·intro hg5
  first
   |(simp at hg5;done)
   |skip
    try replace hg5:=Znb hg5
    refine Zo id ?_;refine Zc1 (bit_spec a i (by omega)) (id) ?_;iterate 2 (refine Zo Zl ?_)
    refine z13 ?_;refine z1b rfl rfl ?_;refine Zgr ?_;refine z15 ?_ ?_
    ·intro hg8
     first
      |(simp at hg8;done)
      |skip
       try replace hg8:=Znb hg8
       refine Zo id ?_;refine Zc1 (bit_spec b i (by omega)) (id) ?_;iterate 2 (refine Zo Zl ?_)
       refine zr ?_;refine Zpr ?_;refine hk2 hi _ ?_
       cases bt a i<;>cases bt b i<;>simp<;>omega
    intro hg8;refine⟨.int .i64 0,?_⟩
    first
     |(simp at hg8;done)
     |skip
      try replace hg8:=Znb hg8
      iterate 2 (refine Zo Zl ?_)
      refine zr ?_;refine Zpr ?_;refine hk2 hi _ ?_
      cases bt a i<;>cases bt b i<;>simp<;>omega
 intro hg5;refine⟨.int .i64 0,?_⟩
 first
  |(simp at hg5;done)
  |skip
   try replace hg5:=Znb hg5
   iterate 2 (refine Zo Zl ?_)
   refine z13 ?_;refine z1b rfl rfl ?_;refine Zgr ?_;refine z15 ?_ ?_
   ·intro hg8
    first
     |(simp at hg8;done)
     |skip
      try replace hg8:=Znb hg8
      refine Zo id ?_;refine Zc1 (bit_spec b i (by omega)) (id) ?_;iterate 2 (refine Zo Zl ?_)
      refine zr ?_;refine Zpr ?_;refine hk2 hi _ ?_
      cases bt a i<;>cases bt b i<;>simp<;>omega
   intro hg8;refine⟨.int .i64 0,?_⟩
   first
    |(simp at hg8;done)
    |skip
     try replace hg8:=Znb hg8
     iterate 2 (refine Zo Zl ?_)
     refine zr ?_;refine Zpr ?_;refine hk2 hi _ ?_
     cases bt a i<;>cases bt b i<;>simp<;>omega
def refSame_w_spec (a b lv:Int):
  zj prog 107 [.int .u32 a,.int .u32 b,.int .i64 lv] ⟨0,[]⟩ (fun s H1=>s= .bool (z4f a b lv)/\H1=⟨0,[]⟩):=by
 refine Zf false 12 [.tmp 6] func107 ntmps107 results107 fun w0 own0 β0 Q hQ hQn=> ?_;refine Zrs [0,1,2] ?_;refine sg [6] rfl ?_;intro K hK;iterate 3 (refine Zo Zl ?_)
 refine Zd Zl (refCommon_spec a b) (id) ?_;refine Zkl hK ?_;clear hK K;refine zb (hQ _ _ ?_);exact Zoc ⟨0,[]⟩
end Go.Proofs
namespace Go.Sk
open Go.RowKit
section
abbrev Pn:=Nat->Nat->Nat×Nat
mutual
def SV.renP (π:Pn):SV->SV
 |.ptr id k i j=> .ptr (π id k).1 (π id k).2 i j
 |.slc g id k o n=> .slc g (π id k).1 (π id k).2 o n
 |.mp id k=> .mp (π id k).1 (π id k).2
 |.fn f l=> .fn f (SV.renPL π l)
 |.agg l=> .agg (SV.renPL π l)
 |.tup l=> .tup (SV.renPL π l)
 |.gd g s=> .gd g (SV.renP π s)
 |.ifc t s=> .ifc t (SV.renP π s)
 |s=>s
def SV.renPL (π:Pn):List SV->List SV
 |[]=>[]
 |s::l=>SV.renP π s::SV.renPL π l
end
def Env.viaP (β:Env)(π:Pn):Env:=fun id k=>β (π id k).1 (π id k).2
mutual
def z3u {β:Env}{π:Pn}:∀(s:SV) (v:Value),den β (s.renP π) v↔den (β.viaP π) s v
 |.int ..,_=>QK
 |.bool _,_=>QK
 |.str _,_=>QK
 |.nilp,_=>QK
 |.nils,_=>QK
 |.nilfn,_=>QK
 |.raw _,_=>QK
 |.ptr ..,_=>QK
 |.slc ..,_=>QK
 |.mp ..,_=>QK
 |.fn f l,v=>by
  simp only[SV.renP,den];exact⟨fun⟨vs,h,e⟩=>⟨vs,(z61 l vs).1 h,e⟩,fun⟨vs,h,e⟩=>⟨vs,(z61 l vs).2 h,e⟩⟩
 |.agg l,v=>by
  simp only[SV.renP,den];exact⟨fun⟨vs,h,e⟩=>⟨vs,(z61 l vs).1 h,e⟩,fun⟨vs,h,e⟩=>⟨vs,(z61 l vs).2 h,e⟩⟩
 |.tup l,v=>by
  simp only[SV.renP,den];exact⟨fun⟨vs,h,e⟩=>⟨vs,(z61 l vs).1 h,e⟩,fun⟨vs,h,e⟩=>⟨vs,(z61 l vs).2 h,e⟩⟩
 |.ifc t s,v=>by
  simp only[SV.renP,den];exact⟨fun⟨u,h,e⟩=>⟨u,(z3u s u).1 h,e⟩,fun⟨u,h,e⟩=>⟨u,(z3u s u).2 h,e⟩⟩
 |.gd g s,v=>by
  simp only[SV.renP,den];exact⟨fun⟨h,e⟩=>⟨fun hg=>(z3u s v).1 (h hg),e⟩,fun⟨h,e⟩=>⟨fun hg=>(z3u s v).2 (h hg),e⟩⟩
def z61 {β:Env}{π:Pn}:∀(l:List SV) (vs:List Value),z2u β (SV.renPL π l) vs↔z2u (β.viaP π) l vs
 |[],_=>QK
 |s::l,vs=>by
  simp only[SV.renPL,z2u];exact⟨fun⟨v,r,h1,h2,e⟩=>⟨v,r,(z3u s v).1 h1,(z61 l r).1 h2,e⟩,fun⟨v,r,h1,h2,e⟩=>⟨v,r,(z3u s v).2 h1,(z61 l r).2 h2,e⟩⟩
end
def renPL_eq (π:Pn):∀l:List SV,SV.renPL π l=l.map (SV.renP π)
 |[]=>rfl
 |s::l=>by simp[SV.renPL,renPL_eq π l]
def scalar_renP (π:Pn)(s:SV):(s.renP π).scalar=s.scalar:=by cases s<;>rfl
def ze (π:Pn)(r r':Row):Prop:=
 (r'.own=true->r.own=true/\r'.e=r.e)/\r'.sz=r.sz/\r'.n<=r.n/\∀i,i<r'.n->r.f i=SV.renPL π (r'.f i)
def mapGivesP (π:Pn):z34->z34->Prop
 |.ints n h g z,.ints n' h' g' z'=>n'=n/\(∀a,h' a=h a)/\(∀a,g a=(g' a).renP π)/\z=z'.renP π
 |.prs n h g z,.prs n' h' g' z'=>n'=n/\(∀a b,h' a b=h a b)/\(∀a b,g a b=(g' a b).renP π)/\z=z'.renP π
 |_,_=>False
def mapGivesP_all {π:Pn}{M M':z34}(h:mapGivesP π M M'):M'.n=M.n/\(∀v,M'.has v=M.has v)/\(∀v,M.val v=(M'.val v).renP π)/\M.z=M'.z.renP π:=by
 cases M<;>cases M'<;>simp only[mapGivesP] at h
 all_goals
  obtain⟨h1,h2,h3,h4⟩:=h;refine⟨h1,fun v=> ?_,fun v=> ?_,h4⟩<;>simp only[z34.has,z34.val]<;>split<;>first|exact h2 _|exact h2 _ _|exact h3 _|exact h3 _ _|exact h4|rfl
def zt (π:Pn):Obj->Obj->Prop
 |.row r,.row r'=>ze π r r'
 |.blk w p,.blk w' p'=>(w'=true->w=true)/\p=p'
 |.mapo w p,.mapo w' p'=>(w'=true->w=true)/\mapGivesP π p p'
 |_,_=>False
def objGivesP_own {π:Pn}{o o':Obj}(h:zt π o o')(ho:o'.own=true):o.own=true:=by
 cases o<;>cases o'<;>simp only[zt] at h
 ·exact(h.1 ho).1
 ·exact h.1 ho
 ·exact h.1 ho
def z2h {π:Pn}{o o':Obj}(h:zt π o o'):o≠ .gone:=by
 cases o<;>cases o'<;>simp only[zt] at h<;>simp
def objGivesP_holds {π:Pn}{o o':Obj}(h:zt π o o'){β:Env}{w:World}{q:Option Loc}(hh:o.holds β w q):o'.holds (β.viaP π) w q:=by
 cases o<;>cases o'<;>simp only[zt] at h
 ·rename_i r r';obtain⟨h1,h2,h3,h4⟩:=h;rcases hh with⟨hn,hq⟩|⟨L,hq,e1,e2,e3,e4⟩
  ·exact .inl ⟨by omega,hq⟩
  ·refine .inr ⟨L,hq,by omega,e2,fun i hi=> ?_,fun ho=> ?_⟩
   ·have:=e3 i (by omega);rw[h4 i hi] at this;refine⟨by rw[renPL_eq,qx] at this;omega,fun j s hs=> ?_⟩;have hj:(SV.renPL π (r'.f i))[j]? =some (s.renP π):=by rw[renPL_eq,qQ,hs];rfl
    obtain⟨c1,v,c2,c3⟩:=this.2 j _ hj;exact⟨by rw[<-scalar_renP π];exact c1,v,c2,(z3u s v).1 c3⟩
   ·obtain⟨a,b,c,cur,d,e⟩:=e4 (h1 ho).1;exact⟨a,by omega,c,cur,by rw[(h1 ho).2];exact d,by rw[h2];exact e⟩
 ·obtain⟨_,rfl⟩:=h;exact hh
 ·obtain⟨L,b,hq,hb,es,clk,e1,e2,e6,e3,e4,e5⟩:=hh;obtain⟨q1,q2,q3,q4⟩:=mapGivesP_all h.2;refine⟨L,b,hq,hb,es,clk,e1,e2.trans q1.symm,e6,fun k=>by rw[q2];exact e3 k,fun e he=> ?_,fun k hk v hv=> ?_⟩
  ·have:=e4 e he;rw[q3] at this;exact(z3u _ _).1 this
  ·have:=e5 k (by rw[<-q2];exact hk) v (by rw[q4];exact(z3u _ _).2 hv);rw[q3] at this;exact(z3u _ _).1 this
structure z5n (X:Cx) (π:Pn) (fr:Fr) (H:AH) (fr':Fr) (H':AH):Prop where
 fr:∀t s,get fr' t=some s->get fr t=some (s.renP π)/\s.lt H'.nxt
 os:∀id k o',look H'.os id k=some o'->id<H'.nxt/\o'.lt H'.nxt/\∃o,look H.os (π id k).1 (π id k).2=some o/\zt π o o'
 inj:∀id k o id' k' o',look H'.os id k=some o->look H'.os id' k'=some o'->o.own=true->π id k=π id' k'->id=id'/\k=k'
 fix:∀id k,id<X.m0->π id k=(id,k)
 m0:X.m0<=H'.nxt
 keep:∀id k,id<X.m0->(∃o,look H.os id k=some o/\o.own=true)->∃o,look H'.os id k=some o/\o.own=true
 big:∀id k o,X.m0<=id->look H'.os id k=some o->o.own=true->X.m0<=(π id k).1
def z5n.frOk {X:Cx}{π:Pn}{fr fr':Fr}{H H':AH}(h:z5n X π fr H fr' H'){β:Env}{a:Act}(hF:FrOk X β H.nxt fr a):FrOk X (β.viaP π) H'.nxt fr' a:=
 ⟨hF.defers,hF.size,fun t s hs=>by
  obtain⟨h1,h2⟩:=h.fr t s hs;obtain⟨_,v,h3,h4⟩:=hF.get t _ h1
  exact⟨h2,v,h3,(z3u s v).1 h4⟩⟩
def z5n.st {X:Cx}{π:Pn}{fr fr':Fr}{H H':AH}(h:z5n X π fr H fr' H'){β:Env}{w:World}(hS:St X β H w):St X (β.viaP π) H' w where
 os:=hS.os
 tape:=hS.tape
 output:=hS.output
 size:=hS.size
 fix id k hl:=by
  show β (π id k).1 (π id k).2=_
  rw[h.fix id k hl];exact hS.fix id k hl
 holds id k o hl:=by
  obtain⟨_,_,o0,h1,h2⟩:=h.os _ _ _ hl;exact objGivesP_holds h2 (hS.holds _ _ _ h1)
 sep id k id' k' o o' L L' hl hl' ho hb hb' he:=by
  obtain⟨_,_,o0,h1,h2⟩:=h.os _ _ _ hl;obtain⟨_,_,o1,h3,h4⟩:=h.os _ _ _ hl';have:=hS.sep _ _ _ _ _ _ _ _ h1 h3 (objGivesP_own h2 ho) hb hb' he;exact h.inj _ _ _ _ _ _ hl hl' ho (Prod.ext this.1 this.2)
 old b hb hn:=hS.old b hb fun id k o L hl ho hbb he=>by
  rcases hS.mine _ _ _ _ hl ho hbb with⟨h1,_⟩|⟨_,h2⟩
  ·obtain⟨o',q1,q2⟩:=h.keep id k h1 ⟨o,hl,ho⟩;refine hn id k o' L q1 q2 ?_ he
   show β (π id k).1 (π id k).2=_
   rw[h.fix id k h1];exact hbb
  ·omega
 mine id k o L hl ho hb:=by
  obtain⟨hlt,_,o0,h1,h2⟩:=h.os _ _ _ hl;rcases hS.mine _ _ _ _ h1 (objGivesP_own h2 ho) hb with⟨q1,q2⟩|⟨q1,q2⟩
  ·by_cases hm:id<X.m0
   ·rw[h.fix id k hm] at q2;exact .inl ⟨hm,q2⟩
   ·have:=h.big id k o (by omega) hl ho;omega
  ·by_cases hm:id<X.m0
   ·have:=h.fix id k hm;rw[this] at q1;simp only at q1;omega
   ·exact .inr ⟨by omega,q2⟩
 keep id k ho:=by
  obtain⟨q1,o,q2,q3⟩:=hS.keep id k ho;exact⟨q1,h.keep id k q1 ⟨o,q2,q3⟩⟩
 m0:=h.m0
 lt id k o hl:=by
  obtain⟨h1,h2,_⟩:=h.os _ _ _ hl;exact⟨h1,h2⟩
 tabs:=hS.tabs
 drawn:=hS.drawn
def mvP (ρ:Nat->Nat)(f j a:Nat):Pn:=fun id k=>if id=f/\k=j+1 then(a,0) else(ρ id,k)
def frGivesP (π:Pn)(m:Nat)(fr:Fr):Fr->Prop
 |[]=>True
 |(t,s)::l=>(get fr t=some (s.renP π)/\s.lt m)/\frGivesP π m fr l
def frGivesP_ok {π:Pn}{m:Nat}{fr:Fr}:∀{fr':Fr},frGivesP π m fr fr'->∀t s,get fr' t=some s->get fr t=some (s.renP π)/\s.lt m
 |[],_,_,_,h=>by simp[get] at h
 |(u,s0)::l,h,t,s,hs=>by
  simp only[get] at hs
  split at hs
  ·rename_i he
   cases hs;subst he
   exact h.1
  ·exact frGivesP_ok h.2 t s hs
def z1g (ρ:Nat->Nat)(f j a m:Nat)(os:List (Nat×Nat×(Nat->Obj))):List (Nat×Nat×(Nat->Obj))->Prop
 |[]=>True
 |(id,c',F')::l=>
  ((match find os (ρ id) with
   |some (c,F)=> ∀k,k<c'->¬(id=f/\k=j+1)->k<c/\zt (mvP ρ f j a) (F k) (F' k)/\(F' k).lt m
   |none=>False)/\
   (id=f->match find os a with
   |some (c,F)=>0<c/\zt (mvP ρ f j a) (F 0) (F' (j+1))/\(F' (j+1)).lt m
   |none=>False))/\id<m/\z1g ρ f j a m os l
def z1g.get {ρ:Nat->Nat}{f j a m:Nat}{os:List (Nat×Nat×(Nat->Obj))}:∀{os':List (Nat×Nat×(Nat->Obj))},z1g ρ f j a m os os'->∀id c' F',(id,c',F')∈os'->∀k,k<c'->F' k≠ .gone->
  id<m/\(F' k).lt m/\∃o,look os (mvP ρ f j a id k).1 (mvP ρ f j a id k).2=some o/\zt (mvP ρ f j a) o (F' k)
 |[],_,_,_,_,hm=>by cases hm
 |(i,c1,F1)::l,h,id,c',F',hm=>by
  obtain⟨⟨h1,h1'⟩,h2,h3⟩:=h
  cases hm with
  |head=>
   intro k hk hg
   by_cases hj:i=f/\k=j+1
   ·obtain⟨rfl,rfl⟩:=hj;have:=h1' rfl
    split at this
    ·rename_i c F hf;obtain⟨q1,q2,q3⟩:=this;refine⟨h2,q3,F 0,?_,q2⟩;simp only[mvP,JM,q9];exact(zy hf q1).trans (Obj.opt_of (z2h q2))
    ·exact this.elim
   ·split at h1
    ·rename_i c F hf;obtain⟨q1,q2,q3⟩:=h1 k hk hj;refine⟨h2,q3,F k,?_,q2⟩;have e:mvP ρ f j a i k=(ρ i,k):=qc hj;rw[e];exact(zy hf q1).trans (Obj.opt_of (z2h q2))
    ·exact h1.elim
  |tail _ hm=>exact z1g.get h3 id c' F' hm
def z5n.mk' {X:Cx}{fr:Fr}{H:AH}{fr':Fr}{H':AH}(ρ:Nat->Nat)(f j a:Nat)(h1:frGivesP (mvP ρ f j a) H'.nxt fr fr')(h2:z1g ρ f j a H'.nxt H.os H'.os)(h3:injB ρ H'.os=true)(h3u:ownU H'.os)
  (h3a:(H'.os.all fun x=> !(ρ x.1==a))=true) (h4:(List.range X.m0).all (fun id=>ρ id==id)=true)
  (h5:X.m0<=H'.nxt) (h5f:X.m0<=f) (h5a:X.m0<=a) (h6:∀x∈H.os,x.1<X.m0->∀k,(x.2.2 k).own=(x.2.2 0).own) (h7:keepB X.m0 H.os H'.os) (h8:bigB X.m0 ρ H'.os=true):z5n X (mvP ρ f j a) fr H fr' H' where
 fr:=frGivesP_ok h1
 os id k o' hl:=by
  have hg:=z3o hl;obtain⟨c,F,hf,hk,rfl⟩:=z1h hl;exact h2.get _ _ _ (z1j hf) k hk hg
 inj id k o id' k' o' hl hl' ho he:=by
  have hna:∀{id k:Nat} {o:Obj},look H'.os id k=some o->ρ id≠a:=fun {id k o} h e=>by
   obtain⟨c,F,hf,hk,rfl⟩:=z1h h;have:=qu.1 h3a _ (z1j hf);simp[e] at this
  have hij:InjOn ρ H'.os:= .of h3 h3u;unfold mvP at he
  split at he
  ·rename_i h
   split at he
   ·rename_i h';exact⟨h.1.trans h'.1.symm,h.2.trans h'.2.symm⟩
   ·simp only[jn] at he;exact absurd he.1.symm (hna hl')
  ·split at he
   ·simp only[jn] at he;exact absurd he.1 (hna hl)
   ·simp only[jn] at he;exact⟨hij _ _ _ _ _ _ hl hl' ho he.1,he.2⟩
 fix id k hid:=by
  have:=qu.1 h4 id (Qu.2 hid);unfold mvP;rw[qc (by omega)];rw[qD] at this;rw[this]
 m0:=h5
 keep id k hid ho:=by
  obtain⟨o,ho1,ho2⟩:=ho;obtain⟨c,F,hf,hk,rfl⟩:=z1h ho1;have:=h7 _ (z1j hf) hid (by have:=h6 _ (z1j hf) hid k;simp only at this;rw[<-this];exact ho2);simp only at this
  split at this
  ·rename_i c' F' hf';exact⟨F' k,(zy hf' (by omega)).trans (Obj.opt_of fun e=>by have:=this.2 k;rw[e] at this;cases this),this.2 k⟩
  ·exact this.elim
 big id k o h0 hl ho:=by
  obtain⟨c,F,hf,hk,rfl⟩:=z1h hl;have h9:=qu.1 h8 _ (z1j hf);have h10:=h3u _ (z1j hf) k;simp only[qt,qm,qn] at h9;simp only at h10;rw[<-h10,ho] at h9;unfold mvP
  split
  ·exact h5a
  ·rcases h9 with(h9|h9)|h9
   ·omega
   ·exact h9
   ·cases h9
section
variable {X:Cx} {Q:Exit->Fr->AH->Prop} {fr:Fr} {H:AH} {l:List Code}
def z2y {c:Code}{fr':Fr}{H':AH}(π:Pn)(hg:z5n X π fr H fr' H')(h:Cs X (c::l) Q fr' H'):Cs X (c::l) Q fr H:=fun _ a w hF hS=>h _ a w (hg.frOk hF) (hg.st hS)
def z29 {c:Code}(e:TypeId)(sz:Nat)(G:Nat->Obj)(h:Cs X (c::l) Q fr ⟨H.nxt+1,(H.nxt,0+1,fam true e sz G)::H.os⟩):Cs X (c::l) Q fr H:=fun β a w hF hS=>by
 have hag:=Env.agree_set β H.nxt (fun _=>none);refine h (β.set H.nxt fun _=>none) a w (hF.agree (QH H.nxt) hag) ?_;refine St.new' hS (fun k L _ he=>by cases he) (fun k k' L L' h h' he he' _=>by cases he) (fun k hk=> ?_) (fun k hk=> ?_)
 ·have:k=0:=by omega
  subst this;exact .inl ⟨rfl,rfl⟩
 ·have:k=0:=by omega
  subst this;intro i j s hi _;exact absurd hi (qI _)
end
end
def fam_gives {ρ:Nat->Nat}{o o':Bool}{e e':TypeId}{sz sz':Nat}{G G':Nat->Obj}{n m:Nat}:
  (∀k,k<n+1->z1e ρ (fam o e sz G k) (fam o' e' sz' G' k)/\(fam o' e' sz' G' k).lt m)↔((o'=true->o=true/\e'=e)/\sz'=sz)/\∀i,i<n->z1e ρ (G i) (G' i)/\(G' i).lt m:=by
 constructor
 ·intro h;refine⟨?_,fun i hi=>h (i+1) (by omega)⟩;have:=(h 0 (by omega)).1;simp only[fam,z1e,z4a] at this;exact⟨this.1,this.2.1⟩
 ·rintro⟨⟨h1,h2⟩,h3⟩ k hk
  cases k with
  |zero=>
   refine⟨?_,fun i j s hi _=>absurd hi (qI _)⟩;simp only[fam,z1e,z4a];exact⟨h1,h2,qd _,fun i hi=>absurd hi (qI _)⟩
  |succ i=>exact h3 i (by omega)
def fam_gives' {ρ:Nat->Nat}{o o':Bool}{e e':TypeId}{sz sz':Nat}{G G':Nat->Obj}{n m:Nat}:
  (∀k,k<=n->z1e ρ (fam o e sz G k) (fam o' e' sz' G' k)/\(fam o' e' sz' G' k).lt m)↔((o'=true->o=true/\e'=e)/\sz'=sz)/\∀i,i<n->z1e ρ (G i) (G' i)/\(G' i).lt m:=by
 rw[<-fam_gives];exact⟨fun h k hk=>h k (by omega),fun h k hk=>h k (by omega)⟩
def fam_g0 {ρ:Nat->Nat}{o o':Bool}{e e':TypeId}{sz sz':Nat}{G G':Nat->Obj}:z1e ρ (fam o e sz G 0) (fam o' e' sz' G' 0)↔(o'=true->o=true/\e'=e)/\sz'=sz:=by
 simp only[fam,z1e,z4a];exact⟨fun h=>⟨h.1,h.2.1⟩,fun h=>⟨h.1,h.2,qd _,fun i hi=>absurd hi (qI _)⟩⟩
def fam_l0 (o:Bool)(e:TypeId)(sz:Nat)(G:Nat->Obj)(m:Nat):(fam o e sz G 0).lt m:=fun i j s hi _=>absurd hi (qI _)
def app_at (f:Nat->List SV)(n:Nat)(g:Nat->List SV):app f n g n=g 0:=by simp[app]
def rows_nil1:z3y 1 1 [SV.nils] 0=[SV.nils]:=rfl
def fam_own (o:Bool)(e:TypeId)(sz:Nat)(G:Nat->Obj):(∀k,(fam o e sz G k).own=o)↔∀i,(G i).own=o:=by
 constructor
 ·exact fun h i=>h (i+1)
 ·intro h k
  cases k with
  |zero=>rfl
  |succ i=>exact h i
def fam_own1 {o:Bool}{e:TypeId}{sz:Nat}{G:Nat->Obj}(h:∀i,(G i).own=o)(k:Nat):(fam o e sz G k).own=o:=(fam_own o e sz G).2 h k
def z38 (ρ:Nat->Nat)(o:Bool)(e:TypeId)(sz:Nat)(G:Nat->Obj):(fun k=>(fam o e sz G k).ren ρ)=fam o e sz (fun i=>(G i).ren ρ):=by
 funext k
 cases k<;>rfl
def fam_givesP {π:Pn}{o o':Bool}{e e':TypeId}{sz sz':Nat}{G G':Nat->Obj}{c c' f id j m:Nat}(hid:id=f)(h1:(o'=true->o=true/\e'=e)/\sz'=sz)(h0:0<c)(h:∀i,i+1<c'->i≠j->i+1<c/\zt π (G i) (G' i)/\(G' i).lt m):
  ∀k,k<c'->¬(id=f/\k=j+1)->k<c/\zt π (fam o e sz G k) (fam o' e' sz' G' k)/\(fam o' e' sz' G' k).lt m:=by
 intro k hk hn
 cases k with
 |zero=>
  refine⟨h0,?_,fun i j s hi _=>absurd hi (qI _)⟩;simp only[fam,zt,ze];exact⟨h1.1,h1.2,qd _,fun i hi=>absurd hi (qI _)⟩
 |succ i=>exact h i hk fun e=>hn ⟨hid,by omega⟩
def z17 {ρ:Nat->Nat}{f j a m:Nat}{os l:List (Nat×Nat×(Nat->Obj))}{id c:Nat}{F:Nat->Obj}{o':Obj}(hf:find os (ρ id)=some (c,F))(hc:0<c)(hid:id≠f)(h:zt (mvP ρ f j a) (F 0) o')(hl:o'.lt m)(hm:id<m)(ht:z1g ρ f j a m os l):z1g ρ f j a m os ((id,uQ o')::l):=by
 refine⟨⟨?_,fun e=>absurd e hid⟩,hm,ht⟩;rw[hf];intro k hk _
 have hk0:k=0:=by
  have:k<1:=hk;omega
 subst hk0;exact⟨hc,h,hl⟩
def z47 {ρ:Nat->Nat}{f j a m:Nat}{os l:List (Nat×Nat×(Nat->Obj))}{c c' ca:Nat}{Fa:Nat->Obj}{o o':Bool}{e e':TypeId}{sz sz':Nat}{G G':Nat->Obj}(hf:find os (ρ f)=some (c,fam o e sz G))(hfa:find os a=some (ca,Fa))(hca:0<ca)
  (h1:(o'=true->o=true/\e'=e)/\sz'=sz) (h0:0<c) (h:∀i,i+1<c'->i≠j->i+1<c/\zt (mvP ρ f j a) (G i) (G' i)/\(G' i).lt m) (ha:zt (mvP ρ f j a) (Fa 0) (G' j)) (hal:(G' j).lt m) (hm:f<m) (ht:z1g ρ f j a m os l):
  z1g ρ f j a m os ((f,(c',fam o' e' sz' G'))::l):=by
 refine⟨⟨?_,fun _=> ?_⟩,hm,ht⟩
 ·rw[hf];exact fam_givesP rfl h1 h0 h
 ·rw[hfa];exact⟨hca,ha,hal⟩
def z1g.consO {ρ:Nat->Nat}{f j a m:Nat}{os l:List (Nat×Nat×(Nat->Obj))}{id c c':Nat}{o o':Bool}{e e':TypeId}{sz sz':Nat}{G G':Nat->Obj}(hf:find os (ρ id)=some (c,fam o e sz G))(hid:id≠f)
  (h1:(o'=true->o=true/\e'=e)/\sz'=sz) (hc:c'<=c) (h:∀i,i+1<c'->zt (mvP ρ f j a) (G i) (G' i)/\(G' i).lt m) (hm:id<m) (ht:z1g ρ f j a m os l):
  z1g ρ f j a m os ((id,(c',fam o' e' sz' G'))::l):=by
 refine⟨⟨?_,fun e=>absurd e hid⟩,hm,ht⟩;rw[hf];intro k hk _
 cases k with
 |zero=>
  refine⟨by omega,?_,fun i j s hi _=>absurd hi (qI _)⟩;simp only[fam,zt,ze];exact⟨h1.1,h1.2,qd _,fun i hi=>absurd hi (qI _)⟩
 |succ i=>exact⟨by omega,h i hk⟩
def ze.of {π:Pn}{r r':Row}(h1:r'.own=true->r.own=true/\r'.e=r.e)(h2:r'.sz=r.sz)(h3:r'.n<=r.n)(h4:∀i,i<r'.n->r.f i=SV.renPL π (r'.f i)):zt π (.row r) (.row r'):=⟨h1,h2,h3,h4⟩
end Go.Sk
namespace Go.Proofs
open Tryz
open Go.Sk
def Tryz.tyNodess:z1o prog 131=⟨true,.slice 23,1,24,[]⟩:=by kernel_rfl
def Tryz.szNodess:z2m prog 131=1:=by kernel_rfl
def cnd (cs:List (List Nd))(i:Nat):List Nd:=cs.getD i []
def clR (g:Bool)(f:Nat)(cs:List (List Nd)):Nat->List SV:=fun i=>[.slc g f (i+1) 0 (cnd cs i).length]
def clF (o:Bool)(cs:List (List Nd)):Nat->Sk.Obj:=fun i=> .row ⟨o,false,62,3,(cnd cs i).length,nds (cnd cs i)⟩
def clR_ap (g:Bool)(f:Nat)(cs:List (List Nd))(i:Nat):clR g f cs i=[.slc g f (i+1) 0 (cnd cs i).length]:=rfl
def clR_fold (g:Bool)(f:Nat)(cs:List (List Nd)):(fun i=>[SV.slc g f (i+1) 0 (cnd cs i).length])=clR g f cs:=rfl
def clF_ap (o:Bool)(cs:List (List Nd))(i:Nat):clF o cs i= .row ⟨o,false,62,3,(cnd cs i).length,nds (cnd cs i)⟩:=rfl
def clR_ren (ρ:Nat->Nat)(g:Bool)(f:Nat)(cs:List (List Nd)):(fun i=>SV.renL ρ (clR g f cs i))=clR g (ρ f) cs:=by funext i;simp[clR,SV.renL,SV.ren]
def clR_ren' (ρ:Nat->Nat)(g:Bool)(f:Nat)(cs:List (List Nd))(i:Nat):SV.renL ρ (clR g f cs i)=clR g (ρ f) cs i:=jv (clR_ren ρ g f cs) i
def clR_lt (m:Nat)(g:Bool)(f:Nat)(cs:List (List Nd))(i:Nat):SV.ltL m (clR g f cs i)↔f<m:=by simp[clR,SV.ltL,SV.lt]
def clF_gives (ρ:Nat->Nat)(o o':Bool)(cs:List (List Nd))(i:Nat):z1e ρ (clF o cs i) (clF o' cs i)↔(o'=true->o=true):=by
 simp[clF,z1e,z4a,nds_ren']
def clFm_lt (m:Nat)(o:Bool)(cs:List (List Nd))(i:Nat):(clF o cs i).lt m:=Obj.lt_row.2 fun q _=>z4e m _ q
def clF_own (o:Bool)(cs:List (List Nd))(i:Nat):(clF o cs i).own=o:=rfl
def clF_fown (o:Bool)(e:Go.TypeId)(sz:Nat)(cs:List (List Nd))(k:Nat):(fam o e sz (clF o cs) k).own=o:=fam_own1 (clF_own o cs) k
def clF_ren (ρ:Nat->Nat)(o:Bool)(cs:List (List Nd)):(fun i=>(clF o cs i).ren ρ)=clF o cs:=by
 funext i;simp[clF,Obj.ren,Row.ren,z21]
def cnd_lt {cs:List (List Nd)}{i:Nat}(h:i<cs.length):cnd cs i=cs[i]:=by simp[cnd,List.getD,h]
noncomputable def lvBox (lv:Int):Nat×(Nat->Sk.Obj):=uQ (.row ⟨false,true,3,1,1,fun _=>[.int .i64 lv]⟩)
noncomputable def ndBox (x:Nd):Nat×(Nat->Sk.Obj):=uQ (.row ⟨false,true,62,3,1,fun _=>[.int .i64 x.id,.str x.key,.int .u32 x.word]⟩)
def z28 (π:Pn)(xs:List Nd)(i:Nat):SV.renPL π (nds xs i)=nds xs i:=by simp[nds,Nd.sv,SV.renPL,SV.renP]
def clR_renP (ρ:Nat->Nat)(g:Bool)(f j a:Nat)(cs:List (List Nd))(i:Nat):SV.renPL (mvP ρ f j a) (clR g f cs i)=if i=j then [.slc g a 0 0 (cnd cs i).length] else [.slc g (ρ f) (i+1) 0 (cnd cs i).length]:=by
 simp only[clR,SV.renPL,SV.renP,mvP,QQ,jT]
 split<;>rfl
def clF_givesP (π:Pn)(o o':Bool)(cs cs':List (List Nd))(i:Nat)(h:o'=true->o=true)(e:cnd cs' i=cnd cs i):zt π (clF o cs i) (clF o' cs' i):=⟨fun h2=>⟨h h2,rfl⟩,rfl,by rw[e];exact qd _,fun q _=>by rw[e];exact(z28 π _ q).symm⟩
def clF_newP (π:Pn)(n:Nat)(l:List Nd)(cs:List (List Nd))(i:Nat)(hn:l.length=n)(e:cnd cs i=l):zt π (.row ⟨true,false,62,3,n,nds l⟩) (clF true cs i):=⟨fun _=>⟨rfl,rfl⟩,rfl,by rw[e,hn];exact qd _,fun q _=>by rw[e];exact(z28 π _ q).symm⟩
def cnd_append {cs:List (List Nd)}{c:List Nd}{i:Nat}(h:i<cs.length):cnd (cs++[c]) i=cnd cs i:=by simp[cnd,List.getD,QC h]
def cnd_last (cs:List (List Nd))(c:List Nd):cnd (cs++[c]) cs.length=c:=by simp[cnd,List.getD]
def cnd_set (cs:List (List Nd))(k i:Nat)(c:List Nd)(h:k<cs.length):cnd (cs.set k c) i=if i=k then c else cnd cs i:=by
 simp only[cnd,List.getD,Jw]
 by_cases e:k=i
 ·subst e;simp[h]
 rw[qc e,qc (fun h=>e h.symm)]
def ec21:=aj @ndBox.eq_1 @lvBox.eq_1
def ec22:=aj @Tryz.tyNodess @Tryz.szNodess
def ec23:=aj @clR_ap @clF_ap
def ec24:=aj @rowsOf_nd' @app_ndsL
def InEm.exE:=aj9 @zd @zf @zg @zm @zi z58 @zn z3g (aj6 z3w ec21 ec22 @z2i ec23 ec24)
def ec25:=aj5 @clR_ren' @clR_lt @clF_gives @clFm_lt @clF_fown
def ec26:=aj3 @fam_gives @fam_gives' @fam_own
def InEm.gxE:=aj6 z3g ec16 z3w ec21 ec25 ec26
def ec27:=aj @clF_ren @clR_ren
def InEm.axE:=aj9 @zd @zf @zg @zm @zi z58 @zn z3g (aj8 z3w ec21 ec22 @z2i ec24 @z21 @z38 ec27)
open InEm (gxE axE exE)
open D0 (oxE sdE)
def clsTest_spec (cs:List (List Nd))(k:Nat)(x:Nd)(lv:Int)(hk:k<cs.length)(hne:cnd cs k≠[]):
  zj prog 126 [.slc true 0 (k+1) 0 (cnd cs k).length,.ptr 1 0 0 0,.ptr 2 0 0 0] ⟨3,[(0,(cs.length+1,fam false 62 3 (clF false cs))),(1,ndBox x),(2,lvBox lv)]⟩
   (fun s H1=>s= .bool (z4f (hdN (cnd cs k)).word x.word lv)/\H1=⟨3,[]⟩):=by
 have hl:0<(cnd cs k).length:=List.length_pos_iff.2 hne;unfold ndBox lvBox;refine Zf false 13 [.tmp 4] func126 ntmps126 results126 fun w0 own0 β0 Q hQ hQn=> ?_;refine Zrs [0,1,2] (z6 ?_);refine Zrd [4] [0,1,2,3,4,5,6,7,8] (ws 0 [(7,[0,1,2])]) (ws 0 [(7,[0,1,2]),(8,[0,1,2])]) ?_;intro K hK;iterate 7 (refine Zo (Zi [] []) ?_)
 refine Zd (Zi [0,1,2] [0,1,2]) (same_w_spec (nd (cnd cs k) 0).word x.word lv) (id) ?_;refine Zo (Zi [] [0,1,2]) ?_;refine zz (Zpr (hK _ _ ?_));clear hK K;refine zb (hQ _ _ ?_);exact Zoc ⟨3,[]⟩
def clsIndex_spec (cs:List (List Nd))(n:Nat)(hn:cs.length=n)(x:Nd)(lv:Int)(hx:n<=1000000)(hne:∀k,k<cs.length->cnd cs k≠[]):
  zj prog 125 [.slc false 0 0 0 n,.fn 126 [.ptr 2 0 0 0,.ptr 3 0 0 0]] ⟨4,[(0,rI 23 1 n (clR true 1 cs)),(1,(n+1,fam false 62 3 (clF false cs))),(2,ndBox x),(3,lvBox lv)]⟩
   (fun s H1=>s= .int .i64 (idxB n fun i=>z4f (hdN (cnd cs i)).word x.word lv)/\H1=⟨4,[]⟩):=by
 subst hn;refine Zf false 19 [.tmp 4] func125 ntmps125 results125 fun w0 own0 β0 Q hQ hQn=> ?_;refine Zrs [0,1] (z6 ?_);refine Zrs [0,1,7,8] ?_;refine z8 fun Q0 hN0 hX0 hR0 hE0=> ?_;refine zl (σ:=Nat) (fun i=>i<=cs.length/\∀q,q<i->z4f (hdN (cnd cs q)).word x.word lv=false) (fun i=>cs.length-i) (fun i=>[(0,.slc false 0 0 0 cs.length),(1,.fn 126 [.ptr 2 0 0 0,.ptr 3 0 0 0]),(7,.int .i64 cs.length),(8,.int .i64 i)]) (fun _=>⟨4,[(0,rI 23 1 cs.length (clR true 1 cs)),(1,(cs.length+1,fam false 62 3 (clF false cs))),(2,ndBox x),(3,lvBox lv)]⟩) 0 ⟨ql _,fun q h=>by omega⟩ (ρ:=id) (have xE:=aj @ndBox.eq_1 @lvBox.eq_1;Zgx id) ?_;rintro i hi QL1 hL1 hRL1 hEL1;refine Zrs [0,1,7,8,9] (z6 ?_);refine Zcn ?_ ?_
 ·intro h9;obtain⟨hi1,hi2⟩:=hi;refine z7 (z6 ?_);refine z8 fun Q1 hN1 hX1 hR1 hE1=> ?_;refine Zrs [0,1,5,7,8] ?_;refine sg [0,1,5,7,8,16] rfl ?_;intro K hK;iterate 5 (refine Zo Zl ?_)
  refine Zd Zl (clsTest_spec cs i x lv (by omega) (hne i (by omega))) (fun q=>q+1) ?_;refine Zk hK ?_;clear hK K;refine Zcm ?_ ?_
  ·intro h16
   try replace h16:=Znb h16
   refine Zrs [4] (zb (hR1 _ _ (hRL1 _ _ (hR0 _ _ (hQ _ _ ?_)))));refine Zob ⟨4,[]⟩ ?_;rw[idxB_at (p:=fun i=>z4f (hdN (cnd cs i)).word x.word lv) h16 (by omega) hi2];exact⟨rfl,by trivial⟩
  intro h16
  try replace h16:=Znb h16
  refine z7 (za (hN1 _ _ (Zrg [0,1,7,8] (za (hL1 _ _ ?_)))));rw[iS i];refine⟨i+1,⟨⟨by omega,fun q hq=> ?_⟩,by omega⟩,id,(have xE:=aj @ndBox.eq_1 @lvBox.eq_1;Zgx id)⟩
  by_cases e:q=i
  ·subst e;exact h16
  exact hi2 q (by omega)
 intro h9;obtain⟨hi1,hi2⟩:=hi;refine zk (hEL1 _ _ _ (hX0 _ _ (Zrs [4] (zb (hQ _ _ ?_)))));refine Zob ⟨4,[]⟩ ?_;rw[z64 (p:=fun i=>z4f (hdN (cnd cs i)).word x.word lv) fun q hq=>hi2 q (by omega)];exact⟨rfl,by trivial⟩
end Go.Proofs
namespace Go.Sk
open Go.RowKit
def shP (ρ:Nat->Nat)(f:Nat)(μ:Nat->Nat):Pn:=fun id k=>(ρ id,if id=f then μ k else k)
structure GpQ (X:Cx) (π:Pn) (fr:Fr) (H:AH) (fr1:Fr) (H1:AH):Prop where
 a1:frGivesP π H1.nxt fr fr1
 a4:ownU H1.os
 a7:∀x∈H.os,x.1<X.m0->∀k,(x.2.2 k).own=(x.2.2 0).own
 a8:keepB X.m0 H.os H1.os
structure GpR (X:Cx) (ρ:Nat->Nat) (f:Nat) (H1:AH):Prop where
 a3:injB ρ H1.os=true
 a5:(List.range X.m0).all (fun id=>ρ id==id)=true
 a6:X.m0<=H1.nxt
 a6f:X.m0<=f
 a9:bigB X.m0 ρ H1.os=true
structure GpA (X:Cx) (ρ:Nat->Nat) (a:Nat) (H1:AH):Prop where
 a4a:(H1.os.all fun x=> !(ρ x.1==a))=true
 a6a:X.m0<=a
def gpS {X:Cx}{fr:Fr}{H:AH}{fr1:Fr}{H1:AH}(ρ:Nat->Nat)(f j a:Nat)(a2:z1g ρ f j a H1.nxt H.os H1.os)(q:GpQ X (mvP ρ f j a) fr H fr1 H1)(r:GpR X ρ f H1)(t:GpA X ρ a H1):z5n X (mvP ρ f j a) fr H fr1 H1:=
 z5n.mk' ρ f j a q.a1 a2 r.a3 q.a4 t.a4a r.a5 r.a6 r.a6f t.a6a q.a7 q.a8 r.a9
end Go.Sk
namespace Go.Sk
open Go.RowKit Go.Proofs
def Zu {a:Prop}(h:a:=by simp[frGivesP,Sk.get,SV.renP,SV.renPL,mvP,shP,SV.lt,SV.ltL,ownU,uQ,rO,rI,rV,keepB,Sk.find,Obj.own.eq_1,Obj.own.eq_2,Obj.own.eq_3,Obj.own.eq_4,gxE]):a:=h
def Zgp {X:Cx}{fr:Fr}{H:AH}{fr1:Fr}{H1:AH}(ρ:Nat->Nat)(f j a:Nat)(a2:z1g ρ f j a H1.nxt H.os H1.os)(q:GpQ X (mvP ρ f j a) fr H fr1 H1:=by constructor<;>exact Zu)(r:GpR X ρ f H1:=by exact⟨rfl,rfl,qb rfl,qb rfl,rfl⟩)(t:GpA X ρ a H1:=by exact⟨rfl,qb rfl⟩):z5n X (mvP ρ f j a) fr H fr1 H1:=gpS ρ f j a a2 q r t
end Go.Sk
namespace Go.Proofs
open Tryz
open Go.Sk
section
def insC_len (lv:Int)(x:Nd):∀cs:List (List Nd),(insC lv x cs).length<=cs.length+1
 |[]=>qd _
 |c::cs=>by
  rw[insC];split
  ·simp
  have:=insC_len lv x cs;simp;omega
def clsG_snoc (lv:Int)(l:List Nd)(x:Nd)(cs:List (List Nd)):clsG lv (l++[x]) cs=insC lv x (clsG lv l cs):=by simp[clsG]
def insC_new {lv:Int}{x:Nd}:∀{cs:List (List Nd)},(∀q,q<cs.length->z4f (hdN (cnd cs q)).word x.word lv=false)->insC lv x cs=cs++[[x]]
 |[],_=>rfl
 |c::cs,h=>by
  have h0:=h 0 (by simp);rw[insC,qc (by rw[show hdN c=hdN (cnd (c::cs) 0) from rfl,h0];exact qh),insC_new fun q hq=>h (q+1) (by simp;omega)]
  rfl
def insC_old {lv:Int}{x:Nd}:∀{cs:List (List Nd)} {k:Nat},k<cs.length->z4f (hdN (cnd cs k)).word x.word lv=true->(∀q,q<k->z4f (hdN (cnd cs q)).word x.word lv=false)->insC lv x cs=cs.set k (cnd cs k++[x])
 |[],k,h,_,_=>by simp at h
 |c::cs,0,_,h,_=>by rw[insC,qe (by exact h)];rfl
 |c::cs,k+1,hk,h,h2=>by
  have h0:=h2 0 (by omega);rw[insC,qc (by rw[show hdN c=hdN (cnd (c::cs) 0) from rfl,h0];exact qh),insC_old (k:=k) (by simpa using hk) h fun q hq=>h2 (q+1) (by omega)]
  rfl
def clsG_len' (lv:Int):∀(l:List Nd) (cs:List (List Nd)),(clsG lv l cs).length<=cs.length+l.length
 |[],cs=>qd _
 |x::l,cs=>by
  have h1:=clsG_len' lv l (insC lv x cs);have h2:=insC_len lv x cs
  show(clsG lv l (insC lv x cs)).length<=_
  simp;omega
def clsG_len (lv:Int)(xs:List Nd){i:Nat}(hi:i<=xs.length){cs:List (List Nd)}(h:clsG lv (xs.take i) []=cs):cs.length<=i:=by
 have:=clsG_len' lv (xs.take i) [];rw[h] at this;simp at this;omega
def ec28:=aj @app_at @rows_nil1
def InFm.exE:=aj9 @zd @zf @zg @zm @zi z58 @zn z3g (aj7 z3w ec28 ec21 ec22 @z2i ec23 ec24)
def ec29:=aj @fam_g0 @fam_l0
def InFm.gxE:=aj7 z3g ec16 z3w ec21 ec25 ec26 ec29
def InFm.axE:=aj9 @zd @zf @zg @zm @zi z58 @zn z3g (aj9 z3w ec28 ec21 ec22 @z2i ec24 @z21 @z38 ec27)
open InFm (gxE axE exE)
open D0 (oxE sdE)
def classes_spec (xs:List Nd)(n:Nat)(hn:xs.length=n)(lv:Int)(hx:n<=1000000):
  zj prog 88 [.slc false 0 0 0 n,.int .i64 lv] ⟨1,[(0,rI 62 3 n (nds xs))]⟩
   (fun s H1=>s= .slc true 1 0 0 (z54 xs lv).length/\H1=⟨3,[(1,rO 23 1 ((z54 xs lv).length) (clR true 2 (z54 xs lv))),(2,((z54 xs lv).length+1,fam true 62 3 (clF true (z54 xs lv))))]⟩):=by
 subst hn;refine Zf false 39 [.tmp 4] func88 ntmps88 results88 fun w0 own0 β0 Q hQ hQn=> ?_;refine Zrs [0,3] (z6 ?_);refine Zrs [0,3,10] ?_;refine Zcn ?_ ?_
 ·intro h10;refine Zrs [4] (z2f 4 23 1 (clR true 3 []) rfl ?_);dsimp only;refine z29 62 3 (clF true []) ?_;dsimp only;refine zb (hQ _ _ ?_);rw[show z54 xs lv=[] by rw[z54,qe h10]];exact Zos (fun q=>if q=1 then 2 else if q=2 then 3 else q) (.slc true 1 0 0 ([]:List (List Nd)).length) (⟨3,[(1,rO 23 1 (([]:List (List Nd)).length) (clR true 2 [])),(2,(([]:List (List Nd)).length+1,fam true 62 3 (clF true [])))]⟩)
 intro h10;refine z7 (Zrs [0,3,5] (z6 ?_));refine Zrs [3,5,11,12,13] (z2f 5 23 1 (clR true 3 []) rfl ?_);dsimp only;refine z29 62 3 (clF true []) ?_;dsimp only;refine z8 fun Q0 hN0 hX0 hR0 hE0=> ?_;refine zl (σ:=Nat) (fun i=>i<=xs.length) (fun i=>xs.length-i) (fun i=>[(3,.ptr 1 0 0 0),(5,.slc true 2 0 0 (clsG lv (xs.take i) []).length),(11,.slc false 0 0 0 xs.length),(12,.int .i64 xs.length),(13,.int .i64 i)]) (fun i=>⟨4,[(2,rO 23 1 ((clsG lv (xs.take i) []).length) (clR true 3 (clsG lv (xs.take i) []))),(3,((clsG lv (xs.take i) []).length+1,fam true 62 3 (clF true (clsG lv (xs.take i) [])))),(1,rV 3 1 1 (fun _=>[.int .i64 lv])),(0,rI 62 3 xs.length (nds xs))]⟩) 0 (ql _) (ρ:=id) (have xE:=@clsG.eq_1;Zgx id) ?_;rintro i hi QL1 hL1 hRL1 hEL1;refine Zrs [3,5,11,12,13,14] (z6 ?_);refine Zcm ?_ ?_
 ·intro h14;replace h14:=Znb h14;have hok:=clsG_ok (by omega:lv<=16) (xs.take i) (s:=[]) (cs:=[]) ⟨fun c h=>(by cases h),fun c h=>(by cases h),Ju⟩ fun y h=>(by cases h);obtain⟨cs,hcs⟩:∃cs,clsG lv (xs.take i) []=cs:=⟨_,rfl⟩;rw[hcs] at hok ⊢;have hne:∀k,k<cs.length->cnd cs k≠[]:=fun k hk=>by rw[cnd_lt hk];exact hok.1.ne _ (qK hk)
  have hcl:cs.length<=i:=clsG_len lv xs hi hcs;refine z7 (z6 ?_);refine z8 fun Q1 hN1 hX1 hR1 hE1=> ?_;refine Zrs [3,5,7,11,12,13] ?_;refine sg [3,5,7,8,11,12,13] rfl ?_;intro K hK;iterate 2 (refine Zo Zl ?_)
  refine Zd Zl (clsIndex_spec cs cs.length rfl (nd xs i) lv (by omega) hne) (fun q=>if q=0 then 2 else if q=1 then 3 else if q=2 then 4 else 1) ?_;refine Zkl hK ?_;clear hK K;refine z6 (Zrs [3,5,7,8,11,12,13,21] ?_);refine Zcm ?_ ?_
  ·intro h21
   have hnone:∀q,q<cs.length->z4f (hdN (cnd cs q)).word (nd xs i).word lv=false:=by
    rcases z3j cs.length (fun q=>z4f (hdN (cnd cs q)).word (nd xs i).word lv) with⟨_,h⟩|⟨j,h,_⟩
    ·exact h
    simp only[h,qm] at h21;omega
   refine Zrs [3,5,7,8,11,12,13] ?_;refine Zrg [3,5,7,8,11,12,13] ?_;refine Zrd [3,5,11,12,13] [0,1,2,3,4,5,6,7,8,9,10] (ws 0 [(10,[6])]) (ws 0 [(10,[6])]) ?_;intro K hK;iterate 10 (refine Zo (Zi [] []) ?_)
   refine Zo (Zi [6] [6]) ?_;refine zz (Zpr (hK _ _ ?_));clear hK K;refine za (hN1 _ _ ?_);have hins:insC lv (nd xs i) cs=cs++[[nd xs i]]:=insC_new hnone
   have hout:∀q,q<cs.length+1->(if q=cs.length then [SV.slc true 8 0 0 1] else app (clR true 3 cs) cs.length (z3y 1 1 [SV.nils]) q)=SV.renPL (mvP (fun q=>if q=2 then 6 else q) 3 cs.length 8) (clR true 3 (cs++[[nd xs i]]) q):=fun q hq=>by
    rw[clR_renP]
    split
    ·rename_i e;subst e;rw[cnd_last];rfl
    rw[cnd_append (by omega),app,qe (by omega)];rfl
   refine z2y (fr':=[(3,.ptr 1 0 0 0),(5,.slc true 2 0 0 (cs.length+1)),(11,.slc false 0 0 0 xs.length),(12,.int .i64 xs.length),(13,.int .i64 i)]) (H':=⟨4,[(2,rO 23 1 (cs.length+1) (clR true 3 (cs++[[nd xs i]]))),(3,(cs.length+1+1,fam true 62 3 (clF true (cs++[[nd xs i]])))),(1,rV 3 1 1 (fun _=>[.int .i64 lv])),(0,rI 62 3 xs.length (nds xs))]⟩) _ (Zgp (fun q=>if q=2 then 6 else q) (3) (cs.length) (8) (z17 rfl qf (by decide) (ze.of (fun _=>⟨rfl,rfl⟩) rfl (qd _) hout) (Obj.lt_row.2 fun q _=>(clR_lt _ _ _ _ q).2 (qb rfl)) (qb rfl) (z47 rfl rfl qf ⟨fun _=>⟨rfl,rfl⟩,rfl⟩ (QW _) (fun q hq hne=>⟨by omega,clF_givesP _ _ _ _ _ _ id (cnd_append (by omega)),clFm_lt _ _ _ _⟩) (clF_newP _ _ _ _ _ rfl (cnd_last _ _)) (clFm_lt _ _ _ _) (qb rfl) (z17 rfl qf (by decide) (ze.of (fun _=>⟨rfl,rfl⟩) rfl (qd _) fun _ _=>rfl) (Obj.lt_row.2 fun q _=>by simp[SV.ltL,SV.lt]) (qb rfl) (z17 rfl qf (by decide) (ze.of (fun h=>by cases h) rfl (qd _) fun q _=>(z28 _ _ q).symm) (Obj.lt_row.2 fun q _=>z4e _ _ q) (qb rfl) trivial))))) ?_;refine Zrg [3,5,11,12,13] (za (hL1 _ _ ?_));have hstep:clsG lv (xs.take (i+1)) []=cs++[[nd xs i]]:=by rw[take_nd (by omega),clsG_snoc,hcs,hins]
   rw[iS i];refine⟨i+1,⟨by omega,by omega⟩,id,?_⟩;simp only[hstep,qX,Qn];exact(Zg id)
  intro h21
  obtain⟨k,hk1,hk2,hk3,hk4⟩:∃k:Nat,idxB cs.length (fun q=>z4f (hdN (cnd cs q)).word (nd xs i).word lv)=k/\k<cs.length/\z4f (hdN (cnd cs k)).word (nd xs i).word lv=true/\∀q,q<k->z4f (hdN (cnd cs q)).word (nd xs i).word lv=false:=by
   rcases z3j cs.length (fun q=>z4f (hdN (cnd cs q)).word (nd xs i).word lv) with⟨h,_⟩|⟨j,h,h2,h3,h4⟩
   ·simp[h] at h21
   exact⟨j,h,h2,h3,h4⟩
  rw[hk1]
  have hml:(cnd cs k).length<=i:=by
   have h1:=hok.1.eq (cnd cs k) (by rw[cnd_lt hk2];exact qK hk2);have h2:(grpW ([]++xs.take i) lv (hdN (cnd cs k)).word).length<=([]++xs.take i).length:=jd ..;rw[<-h1] at h2;simp at h2;omega
  refine z7 ?_;refine Zrd [3,5,11,12,13] [0,1,2,3,4,5,6,7,8,9,10] (ws 0 [(8,[3]),(10,[2])]) (ws 0 [(0,[3]),(1,[3]),(8,[3]),(9,[3]),(10,[2,3])]) ?_;intro K hK;iterate 2 (refine Zo (Zi [] [3]) ?_)
  iterate 6 (refine Zo (Zi [] []) ?_)
  refine Zo (Zi [3] [3]) ?_;refine Zo (Zi [] [3]) ?_;refine Zo (Zi [2] [2,3]) ?_;refine zz (Zpr (hK _ _ ?_));clear hK K;refine za (hN1 _ _ ?_);have hins:=insC_old hk2 hk3 hk4
  have hout:∀q,q<cs.length->(if q=k then [SV.slc true 6 0 0 ((cnd cs k).length+1)] else clR true 3 cs q)=SV.renPL (mvP id 3 k 6) (clR true 3 (cs.set k (cnd cs k++[nd xs i])) q):=fun q hq=>by
   rw[clR_renP,cnd_set _ _ _ _ hk2]
   split
   ·simp
   rfl
  refine z2y (fr':=[(3,.ptr 1 0 0 0),(5,.slc true 2 0 0 cs.length),(11,.slc false 0 0 0 xs.length),(12,.int .i64 xs.length),(13,.int .i64 i)]) (H':=⟨4,[(2,rO 23 1 cs.length (clR true 3 (cs.set k (cnd cs k++[nd xs i])))),(3,(cs.length+1,fam true 62 3 (clF true (cs.set k (cnd cs k++[nd xs i]))))),(1,rV 3 1 1 (fun _=>[.int .i64 lv])),(0,rI 62 3 xs.length (nds xs))]⟩) _ (Zgp (id) (3) (k) (6) (z17 rfl qf (by decide) (ze.of (fun _=>⟨rfl,rfl⟩) rfl (qd _) hout) (Obj.lt_row.2 fun q _=>(clR_lt _ _ _ _ q).2 (qb rfl)) (qb rfl) (z47 rfl rfl qf ⟨fun _=>⟨rfl,rfl⟩,rfl⟩ (QW _) (fun q hq hne=>⟨by omega,by rw[qc hne];exact clF_givesP _ _ _ _ _ _ id (by rw[cnd_set _ _ _ _ hk2,qc hne]),clFm_lt _ _ _ _⟩) (clF_newP _ _ _ _ _ (by simp) (by rw[cnd_set _ _ _ _ hk2,qe rfl])) (clFm_lt _ _ _ _) (qb rfl) (z17 rfl qf (by decide) (ze.of (fun _=>⟨rfl,rfl⟩) rfl (qd _) fun _ _=>rfl) (Obj.lt_row.2 fun q _=>by simp[SV.ltL,SV.lt]) (qb rfl) (z17 rfl qf (by decide) (ze.of (fun h=>by cases h) rfl (qd _) fun q _=>(z28 _ _ q).symm) (Obj.lt_row.2 fun q _=>z4e _ _ q) (qb rfl) trivial))))) ?_;refine Zrg [3,5,11,12,13] (za (hL1 _ _ ?_));have hstep:clsG lv (xs.take (i+1)) []=cs.set k (cnd cs k++[nd xs i]):=by rw[take_nd (by omega),clsG_snoc,hcs,hins]
  rw[iS i];refine⟨i+1,⟨by omega,by omega⟩,id,?_⟩;simp only[hstep,qy];exact(Zg id)
 intro h14;refine zk (hEL1 _ _ _ (hX0 _ _ (Zrs [4] (zb (hQ _ _ ?_)))))
 have he:clsG lv (xs.take i) []=z54 xs lv:=by
  have h14':¬(i:Int)<xs.length:=by simpa using h14
  rw[Qj (by omega),z54,qc (by omega)]
 rw[he];exact Zos (fun q=>if q=1 then 2 else if q=2 then 3 else q) (.slc true 1 0 0 (z54 xs lv).length) (⟨3,[(1,rO 23 1 ((z54 xs lv).length) (clR true 2 (z54 xs lv))),(2,((z54 xs lv).length+1,fam true 62 3 (clF true (z54 xs lv))))]⟩)
end
structure Lk where
 id:Int
 lv:List (Int×Int)
deriving DecidableEq
def noLk:Lk:=⟨0,[]⟩
def lk (l:List Lk)(i:Nat):Lk:=l.getD i noLk
def pI (p:List (Int×Int))(i:Nat):Int×Int:=p.getD i (0,0)
def lk_lt {l:List Lk}{i:Nat}(h:i<l.length):lk l i=l[i]:=by simp[lk,List.getD,h]
def pI_lt {l:List (Int×Int)}{i:Nat}(h:i<l.length):pI l i=l[i]:=by simp[pI,List.getD,h]
def lstG (s:List Nd)(lv:Int):List (List Int):=(z54 s lv).map fun c=>c.map (·.id)
section
def insAt (l:List Nd)(k:Nat)(x:Nd):List Nd:=l.take k++[x]++l.drop k
def insAt_length {l:List Nd}{k:Nat}{x:Nd}(h:k<=l.length):(insAt l k x).length=l.length+1:=by
 simp[insAt];omega
def nd_insAt {l:List Nd}{k:Nat}{x:Nd}(h:k<=l.length)(q:Nat):nd (insAt l k x) q=if q<k then nd l q else if q=k then x else nd l (q-1):=by
 by_cases h1:q<k
 ·rw[qe h1,insAt,z5s (by simp;omega),z5s (by simp;omega)];simp only[nd,List.getD,Qb,qe h1]
 rw[qc h1]
 by_cases h2:q=k
 ·subst h2;rw[qe rfl,insAt,z5s (by simp;omega),nd_append_ge (by simp;omega)];simp only[qN,QX h,QV];rfl
 rw[qc h2,insAt,nd_append_ge (by simp;omega)];simp only[nd,List.getD,QR,qX,qN,Qn,QX h]
 congr 2;omega
def ins_srt {l:List Nd}{k:Nat}{x:Nd}(h:k<=l.length)(hs:Srt 0 l.length (nd l))(hlo:0<k->¬Lt x (nd l (k-1)))(hhi:∀q,k<=q->q<l.length->Lt x (nd l q)):Srt 0 (insAt l k x).length (nd (insAt l k x))/\Stb (l++[x]) (insAt l k x):=by
 refine⟨srt_of_next fun q _ hq=> ?_,?_⟩
 ·rw[insAt_length h] at hq;rw[nd_insAt h,nd_insAt h]
  by_cases c1:q+1<k
  ·rw[qe c1,qe (by omega)];exact hs q (q+1) (by omega) (by omega) (by omega)
  rw[qc c1]
  by_cases c2:q+1=k
  ·rw[qe c2,qe (by omega)];have:=hlo (by omega);rwa [show k-1=q by omega] at this
  rw[qc c2,qc (show¬q<k by omega)]
  by_cases c3:q=k
  ·rw[qe c3];exact fun hh=>Lt.irrefl _ (hh.trans (hhi _ (by omega) (by omega)))
  rw[qc c3];exact hs _ _ (by omega) (by omega) (by omega)
 have:=stb_blocks (A:=l.take k) (B:=l.drop k) (C:=[x]) (D:=[]) (fun b hb c hc=>by
  obtain⟨q,hq,rfl⟩:=Qk hb;simp only[qU] at hc;subst hc;simp only[QO] at hq;simp only[jx];have:=hhi (k+q) (by omega) (by omega)
  rwa [z4z (by omega)] at this)
 simpa [insAt,JC] using this
def gtN_eq (a b:Nd):(!(sLt a.key b.key||sEq a.key b.key)||(sEq a.key b.key && decide (b.id<a.id)))=ltN b a:=by
 rw[qY,ltN_iff];simp only[Lt,qt,qj,qn,qk,qm,z5l,qg]
 constructor
 ·rintro(⟨h1,h2⟩|⟨h1,h2⟩)
  ·left
   cases h:sLt b.key a.key with
   |true=>rfl
   |false=>exact absurd (ba_ext (bl_eq h1 h)) h2
  exact .inr ⟨h1.symm,h2⟩
 rintro(h1|⟨h1,h2⟩)
 ·left
  refine⟨?_,fun e=> ?_⟩
  ·cases h:sLt a.key b.key with
   |false=>rfl
   |true=>
    have:=bl_trans h h1;rw[bl_irr] at this
    cases this
  rw[e] at h1;simp[sLt,bl_irr] at h1
 exact .inr ⟨h1.symm,h2⟩
def ins_rows {ys:List Nd}{k:Nat}(hk:k<=ys.length)(x:Nd){q:Nat}(hq:q<ys.length+1):
  (if q=k then SV.int .i64 x.id:: .str x.key:: .int .u32 x.word::List.drop 3 (z69 (nds (ys++[⟨0,⟨#[]⟩,0⟩])) (k+1) (min (ys.length+1-k) (ys.length-k)) (srcF (nds (ys++[⟨0,⟨#[]⟩,0⟩])) k) k)
   else z69 (nds (ys++[⟨0,⟨#[]⟩,0⟩])) (k+1) (min (ys.length+1-k) (ys.length-k)) (srcF (nds (ys++[⟨0,⟨#[]⟩,0⟩])) k) q)=[SV.int .i64 (nd (insAt ys k x) q).id,.str (nd (insAt ys k x) q).key,.int .u32 (nd (insAt ys k x) q).word]:=by
 have hm:min (ys.length+1-k) (ys.length-k)=ys.length-k:=by omega
 rw[hm,nd_insAt hk]
 by_cases c1:q=k
 ·subst c1;rw[qe rfl,qc (by omega),qe rfl];simp only[z69];rw[qc (by omega)]
  rfl
 rw[qc c1];simp only[z69,srcF]
 by_cases c2:q<k
 ·rw[qc (by omega),qe c2];simp only[nds,Nd.sv];rw[z5s (by omega)]
 rw[qe (by omega),qc c2,qc c1];simp only[nds,Nd.sv];rw[show k+(q-(k+1))=q-1 by omega,z5s (by omega)]
def RotBm.exE:=aj9 @zd @zf @zo @zh @zx @z10 @zg @zm (aj9 @zi z58 @zn z3g z3w @z1a.eq_1 @zu.eq_1 @ints.eq_1 (aj4 @idsBox.eq_1 @app_nds ec24 @z11))
def RotBm.gxE:=aj7 z3g ec16 z3w @z1a.eq_1 @zu.eq_1 @ints.eq_1 @idsBox.eq_1
open RotBm (gxE exE)
open D0 (oxE sdE)
def refSort_spec (xs:List Nd)(n:Nat)(hn:xs.length=n)(hx:n<=1000000):
  zj prog 131 [.slc false 0 0 0 n] ⟨1,[(0,rI 62 3 n (nds xs))]⟩
   (fun s H1=>s= .slc true 1 0 0 n/\H1=⟨2,[(1,rO 62 3 n (nds (z4w xs)))]⟩):=by
 subst hn;refine Zf false 80 [.tmp 2] func131 ntmps131 results131 fun w0 own0 β0 Q hQ hQn=> ?_;refine Zrs [0] ?_;refine Zrs [0,3] (z6 ?_);refine Zrs [0,3,4] (z2f 3 62 3 (nds []) rfl ?_);dsimp only;refine z8 fun Q0 hN0 hX0 hR0 hE0=> ?_;refine zl (σ:=Nat×List Nd) (fun σ=>(σ.1<=xs.length/\σ.2.length=σ.1)/\Srt 0 σ.2.length (nd σ.2)/\Stb (xs.take σ.1) σ.2) (fun σ=>xs.length-σ.1) (fun σ=>[(0,.slc false 0 0 0 xs.length),(3,.slc true 1 0 0 σ.2.length),(4,.int .i64 σ.1)]) (fun σ=>⟨2,[(1,rO 62 3 σ.2.length (nds σ.2)),(0,rI 62 3 xs.length (nds xs))]⟩) (0,[]) ⟨⟨ql _,rfl⟩,fun p q _ _ h=>by simp at h,Stb.refl _⟩ (ρ:=id) (Zg id) ?_;rintro⟨i,ys⟩ hi QL1 hL1 hRL1 hEL1;refine z6 (Zrs [0,3,4,9] ?_);refine Zcn ?_ ?_
 ·intro h9;obtain⟨⟨hi1,hi2⟩,hi3,hi4⟩:=hi;dsimp only at hi1 hi2 hi3 hi4;refine z7 (z6 ?_);refine z8 fun Q1 hN1 hX1 hR1 hE1=> ?_;refine Zrs [0,3,4,5] (z6 ?_);refine z8 fun Q2 hN2 hX2 hR2 hE2=> ?_;refine zl (σ:=Nat) (fun k=>k<=ys.length/\∀q,k<=q->q<ys.length->Lt (nd xs i) (nd ys q)) (fun k=>k) (fun k=>[(0,.slc false 0 0 0 xs.length),(3,.slc true 1 0 0 ys.length),(4,.int .i64 i),(5,.int .i64 k)]) (fun _=>⟨2,[(1,rO 62 3 ys.length (nds ys)),(0,rI 62 3 xs.length (nds xs))]⟩) ys.length ⟨qd _,fun q _ _=>by omega⟩ (ρ:=id) (Zg id) ?_;rintro k hk QL2 hL2 hRL2 hEL2;refine z6 (z6 (Zrq [0,3,4,5,57] [0,1,2,3,4,5,6,7,8,9,10,11,12,13,14,15,16,17,18,19,20,21,22,23,24,25,26,27,28,29,30,31,32,33,34,35,36,37,38,39,40,41,42,43] ?_));refine Zcn ?_ ?_
  ·intro h57;obtain⟨hk1,hk2⟩:=hk
   have hgt:Lt (nd xs i) (nd ys (k-1)):=by
    rw[<-ltN_iff,<-gtN_eq];have:=h57.2;rw[show((k:Int)-1).toNat=k-1 from by omega] at this;simpa using this
   refine z7 ?_;refine z8 fun Q3 hN3 hX3 hR3 hE3=> ?_;refine Zrg [0,3,4,5] (za (hN3 _ _ (za (hL2 _ _ ?_))));rw[show(k:Int)-1=((k-1:Nat):Int) from by omega];refine⟨k-1,⟨⟨by omega,fun q hq hq2=> ?_⟩,by omega⟩,id,(Zg id)⟩
   by_cases e:q=k-1
   ·subst e;exact hgt
   exact hk2 q (by omega) hq2
  intro h57;obtain⟨hk1,hk2⟩:=hk
  have hle:0<k->¬Lt (nd xs i) (nd ys (k-1)):=fun hk0=>by
   rw[<-ltN_iff,<-gtN_eq];have:=h57 (by omega);rw[show((k:Int)-1).toNat=k-1 from by omega] at this;intro hc;replace hc:=Znb hc;rcases hc with⟨h1,h2⟩|⟨h1,h2⟩
   ·simp[h1,h2] at this
   simp[h1] at this;omega
  refine zk (hEL2 _ _ _ (hX2 _ _ (Zrs [0,3,4,5] (z6 ?_))));refine Zrd [0,3,4,5] [0,1,2,3,4,5,6,7] (ws 0 [(7,[3])]) (ws 0 [(7,[3])]) ?_;intro K hK;iterate 7 (refine Zo (Zi [] []) ?_)
  refine Zo (Zi [3] [3]) ?_;rw[show((k:Int)+1).toNat=k+1 from by omega];refine Zad ?_;refine zz (Zpr (hK _ _ ?_));clear hK K;refine Zrg [0,3,4] (za (hN1 _ _ ?_));refine Zrg [0,3,4] (za (hL1 _ _ ?_));rw[iS i];have hins:=ins_srt hk1 hi3 hle hk2;have hlen:=insAt_length (x:=nd xs i) hk1
  have hst:Stb (xs.take (i+1)) (insAt ys k (nd xs i)):=by
   rw[take_nd (by omega)];refine Stb.trans (fun kk ii=> ?_) hins.2;rw[jr,jr,hi4]
  refine⟨(i+1,insAt ys k (nd xs i)),⟨⟨⟨by dsimp only;omega,by dsimp only;omega⟩,hins.1,hst⟩,by dsimp only;omega⟩,fun j=>if j=1 then 3 else j,?_⟩;simp only[hlen];exact(gvS (fun j=>if j=1 then 3 else j) ⟨Zs,(by simp[z5o,Sk.find,uQ,rO,rI,rV,rO,rI,rV,z1e.eq_1,z1e.eq_2,z1e.eq_3,z4a,SV.renL,SV.ren,Obj.lt_row,SV.ltL,SV.lt,gxE];exact fun q hq=>ins_rows hk1 (nd xs i) hq),Zs,Zs,Zs⟩ ⟨rfl,rfl,qb rfl,rfl⟩)
 intro h9;obtain⟨⟨hi1,hi2⟩,hi3,hi4⟩:=hi;dsimp only at hi1 hi2 hi3 hi4;refine zk (hEL1 _ _ _ (hX0 _ _ (Zrs [2] (zb (hQ _ _ ?_)))));have hyl:ys.length=xs.length:=by omega
 have hys:ys=z4w xs:=srtN_unique (by have:=hi4;rwa [show i=xs.length by omega,jf] at this) hi3;rw[hyl,hys];exact Zoc (⟨2,[(1,rO 62 3 xs.length (nds (z4w xs)))]⟩)
end
def Stb.perm {xs ys:List Nd}(h:Stb xs ys):xs.Perm ys:=by
 rw[List.perm_iff_count];intro x
 have h1:∀l:List Nd,l.count x=(l.filter (cls x.key x.id)).count x:=fun l=>by
  rw[List.count_filter];simp[cls]
 exact(h1 xs).trans ((Qv (List.count x) (h x.key x.id)).trans (h1 ys).symm)
def z26 (xs:List Nd):xs.Perm (z4w xs):=(srtN_stb xs).perm
def anyB_iff {n:Nat}{p:Nat->Bool}:anyB n p=false↔∀i,i<n->p i=false:=⟨fun h i hi=>anyB_elim h hi,z1q⟩
def good_iff (xs:List Nd):z1t xs=0↔xs.length<=64/\(∀x∈xs,badN x=false)/\xs.Pairwise fun a b=>twinN a b=false:=by
 rw[z1t]
 by_cases c1:64<xs.length
 ·rw[qe c1];exact⟨fun h=>by omega,fun h=>by omega⟩
 rw[qc c1]
 cases c2:anyB xs.length (fun i=>badN (nd xs i)) with
 |true=>
  rw[qe rfl];refine⟨fun h=>by omega,fun h=> ?_⟩;rw[z1q fun i hi=>by rw[z4z hi];exact h.2.1 _ (qK hi)] at c2
  cases c2
 |false=>
  rw[qc qh];rw[anyB_iff] at c2
  cases c3:anyB xs.length (fun i=>anyB i fun k=>twinN (nd xs k) (nd xs i)) with
  |true=>
   rw[qe rfl];refine⟨fun h=>by omega,fun h=> ?_⟩
   rw[z1q fun i hi=>z1q fun k hk=>by
    rw[z4z hi,z4z (show k<xs.length by omega)]
    exact Qd.1 h.2.2 k i (by omega) hi hk] at c3
   cases c3
  |false=>
   rw[qc qh];rw[anyB_iff] at c3;refine⟨fun _=>⟨by omega,fun x hx=> ?_,Qd.2 fun k i hk hi hki=> ?_⟩,fun _=>rfl⟩
   ·obtain⟨i,hi,rfl⟩:=Qk hx;have:=c2 i hi;rwa [z4z hi] at this
   have:=anyB_iff.1 (c3 i hi) k hki;rwa [z4z hi,z4z hk] at this
def good_perm {xs ys:List Nd}(h:xs.Perm ys)(hg:z1t xs=0):z1t ys=0:=by
 rw[good_iff] at*;obtain⟨h1,h2,h3⟩:=hg;refine⟨by rw[<-h.length_eq];exact h1,fun x hx=>h2 x (h.mem_iff.2 hx),?_⟩;exact(h.pairwise_iff (R:=fun a b=>twinN a b=false) (fun {x y} hh=>by rw[twinN_comm];exact hh)).1 h3
def twinN_false {a b:Nd}(h:twinN a b=false):a.id≠b.id/\a.key≠b.key:=by
 simp only[twinN,z5l,qk,qg] at h;exact h
def nd_mem {xs:List Nd}{i:Nat}(h:i<xs.length):nd xs i∈xs:=by rw[z4z h];exact qK h
def good_sub {xs ys:List Nd}(h:ys.Sublist xs)(hg:z1t xs=0):z1t ys=0:=by
 rw[good_iff] at*;obtain⟨h1,h2,h3⟩:=hg;exact⟨qR h.length_le h1,fun x hx=>h2 x (h.mem hx),h3.sublist h⟩
section
def Tryz.tyIntss:z1o prog 78=⟨true,.slice 22,1,24,[]⟩:=by kernel_rfl
def Tryz.szIntss:z2m prog 78=1:=by kernel_rfl
def Tryz.zInts:z3d prog 22=some [.nils]:=by kernel_rfl
def z1u (m:Nat)(l:List Int)(i:Nat):SV.ltL m (ints l i):=by simp[ints,SV.ltL,SV.lt]
def z2q (π:Pn)(xs:List Int)(i:Nat):SV.renPL π (ints xs i)=ints xs i:=by simp[ints,SV.renPL,SV.renP]
def ind (cs:List (List Int))(i:Nat):List Int:=cs.getD i []
def ilR (g:Bool)(f:Nat)(cs:List (List Int)):Nat->List SV:=fun i=>[.slc g f (i+1) 0 (ind cs i).length]
def ilF (o:Bool)(cs:List (List Int)):Nat->Sk.Obj:=fun i=> .row ⟨o,false,3,1,(ind cs i).length,ints (ind cs i)⟩
def ilR_ap (g:Bool)(f:Nat)(cs:List (List Int))(i:Nat):ilR g f cs i=[.slc g f (i+1) 0 (ind cs i).length]:=rfl
def ilR_fold (g:Bool)(f:Nat)(cs:List (List Int)):(fun i=>[SV.slc g f (i+1) 0 (ind cs i).length])=ilR g f cs:=rfl
def ilF_ap (o:Bool)(cs:List (List Int))(i:Nat):ilF o cs i= .row ⟨o,false,3,1,(ind cs i).length,ints (ind cs i)⟩:=rfl
def ilR_ren (ρ:Nat->Nat)(g:Bool)(f:Nat)(cs:List (List Int)):(fun i=>SV.renL ρ (ilR g f cs i))=ilR g (ρ f) cs:=by funext i;simp[ilR,SV.renL,SV.ren]
def ilR_ren' (ρ:Nat->Nat)(g:Bool)(f:Nat)(cs:List (List Int))(i:Nat):SV.renL ρ (ilR g f cs i)=ilR g (ρ f) cs i:=jv (ilR_ren ρ g f cs) i
def ilR_lt (m:Nat)(g:Bool)(f:Nat)(cs:List (List Int))(i:Nat):SV.ltL m (ilR g f cs i)↔f<m:=by simp[ilR,SV.ltL,SV.lt]
def ilF_gives (ρ:Nat->Nat)(o o':Bool)(cs:List (List Int))(i:Nat):z1e ρ (ilF o cs i) (ilF o' cs i)↔(o'=true->o=true):=by
 simp[ilF,z1e,z4a,z20]
def ilFm_lt (m:Nat)(o:Bool)(cs:List (List Int))(i:Nat):(ilF o cs i).lt m:=Obj.lt_row.2 fun q _=>z1u m _ q
def ilF_own (o:Bool)(cs:List (List Int))(i:Nat):(ilF o cs i).own=o:=rfl
def ilF_fown (o:Bool)(e:Go.TypeId)(sz:Nat)(cs:List (List Int))(k:Nat):(fam o e sz (ilF o cs) k).own=o:=fam_own1 (ilF_own o cs) k
def ilF_ren (ρ:Nat->Nat)(o:Bool)(cs:List (List Int)):(fun i=>(ilF o cs i).ren ρ)=ilF o cs:=by
 funext i;simp[ilF,Obj.ren,Row.ren,z1p]
def ilR_renP (ρ:Nat->Nat)(g:Bool)(f j a:Nat)(cs:List (List Int))(i:Nat):SV.renPL (mvP ρ f j a) (ilR g f cs i)=if i=j then [.slc g a 0 0 (ind cs i).length] else [.slc g (ρ f) (i+1) 0 (ind cs i).length]:=by
 simp only[ilR,SV.renPL,SV.renP,mvP,QQ,jT]
 split<;>rfl
def clR_renO (ρ:Nat->Nat)(g:Bool)(f j a h:Nat)(hh:h≠f)(cs:List (List Nd))(i:Nat):SV.renPL (mvP ρ f j a) (clR g h cs i)=clR g (ρ h) cs i:=by
 simp[clR,SV.renPL,SV.renP,mvP,hh]
def ilF_givesP (π:Pn)(o o':Bool)(cs cs':List (List Int))(i:Nat)(h:o'=true->o=true)(e:ind cs' i=ind cs i):zt π (ilF o cs i) (ilF o' cs' i):=⟨fun h2=>⟨h h2,rfl⟩,rfl,by rw[e];exact qd _,fun q _=>by rw[e];exact(z2q π _ q).symm⟩
def ilF_newP (π:Pn)(n:Nat)(l:List Int)(cs:List (List Int))(i:Nat)(hn:l.length=n)(e:ind cs i=l):zt π (.row ⟨true,false,3,1,n,ints l⟩) (ilF true cs i):=⟨fun _=>⟨rfl,rfl⟩,rfl,by rw[e,hn];exact qd _,fun q _=>by rw[e];exact(z2q π _ q).symm⟩
def ind_append {cs:List (List Int)}{c:List Int}{i:Nat}(h:i<cs.length):ind (cs++[c]) i=ind cs i:=by simp[ind,List.getD,QC h]
def ind_last (cs:List (List Int))(c:List Int):ind (cs++[c]) cs.length=c:=by simp[ind,List.getD]
def ind_lt {cs:List (List Int)}{i:Nat}(h:i<cs.length):ind cs i=cs[i]:=by simp[ind,List.getD,h]
def ec30:=aj @Tryz.tyIntss @Tryz.szIntss
def ec31:=aj @ilR_ap @ilF_ap
def InGm.exE:=aj9 @zd @zf @zg @zm @zi z58 @zn z3g (aj9 z3w ec28 ec22 @z2i ec23 ec24 ec30 @Tryz.zInts (aj8 @zh @zx @zo ec31 @ints.eq_1 @z18 @z2d @zu.eq_1))
def ec32:=aj5 @ilR_ren' @ilR_lt @ilF_gives @ilFm_lt @ilF_fown
def InGm.gxE:=aj9 z3g ec16 z3w ec25 ec26 ec29 ec32 @z20 (aj @z1u @zu.eq_1)
def ec33:=aj @ilF_ren @ilR_ren
def InGm.axE:=aj9 @zd @zf @zg @zm @zi z58 @zn z3g (aj9 z3w ec28 ec22 @z2i ec24 ec30 @Tryz.zInts @zh (aj9 @zx @zo @z18 @z2d @zu.eq_1 @z1p @z21 @z38 (aj ec27 ec33)))
open InGm (gxE axE exE)
open D0 (oxE sdE)
def ordered_spec (xs:List Nd)(n:Nat)(hn:xs.length=n)(hx:n<=20):
  zj prog 79 [.slc false 0 0 0 n] ⟨1,[(0,rI 62 3 n (nds xs))]⟩
   (fun s H1=>s= .tup [.slc true 1 0 0 n,.bool (decide (z1t xs=0))]/\H1=⟨2,[(1,rO 62 3 n (nds (z4w xs)))]⟩):=by
 refine Zf false 9 [.tmp 2,.tmp 3] func79 ntmps79 results79 fun w0 own0 β0 Q hQ hQn=> ?_;refine Zrs [0] ?_;refine sg [2,3] rfl ?_;intro K hK;refine Zo Zl ?_;refine Zd Zl (sort_spec xs n hn hx) (id) ?_;refine Zo Zl ?_;refine Zd Zl (check_spec xs n hn (by omega)) (id) ?_;refine Zkl hK ?_;clear hK K;refine zb (hQ _ _ ?_);refine Zob (⟨2,[(1,rO 62 3 n (nds (z4w xs)))]⟩) ?_
 all_goals first|trivial|exact⟨by rw[<-decide_eq];rfl,trivial⟩
def level_spec (n:Int):zj prog 50 [.int .i64 n] ⟨0,[]⟩ (fun s H1=>s= .bool (decide (0<=n) && decide (n<=16))/\H1=⟨0,[]⟩):=by
 refine Zf false 9 [.tmp 2] func50 ntmps50 results50 fun w0 own0 β0 Q hQ hQn=> ?_;refine Zrs [0] ?_;refine Zrs [2] (zb (hQ _ _ ?_));exact Zoc ⟨0,[]⟩
end
section
def lstN (xs:List Nd)(lv:Int):List (List Int):=if z1t xs=0/\0<=lv/\lv<=16 then lstG (z4w xs) lv else []
def lstG_len (s:List Nd)(lv:Int):(lstG s lv).length=(z54 s lv).length:=by simp[lstG]
def ind_lstG (s:List Nd)(lv:Int){i:Nat}(h:i<(z54 s lv).length):ind (lstG s lv) i=(cnd (z54 s lv) i).map (·.id):=by
 rw[ind_lt (by rw[lstG_len];exact h),cnd_lt h];simp[lstG]
def clsN_len (s:List Nd)(lv:Int):(z54 s lv).length<=s.length:=by
 unfold z54
 split
 ·simp
 have:=clsG_len' lv s [];simpa using this
def cnd_len (s:List Nd)(lv:Int)(i:Nat):(cnd (z54 s lv) i).length<=s.length:=by
 by_cases h:i<(z54 s lv).length
 ·have h16:lv<=16:=by
   by_cases g:16<lv
   ·rw[z54,qe g] at h;simp at h
   omega
  have:=(clsN_ok h16 s).1.eq (cnd (z54 s lv) i) (by rw[cnd_lt h];exact qK h);rw[this];exact jd ..
 have:cnd (z54 s lv) i=[]:=by simp[cnd,List.getD,Nat.not_lt.1 h]
 rw[this];simp
def app_intsN {xs ys:List Int}{n:Nat}(h:xs.length=n):app (ints xs) n (ints ys)=ints (xs++ys):=by subst h;exact z2d xs ys
def take_ind {ls:List (List Int)}{i:Nat}(h:i<ls.length):ls.take (i+1)=ls.take i++[ind ls i]:=by
 rw[ind_lt h,jp h]
def map_take_id {c:List Nd}{j:Nat}(h:j<c.length):(c.take (j+1)).map (·.id)=(c.take j).map (·.id)++[(nd c j).id]:=by
 rw[take_nd h,List.map_append];rfl
def InHm.exE:=aj9 @zd @zf @zg @zm @zi z58 @zn z3g (aj9 z3w ec28 ec22 @z2i ec23 ec30 @Tryz.zInts @zh (aj7 @zx @zo ec31 @ints.eq_1 @z18 @z2d @zu.eq_1))
def InHm.axE:=aj9 @zd @zf @zg @zm @zi z58 @zn z3g (aj9 z3w ec28 ec22 @z2i ec30 @Tryz.zInts @zh @zx (aj9 @zo @z18 @z2d @zu.eq_1 @z1p @z21 @z38 ec27 (aj3 @clR_fold ec33 @ilR_fold)))
open InGm (gxE)
open InHm (axE exE)
open D0 (oxE sdE)
def lists_spec (xs:List Nd)(n:Nat)(hn:xs.length=n)(lv:Int)(hx:n<=20):
  zj prog 48 [.slc false 0 0 0 n,.int .i64 lv] ⟨1,[(0,rI 62 3 n (nds xs))]⟩
   (fun s H1=>s= .slc true 1 0 0 (lstN xs lv).length/\H1=⟨3,[(1,rO 22 1 ((lstN xs lv).length) (ilR true 2 (lstN xs lv))),(2,((lstN xs lv).length+1,fam true 3 1 (ilF true (lstN xs lv))))]⟩):=by
 subst hn;have hsl:(z4w xs).length=xs.length:=(z26 xs).length_eq.symm;refine Zf false 54 [.tmp 4] func48 ntmps48 results48 fun w0 own0 β0 Q hQ hQn=> ?_;refine Zrs [0,1] ?_;refine sg [1,5,6] rfl ?_;intro K hK;refine Zo Zl ?_;refine Zd Zl (ordered_spec xs xs.length rfl hx) (id) ?_;refine Zkl hK ?_;clear hK K;refine z6 (Zrs [1,5,27] ?_);refine Zcm ?_ ?_
 ·intro h27;refine Zrs [4] (z2f 4 22 1 (ilR true 3 []) rfl ?_);dsimp only;refine z29 3 1 (ilF true []) ?_;dsimp only;refine zb (hQ _ _ ?_)
  have hno:¬(z1t xs=0/\0<=lv/\lv<=16):=by
   rintro⟨g1,g2,g3⟩;rcases(by simpa using h27:(¬z1t xs=0\/lv<0)\/16<lv) with(h|h)|h
   ·exact h g1
   ·omega
   omega
  rw[show lstN xs lv=[] by rw[lstN,qc hno]];exact Zos (fun q=>if q=1 then 2 else if q=2 then 3 else q) (.slc true 1 0 0 ([]:List (List Int)).length) (⟨3,[(1,rO 22 1 (([]:List (List Int)).length) (ilR true 2 [])),(2,(([]:List (List Int)).length+1,fam true 3 1 (ilF true [])))]⟩)
 intro h27;refine z7 (Zrs [1,5,7] (z6 ?_));refine sg [7,30,31,32] rfl ?_;intro K hK;iterate 3 (refine Zo Zl ?_)
 have h27':z1t xs=0/\0<=lv/\lv<=16:=by simpa [and_assoc] using h27
 refine Zc1 (classes_spec (z4w xs) xs.length hsl lv (by omega)) (fun q=>if q=0 then 1 else q) ?_;refine Zkl hK ?_;clear hK K;obtain⟨cl,hcl⟩:∃cl,z54 (z4w xs) lv=cl:=⟨_,rfl⟩;obtain⟨ls,hls⟩:∃ls,lstG (z4w xs) lv=ls:=⟨_,rfl⟩;have hml:cl.length<=xs.length:=by rw[<-hcl,<-hsl];exact clsN_len _ _
 have hll:ls.length=cl.length:=by rw[<-hcl,<-hls,lstG_len]
 have hcn:∀i,(cnd cl i).length<=xs.length:=fun i=>by rw[<-hcl,<-hsl];exact cnd_len _ _ i
 have hil:∀i,i<cl.length->ind ls i=(cnd cl i).map (·.id):=fun i hi=>by rw[<-hls,<-hcl] at*;exact ind_lstG _ _ hi
 rw[hcl];refine z2f 7 22 1 (ilR true 5 (ls.take 0)) rfl ?_;dsimp only;refine z29 3 1 (ilF true (ls.take 0)) ?_;dsimp only;refine z8 fun Q0 hN0 hX0 hR0 hE0=> ?_;refine zl (σ:=Nat) (fun i=>i<=cl.length) (fun i=>cl.length-i) (fun i=>[(7,.slc true 4 0 0 i),(30,.slc true 2 0 0 cl.length),(31,.int .i64 cl.length),(32,.int .i64 i)]) (fun i=>⟨6,[(4,rO 22 1 i (ilR true 5 (ls.take i))),(5,(i+1,fam true 3 1 (ilF true (ls.take i)))),(2,rO 23 1 cl.length (clR true 3 cl)),(3,(cl.length+1,fam true 62 3 (clF true cl)))]⟩) 0 (ql _) (ρ:=id) (Zg id) ?_;rintro i hi QL1 hL1 hRL1 hEL1;refine Zrs [7,30,31,32,33] (z6 ?_);refine Zcm ?_ ?_
 ·intro h33;replace h33:=Znb h33;have hlc:=hcn i;refine z7 (z6 ?_);refine z8 fun Q1 hN1 hX1 hR1 hE1=> ?_;refine Zrs [7,9,30,31,32] ?_;refine Zrs [7,9,10,30,31,32] (z6 ?_);refine Zrs [7,10,30,31,32,36,37,38] (z2f 10 3 1 (ints (((cnd cl i).take 0).map (·.id))) rfl ?_);dsimp only;refine z8 fun Q2 hN2 hX2 hR2 hE2=> ?_;refine zl (σ:=Nat) (fun j=>j<=(cnd cl i).length) (fun j=>(cnd cl i).length-j) (fun j=>[(7,.slc true 4 0 0 i),(10,.slc true 6 0 0 j),(30,.slc true 2 0 0 cl.length),(31,.int .i64 cl.length),(32,.int .i64 i),(36,.slc true 3 (i+1) 0 (cnd cl i).length),(37,.int .i64 (cnd cl i).length),(38,.int .i64 j)]) (fun j=>⟨7,[(6,rO 3 1 j (ints (((cnd cl i).take j).map (·.id)))),(4,rO 22 1 i (ilR true 5 (ls.take i))),(5,(i+1,fam true 3 1 (ilF true (ls.take i)))),(2,rO 23 1 cl.length (clR true 3 cl)),(3,(cl.length+1,fam true 62 3 (clF true cl)))]⟩) 0 (ql _) (ρ:=id) (Zg id) ?_;rintro j hj QL2 hL2 hRL2 hEL2;refine Zrs [7,10,30,31,32,36,37,38,39] (z6 ?_);refine Zcn ?_ ?_
  ·intro h39;refine z7 (z6 ?_);refine z8 fun Q3 hN3 hX3 hR3 hE3=> ?_;refine Zrs [7,10,12,30,31,32,36,37,38] ?_;refine Zrg [7,10,30,31,32,36,37,38] (za (hN3 _ _ ?_));refine Zrg [7,10,30,31,32,36,37,38] (za (hL2 _ _ ?_));rw[iS j,app_intsN (by simp;omega),<-map_take_id (by omega)];exact⟨j+1,⟨by omega,by omega⟩,fun q=>if q=6 then 9 else q,(Zg (fun q=>if q=6 then 9 else q))⟩
  intro h39;refine zk (hEL2 _ _ _ (hX2 _ _ (Zrg [7,30,31,32] (za (hN1 _ _ ?_)))));have hjl:j=(cnd cl i).length:=by omega
  subst hjl;have hT:ls.take (i+1)=ls.take i++[(cnd cl i).map (·.id)]:=by rw[take_ind (by omega),hil i (by omega)]
  have hTl:(ls.take i).length=i:=by rw[qN];omega
  rw[jf]
  have hout:∀q,q<i+1->app (ilR true 5 (ls.take i)) i (z3y 1 1 [SV.slc true 6 0 0 (cnd cl i).length]) q=SV.renPL (mvP (fun q=>if q=4 then 8 else q) 5 i 6) (ilR true 5 (ls.take (i+1)) q):=fun q hq=>by
   rw[ilR_renP,hT]
   split
   ·rename_i e;subst e;rw[app,qc (by omega),QV,show ind (ls.take q++[(cnd cl q).map (·.id)]) q=(cnd cl q).map (·.id) by have h:=ind_last (ls.take q) ((cnd cl q).map (·.id));rw[hTl] at h;exact h,qx]
    rfl
   rw[ind_append (by omega),app,qe (by omega)];rfl
  have hlast:ind (ls.take (i+1)) i=(cnd cl i).map (·.id):=by
   have h:=ind_last (ls.take i) ((cnd cl i).map (·.id));rw[hTl] at h;rw[hT];exact h
  refine z2y (fr':=[(7,.slc true 4 0 0 (i+1)),(30,.slc true 2 0 0 cl.length),(31,.int .i64 cl.length),(32,.int .i64 i)]) (H':=⟨6,[(4,rO 22 1 (i+1) (ilR true 5 (ls.take (i+1)))),(5,(i+1+1,fam true 3 1 (ilF true (ls.take (i+1))))),(2,rO 23 1 cl.length (clR true 3 cl)),(3,(cl.length+1,fam true 62 3 (clF true cl)))]⟩) _ (Zgp (fun q=>if q=4 then 8 else q) (5) (i) (6) (z17 rfl qf (by decide) (ze.of (fun _=>⟨rfl,rfl⟩) rfl (qd _) hout) (Obj.lt_row.2 fun q _=>(ilR_lt _ _ _ _ q).2 (qb rfl)) (qb rfl) (z47 rfl rfl qf ⟨fun _=>⟨rfl,rfl⟩,rfl⟩ (QW _) (fun q hq hne=>⟨by omega,ilF_givesP _ _ _ _ _ _ id (by rw[hT];exact ind_append (by omega)),ilFm_lt _ _ _ _⟩) (ilF_newP _ _ _ _ _ (by simp) hlast) (ilFm_lt _ _ _ _) (qb rfl) (z17 rfl qf (by decide) (ze.of (fun _=>⟨rfl,rfl⟩) rfl (qd _) fun q _=>(show clR true 3 cl q=SV.renPL _ (clR true 3 cl q) by rw[clR_renO _ _ 5 i 6 3 (by decide)];rfl)) (Obj.lt_row.2 fun q _=>(clR_lt _ _ _ _ q).2 (qb rfl)) (qb rfl) (z1g.consO rfl (by decide) ⟨fun _=>⟨rfl,rfl⟩,rfl⟩ (qd _) (fun q _=>⟨clF_givesP _ _ _ _ _ _ id rfl,clFm_lt _ _ _ _⟩) (qb rfl) trivial))))) ?_;refine Zrg [7,30,31,32] (za (hL1 _ _ ?_));rw[iS i];exact⟨i+1,⟨by omega,by omega⟩,id,(Zg id)⟩
 intro h33;refine zk (hEL1 _ _ _ (hX0 _ _ (Zrs [4] (zb (hQ _ _ ?_)))))
 have hic:i=cl.length:=by
  have:¬(i:Int)<cl.length:=by simpa using h33
  omega
 subst hic;rw[show lstN xs lv=ls by rw[lstN,qe (by simpa [and_assoc] using h27),hls],Qj (by omega:ls.length<=cl.length),<-hll];exact Zos (fun q=>if q=1 then 4 else if q=2 then 5 else q) (.slc true 1 0 0 ls.length) (⟨3,[(1,rO 22 1 ls.length (ilR true 2 ls)),(2,(ls.length+1,fam true 3 1 (ilF true ls)))]⟩)
end
end Go.Proofs
