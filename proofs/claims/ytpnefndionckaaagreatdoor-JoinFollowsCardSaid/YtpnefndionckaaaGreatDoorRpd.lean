/-
  Walks and plain facts, joined: part 4 of 18.
  Conditions: those that each statement names.
-/
import Derived.Test.YtpnefndionckaaaGreatDoorRpc
set_option linter.unusedSimpArgs false
set_option linter.unusedVariables false
set_option linter.defProp false
set_option maxRecDepth 4000
set_option maxHeartbeats 8000000
namespace Go.Proofs
open Tryz
open Go.Sk
def Tryz.tyBoolK:z1o prog 4=⟨true,.bool,1,1,[]⟩:=by kernel_rfl
def Tryz.szBool:z2m prog 4=1:=by kernel_rfl
def Tryz.zBool:z3d prog 4=some [.bool false]:=by kernel_rfl
def Tryz.tyErrK:z1o prog 35=⟨true,.int .i64,1,8,[]⟩:=by kernel_rfl
def Tryz.tyCl:z1o prog 117=⟨true,.struct,5,48,[(0,some false,1),(1,some false,1),(2,some false,1),(3,some false,1),(4,some false,1)]⟩:=by kernel_rfl
def Tryz.szCl:z2m prog 117=5:=by kernel_rfl
def Tryz.zCl:z3d prog 117=some [.str ⟨#[]⟩,.int .i64 0,.int .i64 0,.int .i64 0,.bool false]:=by kernel_rfl
def Tryz.tyPr:z1o prog 110=⟨true,.struct,7,56,[(0,some false,1),(1,some false,1),(2,some false,1),(3,some false,1),(4,some false,1),(5,some false,1),(6,some false,1)]⟩:=by kernel_rfl
def Tryz.szPr:z2m prog 110=7:=by kernel_rfl
def Tryz.zPr:z3d prog 110=some [.int .i64 0,.int .i64 0,.int .i64 0,.int .i64 0,.int .i64 0,.int .i64 0,.bool false]:=by kernel_rfl
def Tryz.tyCls:z1o prog 82=⟨true,.slice 117,1,24,[]⟩:=by kernel_rfl
def Tryz.tyPrs:z1o prog 83=⟨true,.slice 110,1,24,[]⟩:=by kernel_rfl
def Tryz.szCls:z2m prog 82=1:=by kernel_rfl
def Tryz.szPrs:z2m prog 83=1:=by kernel_rfl
def zq:z1o prog 85=⟨true,.struct,2,48,[(0,some false,1),(1,some false,1)]⟩:=by kernel_rfl
def Tryz.szLsK:z2m prog 85=2:=by kernel_rfl
def app_zeroK (f g:Nat->List SV):app f 0 g=g:=by funext i;simp[app]
def Tryz.szErr:z2m prog 35=1:=by kernel_rfl
def Tryz.zErr:z3d prog 35=some [.int .i64 0]:=by kernel_rfl
def Tryz.szIntsK:z2m prog 22=1:=by kernel_rfl
def ints_lt'K (m:Nat)(l:List Int)(i:Nat):SV.ltL m (ints l i):=by simp[ints,SV.ltL,SV.lt]
noncomputable def z43 (c n p m:Nat):Nat×(Nat->Sk.Obj):=rV 85 2 1 (fun _=>[.slc false c 0 0 n,.slc false p 0 0 m])
noncomputable def lsOwn (c n p m:Nat):Nat×(Nat->Sk.Obj):=rV 85 2 1 (fun _=>[.slc true c 0 0 n,.slc true p 0 0 m])
def Tryz.zLsK:z3d prog 85=some [.nils,.nils]:=by kernel_rfl
structure Cl where
 key:ByteArray
 left:Int
 right:Int
 lock:Int
 gone:Bool
deriving DecidableEq
structure Pr where
 kind:Int
 cell:Int
 phase:Int
 pred:Int
 succ:Int
 next:Int
 res:Bool
deriving DecidableEq
def Cl.sv (x:Cl):List SV:=[.str x.key,.int .i64 x.left,.int .i64 x.right,.int .i64 x.lock,.bool x.gone]
def Pr.sv (x:Pr):List SV:=[.int .i64 x.kind,.int .i64 x.cell,.int .i64 x.phase,.int .i64 x.pred,.int .i64 x.succ,.int .i64 x.next,.bool x.res]
def noCl:Cl:=⟨⟨#[]⟩,0,0,0,false⟩
def noPr:Pr:=⟨0,0,0,0,0,0,false⟩
def cl (l:List Cl)(i:Nat):Cl:=l.getD i noCl
def pr (l:List Pr)(i:Nat):Pr:=l.getD i noPr
def z1x (l:List Cl):Nat->List SV:=fun i=>(cl l i).sv
def prs (l:List Pr):Nat->List SV:=fun i=>(pr l i).sv
def cl_lt {l:List Cl}{i:Nat}(h:i<l.length):cl l i=l[i]:=by simp[cl,List.getD,h]
def cl_append_lt {xs ys:List Cl}{i:Nat}(h:i<xs.length):cl (xs++ys) i=cl xs i:=by simp[cl,List.getD,QC h]
def cl_append_ge {xs ys:List Cl}{i:Nat}(h:¬i<xs.length):cl (xs++ys) i=cl ys (i-xs.length):=by simp[cl,List.getD,QI (J3 h)]
def app_cls (xs ys:List Cl):app (z1x xs) xs.length (z1x ys)=z1x (xs++ys):=by
 funext i
 simp only[app,z1x]
 split
 ·rename_i h;rw[cl_append_lt h]
 rename_i h;rw[cl_append_ge h]
def cl_set_eq {xs:List Cl}{k:Nat}{v:Cl}(h:k<xs.length):cl (xs.set k v) k=v:=by simp[cl,List.getD,h]
def cl_set_ne {xs:List Cl}{k j:Nat}{v:Cl}(h:k≠j):cl (xs.set k v) j=cl xs j:=by simp[cl,List.getD,jP h]
def z2j (ρ:Nat->Nat)(l:List Cl):(fun i=>SV.renL ρ (z1x l i))=z1x l:=by
 funext i;simp[z1x,Cl.sv,SV.renL,SV.ren]
def cls_ren' (ρ:Nat->Nat)(l:List Cl)(i:Nat):SV.renL ρ (z1x l i)=z1x l i:=jv (z2j ρ l) i
def cls_lt (m:Nat)(l:List Cl)(i:Nat):SV.ltL m (z1x l i):=by simp[z1x,Cl.sv,SV.ltL,SV.lt]
def cls_take (l:List Cl)(i:Nat):(z1x l i).take 5=[.str (cl l i).key,.int .i64 (cl l i).left,.int .i64 (cl l i).right,.int .i64 (cl l i).lock,.bool (cl l i).gone]:=rfl
def z4l (l:List Cl):Nat×(Nat->Sk.Obj):=rI 117 5 l.length (z1x l)
def z2c (l:List Cl):Nat×(Nat->Sk.Obj):=rO 117 5 l.length (z1x l)
def rowsOf_cl (x:Cl):z3y 5 1 x.sv=z1x [x]:=by
 funext i
 cases i with
 |zero=>rfl
 |succ i=>rfl
def cls_0 (l:List Cl)(i:Nat):(z1x l i)[0]? =some (.str (cl l i).key):=rfl
def cls_1 (l:List Cl)(i:Nat):(z1x l i)[1]? =some (.int .i64 (cl l i).left):=rfl
def cls_2 (l:List Cl)(i:Nat):(z1x l i)[2]? =some (.int .i64 (cl l i).right):=rfl
def cls_3 (l:List Cl)(i:Nat):(z1x l i)[3]? =some (.int .i64 (cl l i).lock):=rfl
def cls_4 (l:List Cl)(i:Nat):(z1x l i)[4]? =some (.bool (cl l i).gone):=rfl
def pr_lt {l:List Pr}{i:Nat}(h:i<l.length):pr l i=l[i]:=by simp[pr,List.getD,h]
def z3q {xs:List Pr}{k:Nat}{v:Pr}(h:k<xs.length):pr (xs.set k v) k=v:=by simp[pr,List.getD,h]
def z2l {xs:List Pr}{k j:Nat}{v:Pr}(h:k≠j):pr (xs.set k v) j=pr xs j:=by simp[pr,List.getD,jP h]
def z2r (ρ:Nat->Nat)(l:List Pr):(fun i=>SV.renL ρ (prs l i))=prs l:=by
 funext i;simp[prs,Pr.sv,SV.renL,SV.ren]
def prs_ren' (ρ:Nat->Nat)(l:List Pr)(i:Nat):SV.renL ρ (prs l i)=prs l i:=jv (z2r ρ l) i
def prs_lt (m:Nat)(l:List Pr)(i:Nat):SV.ltL m (prs l i):=by simp[prs,Pr.sv,SV.ltL,SV.lt]
def prs_take (l:List Pr)(i:Nat):(prs l i).take 7=[.int .i64 (pr l i).kind,.int .i64 (pr l i).cell,.int .i64 (pr l i).phase,.int .i64 (pr l i).pred,.int .i64 (pr l i).succ,.int .i64 (pr l i).next,.bool (pr l i).res]:=rfl
def z5b (l:List Pr):Nat×(Nat->Sk.Obj):=rI 110 7 l.length (prs l)
def z2p (l:List Pr):Nat×(Nat->Sk.Obj):=rO 110 7 l.length (prs l)
def prs_0 (l:List Pr)(i:Nat):(prs l i)[0]? =some (.int .i64 (pr l i).kind):=rfl
def prs_1 (l:List Pr)(i:Nat):(prs l i)[1]? =some (.int .i64 (pr l i).cell):=rfl
def prs_2 (l:List Pr)(i:Nat):(prs l i)[2]? =some (.int .i64 (pr l i).phase):=rfl
def prs_3 (l:List Pr)(i:Nat):(prs l i)[3]? =some (.int .i64 (pr l i).pred):=rfl
def prs_4 (l:List Pr)(i:Nat):(prs l i)[4]? =some (.int .i64 (pr l i).succ):=rfl
def prs_5 (l:List Pr)(i:Nat):(prs l i)[5]? =some (.int .i64 (pr l i).next):=rfl
def prs_6 (l:List Pr)(i:Nat):(prs l i)[6]? =some (.bool (pr l i).res):=rfl
noncomputable def noPrs:Nat×(Nat->Sk.Obj):=rI 110 7 0 (fun _=>[])
noncomputable def clCap (c:Cl):Nat×(Nat->Sk.Obj):=uQ (.row ⟨false,true,117,5,1,fun _=>c.sv⟩)
noncomputable def z4d (i:Int):Nat×(Nat->Sk.Obj):=uQ (.row ⟨false,true,3,1,1,fun _=>[.int .i64 i]⟩)
def z1m (cs:List Cl)(a b:Int):Bool:=
 if a==b||a==1||b==0 then false else if a==0||b==1 then true else sLt (cl cs a.toNat).key (cl cs b.toNat).key
def z42 (x:Pr):Bool:=x.phase !=0 && x.phase !=18
def idxOk (i n:Int):Bool:=decide (0<=i) && decide (i<n)
def z2a (n:Nat)(p:Nat->Bool):Bool:=(List.range n).any p
def z1r {n i:Nat}{p:Nat->Bool}(h:i<n)(hp:p i=true):z2a n p=true:=Jc.2 ⟨i,by simpa using h,hp⟩
def z1l {n:Nat}{p:Nat->Bool}(h:∀i,i<n->p i=false):z2a n p=false:=by
 rw[z2a,Jv];intro i hi;rw[h i (by simpa using hi)];exact qh
def anyB_elimK {n:Nat}{p:Nat->Bool}(h:z2a n p=false){i:Nat}(hi:i<n):p i=false:=by
 cases hp:p i with
 |false=>rfl
 |true=>rw[z1r hi hp] at h;cases h
def z3k {n:Nat}{p:Nat->Bool}:z2a n p=false↔∀i,i<n->p i=false:=⟨fun h i hi=>anyB_elimK h hi,z1l⟩
def idxFK (p:Nat->Bool):Nat->Nat->Int
 |0,_=> -1
 |k+1,i=>if p i then i else idxFK p k (i+1)
def idxBK (n:Nat)(p:Nat->Bool):Int:=idxFK p n 0
def idxF_noneK {p:Nat->Bool}:∀(k i:Nat),(∀q,i<=q->q<i+k->p q=false)->idxFK p k i= -1
 |0,_,_=>rfl
 |k+1,i,h=>by rw[idxFK,h i (qd _) (by omega)];exact idxF_noneK k (i+1) fun q h1 h2=>h q (by omega) (by omega)
def idxF_atK {p:Nat->Bool}{j:Nat}(hj:p j=true):∀(k i:Nat),i<=j->j<i+k->(∀q,i<=q->q<j->p q=false)->idxFK p k i=j
 |0,i,h1,h2,_=>by omega
 |k+1,i,h1,h2,h=>by
  rw[idxFK]
  by_cases c:i=j
  ·subst c;rw[hj];rfl
  rw[h i (qd _) (by omega)];exact idxF_atK hj k (i+1) (by omega) (by omega) fun q g1 g2=>h q (by omega) g2
def idxB_noneK {n:Nat}{p:Nat->Bool}(h:∀q,q<n->p q=false):idxBK n p= -1:=idxF_noneK n 0 fun q _ h2=>h q (by omega)
def idxB_atK {n j:Nat}{p:Nat->Bool}(hj:p j=true)(hn:j<n)(h:∀q,q<j->p q=false):idxBK n p=j:=idxF_atK hj n 0 (by omega) (by omega) fun q _ h2=>h q h2
def idxB_casesK (n:Nat)(p:Nat->Bool):(idxBK n p= -1/\∀q,q<n->p q=false)\/∃j:Nat,idxBK n p=j/\j<n/\p j=true/\∀q,q<j->p q=false:=by
 by_cases h:∃j,j<n/\p j=true
 ·obtain⟨j,hj,hp⟩:=h
  have:∃j,j<n/\p j=true/\∀q,q<j->p q=false:=by
   induction j using Nat.strongRecOn with
   |_ j ih=>
    by_cases h2:∃q,q<j/\p q=true
    ·obtain⟨q,hq,hpq⟩:=h2;exact ih q hq (by omega) hpq
    exact⟨j,hj,hp,fun q hq=>by
     cases hpq:p q with
     |false=>rfl
     |true=>exact absurd ⟨q,hq,hpq⟩ h2⟩
  obtain⟨j,h1,h2,h3⟩:=this;exact .inr ⟨j,idxB_atK h2 h1 h3,h1,h2,h3⟩
 have h':∀q,q<n->p q=false:=fun q hq=>by
  cases hpq:p q with
  |false=>rfl
  |true=>exact absurd ⟨q,hq,hpq⟩ h
 exact .inl ⟨idxB_noneK h',h'⟩
def idxB_anyK (n:Nat)(p:Nat->Bool):decide (0<=idxBK n p)=z2a n p:=by
 rcases idxB_casesK n p with⟨h,h1⟩|⟨j,h,h1,h2,_⟩
 ·rw[h,z1l h1];rfl
 rw[h,z1r h1 h2];simp
def sameKey (c x:Cl):Bool:=sEq x.key c.key
def hasB (xs:List Int)(v:Int):Bool:=z2a xs.length fun i=>v==nth xs i
def hasB_iff {xs:List Int}{v:Int}:hasB xs v=true↔v∈xs:=by
 rw[hasB,z2a,Jc]
 constructor
 ·rintro⟨i,hi,h⟩;have hi':i<xs.length:=by simpa using hi
  rw[qD,z30 hi'] at h;rw[h];exact qK hi'
 intro h;obtain⟨i,hi,he⟩:=Qk h;exact⟨i,by simpa using hi,by rw[z30 hi,he];simp⟩
structure Rts (cs:List Cl):Prop where
 two:2<=cs.length
 big:cs.length<=1000
 rt:∀i,i<cs.length->0<=(cl cs i).right/\(cl cs i).right<cs.length
def sLt_irr' (k:ByteArray):sLt k k=false:=by
 simp only[sLt]
 generalize k.toList=l
 induction l with
 |nil=>rfl
 |cons a l ih=>simp[Op.bytesLess,ih]
def bl_trans':∀{a b c:List UInt8},Op.bytesLess a b=true->Op.bytesLess b c=true->Op.bytesLess a c=true
 |_,[],_,h,_=>by simp[Op.bytesLess] at h
 |[],_::_,[],_,h=>by simp[Op.bytesLess] at h
 |[],_::_,_::_,_,_=>by simp[Op.bytesLess]
 |_::_,_::_,[],_,h=>by simp[Op.bytesLess] at h
 |a::l,b::r,c::q,h,h'=>by
  simp only[Op.bytesLess,qt,qj,qm,qD] at h h' ⊢;rcases h with h|⟨h1,h2⟩
  ·rcases h' with h'|⟨g1,g2⟩
   ·exact .inl (UInt8.lt_trans h h')
   subst g1;exact .inl h
  subst h1;rcases h' with h'|⟨g1,g2⟩
  ·exact .inl h'
  exact .inr ⟨g1,bl_trans' h2 g2⟩
def z1s {cs:List Cl}{a b:Int}:z1m cs a b=true↔a≠b/\a≠1/\b≠0/\(a=0\/b=1\/sLt (cl cs a.toNat).key (cl cs b.toNat).key=true):=by
 unfold z1m
 by_cases h1:a=b
 ·simp[h1]
 by_cases h2:a=1
 ·simp[h2]
 by_cases h3:b=0
 ·simp[h3]
 by_cases h4:a=0
 ·subst h4;simp[h1,h3]
 by_cases h5:b=1
 ·simp[h1,h2,h5]
 simp[h1,h2,h3,h4,h5]
def z32 {cs:List Cl}{a b c:Int}(h:z1m cs a b=true)(h':z1m cs b c=true):z1m cs a c=true:=by
 rw[z1s] at*;obtain⟨h1,h2,h3,h4⟩:=h;obtain⟨g1,g2,g3,g4⟩:=h'
 have key:a=0\/c=1\/sLt (cl cs a.toNat).key (cl cs c.toNat).key=true:=by
  rcases h4 with h4|h4|h4
  ·exact .inl h4
  ·exact absurd h4 g2
  rcases g4 with g4|g4|g4
  ·exact absurd g4 h3
  ·exact .inr (.inl g4)
  exact .inr (.inr (bl_trans' h4 g4))
 refine⟨fun e=> ?_,h2,g3,key⟩;subst e;rcases h4 with h4|h4|h4
 ·exact g3 h4
 ·exact g2 h4
 rcases g4 with g4|g4|g4
 ·exact h3 g4
 ·exact h2 g4
 have:=bl_trans' h4 g4;rw[show Op.bytesLess _ _=sLt (cl cs a.toNat).key (cl cs a.toNat).key from rfl,sLt_irr'] at this
 cases this
def lessC_irr (cs:List Cl)(a:Int):z1m cs a a=false:=by simp[z1m]
def meas (cs:List Cl)(a:Int):Nat:=(List.range cs.length).countP fun j:Nat=>z1m cs a j
def meas_le (cs:List Cl)(a:Int):meas cs a<=cs.length:=by
 have:=List.countP_le_length (p:=fun j:Nat=>z1m cs a j) (l:=List.range cs.length);rw[List.length_range] at this;exact this
def countP_ltK {α:Type}{p q:α->Bool}:∀{l:List α},(∀x∈l,p x=true->q x=true)->(∃x∈l,p x=false/\q x=true)->l.countP p<l.countP q
 |[],_,⟨x,hx,_⟩=>by cases hx
 |a::l,h,⟨x,hx,h1,h2⟩=>by
  have hle:l.countP p<=l.countP q:=List.countP_mono_left fun y hy=>h y (qp _ hy);rw[List.countP_cons,List.countP_cons];rcases qv.1 hx with e|hm
  ·subst e;rw[h1,h2];simp;omega
  have:=countP_ltK (fun y hy=>h y (qp _ hy)) ⟨x,hm,h1,h2⟩;have ha:=h a (qo ..)
  cases hp:p a with
  |false=>simp;split<;>omega
  |true=>rw[ha hp];simp;omega
def meas_lt {cs:List Cl}{a b:Int}(hb:0<=b/\b<cs.length)(h:z1m cs a b=true):meas cs b<meas cs a:=by
 refine countP_ltK (fun j _ hj=>z32 h hj) ⟨b.toNat,Qu.2 (by omega),?_,?_⟩
 ·rw[show((b.toNat:Nat):Int)=b by omega];exact lessC_irr cs b
 rw[show((b.toNat:Nat):Int)=b by omega];exact h
def z5p (cs:List Cl):Nat->Int->Option (List Int)
 |0,_=>none
 |k+1,a=>if a==1 then some [a] else if z1m cs a (cl cs a.toNat).right then(z5p cs k (cl cs a.toNat).right).map (a:: ·) else none
def z4o (cs:List Cl)(a:Int):Option (List Int):=z5p cs (cs.length+1) a
def z2s (cs:List Cl)(c v:Int):List Cl:=cs.set c.toNat {cl cs c.toNat with right:=v}
def setG (cs:List Cl)(c:Int):List Cl:=cs.set c.toNat {cl cs c.toNat with gone:=true}
def rt (cs:List Cl)(i:Int):Int:=(cl cs i.toNat).right
def gn (cs:List Cl)(i:Int):Bool:=(cl cs i.toNat).gone
def lkK (cs:List Cl)(i:Int):Int:=(cl cs i.toNat).lock
def cl_up {cs:List Cl}{c i:Int}{y:Cl}(hc:0<=c/\c<cs.length)(hi:0<=i):cl (cs.set c.toNat y) i.toNat=if i=c then y else cl cs i.toNat:=by
 by_cases h:i=c
 ·subst h;rw[qe rfl,cl_set_eq (by omega)]
 rw[qc h,cl_set_ne (by omega)]
structure z41 (cs ds:List Cl):Prop where
 len:ds.length=cs.length
 key:∀i:Nat,(cl ds i).key=(cl cs i).key
def z41.less {cs ds:List Cl}(h:z41 cs ds)(a b:Int):z1m ds a b=z1m cs a b:=by simp[z1m,h.key]
def z41.refl (cs:List Cl):z41 cs cs:=⟨rfl,fun _=>rfl⟩
def z41.trans {cs ds es:List Cl}(h:z41 cs ds)(h':z41 ds es):z41 cs es:=⟨h'.len.trans h.len,fun i=>(h'.key i).trans (h.key i)⟩
def z41.set {cs:List Cl}{c:Nat}{y:Cl}(h:y.key=(cl cs c).key):z41 cs (cs.set c y):=by
 refine⟨by simp,fun i=> ?_⟩
 by_cases e:c=i
 ·subst e
  by_cases hc:c<cs.length
  ·rw[cl_set_eq hc,h]
  rw[List.set_eq_of_length_le (by omega)]
 rw[cl_set_ne e]
def z41.meas {cs ds:List Cl}(h:z41 cs ds)(a:Int):meas ds a=meas cs a:=by
 unfold Go.Proofs.meas;rw[h.len]
 congr 1
 funext j
 exact h.less a j
def Seg (cs:List Cl):Int->List Int->Int->Prop
 |a,[],b=>a=b
 |a,x::l,b=>a≠1/\rt cs a=x/\z1m cs a x=true/\Seg cs x l b
def Seg.append {cs:List Cl}:∀{a:Int} {l m:List Int} {b:Int},Seg cs a (l++m) b↔∃c,Seg cs a l c/\Seg cs c m b
 |a,[],m,b=>by simp[Seg]
 |a,x::l,m,b=>by
  simp only[QZ,Seg,Seg.append]
  constructor
  ·rintro⟨h1,h2,h3,c,h4,h5⟩;exact⟨c,⟨h1,h2,h3,h4⟩,h5⟩
  rintro⟨c,⟨h1,h2,h3,h4⟩,h5⟩;exact⟨h1,h2,h3,c,h4,h5⟩
def Seg.le {cs:List Cl}:∀{a:Int} {l:List Int} {b:Int},Seg cs a l b->a=b\/z1m cs a b=true
 |a,[],b,h=> .inl h
 |a,x::l,b,⟨h1,h2,h3,h4⟩=>by
  rcases h4.le with e|e
  ·exact .inr (e ▸ h3)
  exact .inr (z32 h3 e)
def Seg.ge {cs:List Cl}:∀{a:Int} {l:List Int} {b x:Int},Seg cs a l b->x∈l->z1m cs a x=true
 |a,y::l,b,x,⟨h1,h2,h3,h4⟩,hx=>by
  rcases qv.1 hx with e|e
  ·exact e ▸ h3
  exact z32 h3 (h4.ge e)
def Seg.mem_le {cs:List Cl}:∀{a:Int} {l:List Int} {b x:Int},Seg cs a l b->x∈a::l->x=b\/z1m cs x b=true
 |a,[],b,x,h,hx=>by
  rcases qv.1 hx with e|e
  ·exact .inl (e ▸ h)
  cases e
 |a,y::l,b,x,h,hx=>by
  rcases qv.1 hx with e|e
  ·subst e;exact h.le
  exact h.2.2.2.mem_le e
def Seg.ends {cs:List Cl}:∀{a:Int} {l:List Int} {b:Int},Seg cs a l b->b∈a::l
 |a,[],b,h=>by rw[h];exact qo ..
 |a,y::l,b,h=>qp _ h.2.2.2.ends
def z57 {cs:List Cl}{a b:Int}(h:z1m cs a b=true):a≠b:=by
 intro e;subst e;rw[lessC_irr] at h;cases h
def less_asym {cs:List Cl}{a b:Int}(h:z1m cs a b=true):z1m cs b a=false:=by
 cases h':z1m cs b a with
 |false=>rfl
 |true=>have:=z32 h h';rw[lessC_irr] at this;cases this
def Seg.frame {cs ds:List Cl}(hk:z41 cs ds):∀{a:Int} {l:List Int} {b:Int},Seg cs a l b->(∀x∈a::l,x≠b->rt ds x=rt cs x)->Seg ds a l b
 |a,[],b,h,_=>h
 |a,y::l,b,h,hr=>by
  obtain⟨h1,h2,h3,h4⟩:=h
  have hab:a≠b:=z57 (by
   rcases h4.le with e|e
   ·exact e ▸ h3
   exact z32 h3 e)
  refine⟨h1,?_,?_,h4.frame hk fun x hx hb=>hr x (qp _ hx) hb⟩
  ·rw[hr a (qo ..) hab,h2]
  rw[hk.less,h3]
def Seg.split {cs:List Cl}:∀{a:Int} {l:List Int} {b x:Int},Seg cs a l b->x∈a::l->∃A B,l=A++B/\Seg cs a A x/\Seg cs x B b
 |a,[],b,x,h,hx=>by
  rcases qv.1 hx with e|e
  ·subst e;exact⟨[],[],rfl,rfl,h⟩
  cases e
 |a,y::l,b,x,h,hx=>by
  by_cases e:x=a
  ·subst e;exact⟨[],y::l,rfl,rfl,h⟩
  obtain⟨h1,h2,h3,h4⟩:=h
  obtain⟨A,B,rfl,hA,hB⟩:=h4.split (x:=x) (by
   rcases qv.1 hx with e'|e'
   ·exact absurd e' e
   exact e')
  exact⟨y::A,B,rfl,⟨h1,h2,h3,hA⟩,hB⟩
def rt_setR {cs:List Cl}{c i v:Int}(hc:0<=c/\c<cs.length)(hi:0<=i):rt (z2s cs c v) i=if i=c then v else rt cs i:=by
 simp only[rt,z2s];rw[cl_up hc hi];split<;>rfl
def gn_setR {cs:List Cl}{c i v:Int}(hc:0<=c/\c<cs.length)(hi:0<=i):gn (z2s cs c v) i=gn cs i:=by
 simp only[gn,z2s];rw[cl_up hc hi];split
 ·rename_i e;subst e;rfl
 rfl
def lk_setR {cs:List Cl}{c i v:Int}(hc:0<=c/\c<cs.length)(hi:0<=i):lkK (z2s cs c v) i=lkK cs i:=by
 simp only[lkK,z2s];rw[cl_up hc hi];split
 ·rename_i e;subst e;rfl
 rfl
def z4m (cs:List Cl)(c v:Int):z41 cs (z2s cs c v):=z41.set rfl
def bl_total:∀{a b:List UInt8},Go.Op.bytesLess a b=false->Go.Op.bytesLess b a=false->a=b
 |[],[],_,_=>rfl
 |[],_::_,h,_=>by simp[Go.Op.bytesLess] at h
 |_::_,[],_,h=>by simp[Go.Op.bytesLess] at h
 |a::l,b::r,h,h'=>by
  simp only[Go.Op.bytesLess,qk,qC,qg,qD] at h h'
  have e:a=b:=by
   have h1:=J6.1 h.1;have h2:=J6.1 h'.1;exact UInt8.le_antisymm h2 h1
  rw[e,bl_total (h.2 e) (h'.2 e.symm)]
def ba_ext' {x y:ByteArray}(h:x.toList=y.toList):x=y:=by
 cases x with
 |mk a=>
  cases y with
  |mk b=>
   have h1:(⟨a⟩:ByteArray).toList=a.toList:=jy _;have h2:(⟨b⟩:ByteArray).toList=b.toList:=jy _;rw[h1,h2] at h
   congr 1
   exact JA.1 h
def sLt_totalK {a b:ByteArray}(h:sLt a b=false)(h':sLt b a=false):a=b:=ba_ext' (bl_total h h')
def Dst (cs:List Cl):Prop:=∀i j:Nat,2<=i->i<cs.length->2<=j->j<cs.length->(cl cs i).key=(cl cs j).key->i=j
def Dst.total {cs:List Cl}(h:Dst cs){a b:Int}(ha:0<=a/\a<cs.length)(hb:0<=b/\b<cs.length)(hne:a≠b)(h1:z1m cs a b=false):z1m cs b a=true:=by
 rw[z1s];refine⟨hne.symm,fun e=> ?_,fun e=> ?_,?_⟩
 ·subst e
  have:z1m cs a 1=true:=by
   rw[z1s];exact⟨hne,hne,by decide,.inr (.inl rfl)⟩
  rw[this] at h1;cases h1
 ·subst e
  have:z1m cs 0 b=true:=by
   rw[z1s];exact⟨hne,by decide,hne.symm,.inl rfl⟩
  rw[this] at h1;cases h1
 by_cases e0:b=0
 ·exact .inl e0
 by_cases e1:a=1
 ·exact .inr (.inl e1)
 refine .inr (.inr ?_)
 cases hs:sLt (cl cs b.toNat).key (cl cs a.toNat).key with
 |true=>rfl
 |false=>
  by_cases ea:a=0
  ·subst ea;have:z1m cs 0 b=true:=by rw[z1s];exact⟨hne,by decide,e0,.inl rfl⟩
   rw[this] at h1;cases h1
  by_cases eb:b=1
  ·subst eb;have:z1m cs a 1=true:=by rw[z1s];exact⟨hne,e1,by decide,.inr (.inl rfl)⟩
   rw[this] at h1;cases h1
  cases hs':sLt (cl cs a.toNat).key (cl cs b.toNat).key with
  |true=>
   have:z1m cs a b=true:=by rw[z1s];exact⟨hne,e1,e0,.inr (.inr hs')⟩
   rw[this] at h1;cases h1
  |false=>
   have:=h a.toNat b.toNat (by omega) (by omega) (by omega) (by omega) (sLt_totalK hs' hs);omega
def Seg.chain {cs:List Cl}:∀{a:Int} {l:List Int} (k:Nat),Seg cs a l 1->(∀x∈l,0<=x/\x<cs.length)->meas cs a<k->z5p cs k a=some (a::l)
 |a,[],k+1,h,_,_=>by
  have:a=1:=h;subst this;rfl
 |a,x::l,k+1,h,hr,hk=>by
  obtain⟨h1,h2,h3,h4⟩:=h;have h5:=meas_lt (hr x (qo ..)) h3;have h6:=h4.chain k (fun y hy=>hr y (qp _ hy)) (by omega);rw[z5p,qc (by simpa using h1)];have e:(cl cs a.toNat).right=x:=h2;rw[e,h3,qe rfl,h6]
  rfl
def Seg.nodup {cs:List Cl}:∀{a:Int} {l:List Int} {b:Int},Seg cs a l b->(a::l).Nodup
 |a,[],b,_=>by simp
 |a,x::l,b,h=>by
  rw[Jo];refine⟨fun hm=> ?_,h.2.2.2.nodup⟩;have:=h.ge hm;rw[lessC_irr] at this;cases this
def z2b (x:Int):Bool:=decide (0<=x/\x<=13\/x=18)
def headBad (cs:List Cl)(ps:List Pr):Bool:=decide ((cs.length:Int)<2)||decide (66<(cs.length:Int))||decide ((ps.length:Int)<1)||decide (8<(ps.length:Int))|| !sEq (cl cs 0).key ⟨#[]⟩|| !sEq (cl cs 1).key ⟨#[]⟩
def badK (n m:Int)(c:Cl):Bool:=decide (c.left<0)||decide (n<=c.left)||decide (c.right<0)||decide (n<=c.right)||decide (c.lock<0)||decide (m<c.lock)|| !okKey c.key
def dupC (cs:List Cl)(i:Nat):Bool:=decide (1<(i:Int)) && z2a (i-2) fun k=>sameKey (cl cs i) (cl cs (2+k))
def badQ (n:Int)(x:Pr):Bool:=decide (min (min (min x.cell x.pred) x.succ) x.next<0)||decide (n<=max (max (max x.cell x.pred) x.succ) x.next)||decide (x.kind<0)||decide (3<x.kind)
def badH (x:Pr):Bool:= !z2b x.phase||((x.kind==0) !=(x.phase==0))
def cellsK (cs:List Cl)(ps:List Pr):Bool:= !headBad cs ps && !z2a cs.length (fun i=>badK cs.length ps.length (cl cs i)||dupC cs i) && !z2a ps.length (fun i=>badQ cs.length (pr ps i))
def z1y (cs:List Cl)(ps:List Pr):Bool:= !z2a ps.length (fun i=>badH (pr ps i)) && cellsK cs ps
structure PrOk (n:Nat) (x:Pr):Prop where
 cell:0<=x.cell/\x.cell<n
 pred:0<=x.pred/\x.pred<n
 succ:0<=x.succ/\x.succ<n
 next:0<=x.next/\x.next<n
structure Vld (cs:List Cl) (ps:List Pr):Prop where
 two:2<=cs.length
 big:cs.length<=66
 uQ:1<=ps.length
 eight:ps.length<=8
 cell:∀i,i<cs.length->(0<=(cl cs i).left/\(cl cs i).left<cs.length)/\(0<=(cl cs i).right/\(cl cs i).right<cs.length)/\0<=(cl cs i).lock/\(cl cs i).lock<=ps.length
 proc:∀i,i<ps.length->PrOk cs.length (pr ps i)
 phase:∀i,i<ps.length->z2b (pr ps i).phase=true
 kind:∀i,i<ps.length->0<=(pr ps i).kind/\(pr ps i).kind<=3/\((pr ps i).kind=0↔(pr ps i).phase=0)
def z4g {cs:List Cl}{ps:List Pr}(h:z1y cs ps=true):Vld cs ps:=by
 simp only[z1y,cellsK,qj,qn] at h;obtain⟨h4,⟨h1,h2⟩,h3⟩:=h;have h2':=z3k.1 h2;have h3':=z3k.1 h3;have h4':=z3k.1 h4;simp only[headBad,qk,qg] at h1;refine⟨by omega,by omega,by omega,by omega,fun i hi=> ?_,fun i hi=> ?_,fun i hi=> ?_,fun i hi=> ?_⟩
 ·have:=h2' i hi;rw[qk] at this;have:=this.1;simp only[badK,qk,qg] at this;omega
 ·have:=h3' i hi;simp only[badQ,qk,qg] at this;refine⟨by omega,by omega,by omega,by omega⟩
 ·have:=h4' i hi;simp only[badH,qk,qr] at this;exact this.1
 have h5:=h3' i hi;have h6:=h4' i hi;simp only[badQ,qk,qg] at h5;simp only[badH,qk,qF] at h6;have h7:=h6.2;rw[qY] at h7;simp only[qD] at h7;exact⟨by omega,by omega,h7⟩
def dst_of {cs:List Cl}{ps:List Pr}(h:z1y cs ps=true):Dst cs:=by
 simp only[z1y,cellsK,qj,qn] at h;have hc:=z3k.1 h.2.1.2
 have key:∀i j:Nat,2<=i->i<j->j<cs.length->(cl cs i).key=(cl cs j).key->False:=by
  intro i j h1 h2 h3 h4;have:=hc j h3;rw[qk] at this;have hd:=this.2;rw[dupC,qB (by omega:1<(j:Int)),qL] at hd;have:=z3k.1 hd (i-2) (by omega);rw[sameKey,show 2+(i-2)=i by omega,z5l,h4] at this;simp at this
 intro i j h1 h2 h3 h4 h5;rcases ji i j with h|h|h
 ·exact(key i j h1 h h4 h5).elim
 ·exact h
 exact(key j i h3 h h2 h5.symm).elim
def valid_mk {cs ds:List Cl}{ps qs:List Pr}(hv:z1y cs ps=true)(hk:z41 cs ds)(hl:qs.length=ps.length)
  (hc:∀i,i<cs.length->(0<=(cl ds i).left/\(cl ds i).left<cs.length)/\(0<=(cl ds i).right/\(cl ds i).right<cs.length)/\0<=(cl ds i).lock/\(cl ds i).lock<=ps.length)
  (hp:∀i,i<ps.length->PrOk cs.length (pr qs i)/\z2b (pr qs i).phase=true/\0<=(pr qs i).kind/\(pr qs i).kind<=3/\((pr qs i).kind=0↔(pr qs i).phase=0)):z1y ds qs=true:=by
 simp only[z1y,cellsK,qj,qn] at hv ⊢;obtain⟨h4,⟨h1,h2⟩,h3⟩:=hv;have h2':=z3k.1 h2;refine⟨z3k.2 fun i hi=> ?_,⟨?_,z3k.2 fun i hi=> ?_⟩,z3k.2 fun i hi=> ?_⟩
 ·rw[hl] at hi;obtain⟨_,a5,a6,a7,a8⟩:=hp i hi;simp only[badH,qk,qF];refine⟨by rw[a5];rfl,?_⟩;rw[qY];simpa using a8
 ·simp only[headBad,hk.len,hl,hk.key] at h1 ⊢;exact h1
 ·rw[hk.len] at hi ⊢;have h4:=h2' i hi;have h5:=hc i hi;rw[qk] at h4 ⊢;refine⟨?_,?_⟩
  ·have h6:=h4.1;simp only[badK,qk,qg,hk.key,hl] at h6 ⊢;exact⟨⟨⟨⟨⟨⟨by omega,by omega⟩,by omega⟩,by omega⟩,by omega⟩,by omega⟩,h6.2⟩
  have h6:=h4.2;simp only[dupC,sameKey,hk.key] at h6 ⊢;exact h6
 rw[hl] at hi;obtain⟨⟨a1,a2,a3,a4⟩,a5,a6,a7,a8⟩:=hp i hi;simp only[badQ,qk,qg,hk.len];exact⟨⟨⟨by omega,by omega⟩,by omega⟩,by omega⟩
def lf (cs:List Cl)(i:Int):Int:=(cl cs i.toNat).left
def setU (cs:List Cl)(c:Int):List Cl:=cs.set c.toNat {cl cs c.toNat with gone:=false}
def setK (cs:List Cl)(c v:Int):List Cl:=cs.set c.toNat {cl cs c.toNat with lock:=v}
def z4b (cs:List Cl)(c v:Int):List Cl:=cs.set c.toNat {cl cs c.toNat with left:=v}
def unlk1 (p:Nat)(c:Cl):Cl:=if c.lock=(p:Int)+1 then {c with lock:=0} else c
def unlk (cs:List Cl)(p:Nat):List Cl:=cs.map (unlk1 p)
def z31 (cs:List Cl)(c v:Int):(z2s cs c v).length=cs.length:=by simp[z2s]
def z52 (cs:List Cl)(c v:Int):(z4b cs c v).length=cs.length:=by simp[z4b]
def key_setG (cs:List Cl)(c:Int):z41 cs (setG cs c):=z41.set rfl
def key_setU (cs:List Cl)(c:Int):z41 cs (setU cs c):=z41.set rfl
def key_setK (cs:List Cl)(c v:Int):z41 cs (setK cs c v):=z41.set rfl
def z5d (cs:List Cl)(c v:Int):z41 cs (z4b cs c v):=z41.set rfl
def cl_unlk (cs:List Cl)(p i:Nat):cl (unlk cs p) i=unlk1 p (cl cs i):=by
 unfold unlk cl
 by_cases h:i<cs.length
 ·simp[List.getD,h]
 rw[List.getD,List.getD,qP (by simpa using h),qP (by simpa using h)]
 show noCl=unlk1 p noCl
 unfold unlk1 noCl
 split
 ·rename_i e;dsimp only at e;omega
 rfl
def key_unlk (cs:List Cl)(p:Nat):z41 cs (unlk cs p):=⟨by simp[unlk],fun i=>by rw[cl_unlk,unlk1];split<;>rfl⟩
def rt_unlk (cs:List Cl)(p:Nat)(i:Int):rt (unlk cs p) i=rt cs i:=by simp only[rt];rw[cl_unlk,unlk1];split<;>rfl
def gn_unlk (cs:List Cl)(p:Nat)(i:Int):gn (unlk cs p) i=gn cs i:=by simp only[gn];rw[cl_unlk,unlk1];split<;>rfl
def lf_unlk (cs:List Cl)(p:Nat)(i:Int):lf (unlk cs p) i=lf cs i:=by simp only[lf];rw[cl_unlk,unlk1];split<;>rfl
def lk_unlk (cs:List Cl)(p:Nat)(i:Int):lkK (unlk cs p) i=if lkK cs i=(p:Int)+1 then 0 else lkK cs i:=by by_cases h:(cl cs i.toNat).lock=(p:Int)+1<;>simp[lkK,cl_unlk,unlk1,h]
def lf_setR {cs:List Cl}{c i v:Int}(hc:0<=c/\c<cs.length)(hi:0<=i):lf (z2s cs c v) i=lf cs i:=by
 simp only[lf,z2s];rw[cl_up hc hi];split
 ·rename_i e;subst e;rfl
 rfl
def rt_setG {cs:List Cl}{c i:Int}(hc:0<=c/\c<cs.length)(hi:0<=i):rt (setG cs c) i=rt cs i:=by
 simp only[rt,setG];rw[cl_up hc hi];split
 ·rename_i e;subst e;rfl
 rfl
def gn_setG {cs:List Cl}{c i:Int}(hc:0<=c/\c<cs.length)(hi:0<=i):gn (setG cs c) i=if i=c then true else gn cs i:=by
 simp only[gn,setG];rw[cl_up hc hi];split<;>rfl
def lk_setG {cs:List Cl}{c i:Int}(hc:0<=c/\c<cs.length)(hi:0<=i):lkK (setG cs c) i=lkK cs i:=by
 simp only[lkK,setG];rw[cl_up hc hi];split
 ·rename_i e;subst e;rfl
 rfl
def lf_setG {cs:List Cl}{c i:Int}(hc:0<=c/\c<cs.length)(hi:0<=i):lf (setG cs c) i=lf cs i:=by
 simp only[lf,setG];rw[cl_up hc hi];split
 ·rename_i e;subst e;rfl
 rfl
def rt_setU {cs:List Cl}{c i:Int}(hc:0<=c/\c<cs.length)(hi:0<=i):rt (setU cs c) i=rt cs i:=by
 simp only[rt,setU];rw[cl_up hc hi];split
 ·rename_i e;subst e;rfl
 rfl
def gn_setU {cs:List Cl}{c i:Int}(hc:0<=c/\c<cs.length)(hi:0<=i):gn (setU cs c) i=if i=c then false else gn cs i:=by
 simp only[gn,setU];rw[cl_up hc hi];split<;>rfl
def lk_setU {cs:List Cl}{c i:Int}(hc:0<=c/\c<cs.length)(hi:0<=i):lkK (setU cs c) i=lkK cs i:=by
 simp only[lkK,setU];rw[cl_up hc hi];split
 ·rename_i e;subst e;rfl
 rfl
def lf_setU {cs:List Cl}{c i:Int}(hc:0<=c/\c<cs.length)(hi:0<=i):lf (setU cs c) i=lf cs i:=by
 simp only[lf,setU];rw[cl_up hc hi];split
 ·rename_i e;subst e;rfl
 rfl
def rt_setK {cs:List Cl}{c i v:Int}(hc:0<=c/\c<cs.length)(hi:0<=i):rt (setK cs c v) i=rt cs i:=by
 simp only[rt,setK];rw[cl_up hc hi];split
 ·rename_i e;subst e;rfl
 rfl
def gn_setK {cs:List Cl}{c i v:Int}(hc:0<=c/\c<cs.length)(hi:0<=i):gn (setK cs c v) i=gn cs i:=by
 simp only[gn,setK];rw[cl_up hc hi];split
 ·rename_i e;subst e;rfl
 rfl
def lk_setK {cs:List Cl}{c i v:Int}(hc:0<=c/\c<cs.length)(hi:0<=i):lkK (setK cs c v) i=if i=c then v else lkK cs i:=by
 simp only[lkK,setK];rw[cl_up hc hi];split<;>rfl
def lf_setK {cs:List Cl}{c i v:Int}(hc:0<=c/\c<cs.length)(hi:0<=i):lf (setK cs c v) i=lf cs i:=by
 simp only[lf,setK];rw[cl_up hc hi];split
 ·rename_i e;subst e;rfl
 rfl
def z3h {cs:List Cl}{c i v:Int}(hc:0<=c/\c<cs.length)(hi:0<=i):rt (z4b cs c v) i=rt cs i:=by
 simp only[rt,z4b];rw[cl_up hc hi];split
 ·rename_i e;subst e;rfl
 rfl
def z4r {cs:List Cl}{c i v:Int}(hc:0<=c/\c<cs.length)(hi:0<=i):gn (z4b cs c v) i=gn cs i:=by
 simp only[gn,z4b];rw[cl_up hc hi];split
 ·rename_i e;subst e;rfl
 rfl
def lk_setF {cs:List Cl}{c i v:Int}(hc:0<=c/\c<cs.length)(hi:0<=i):lkK (z4b cs c v) i=lkK cs i:=by
 simp only[lkK,z4b];rw[cl_up hc hi];split
 ·rename_i e;subst e;rfl
 rfl
def lf_setF {cs:List Cl}{c i v:Int}(hc:0<=c/\c<cs.length)(hi:0<=i):lf (z4b cs c v) i=if i=c then v else lf cs i:=by
 simp only[lf,z4b];rw[cl_up hc hi];split<;>rfl
def findK (cs:List Cl)(x:Pr):Pr:=
 if z1m cs x.succ x.cell then {x with pred:=x.succ,succ:=(cl cs x.succ.toNat).right}
 else if x.kind=3 then {x with phase:=4} else {x with phase:=2}
def failK (cs:List Cl)(x:Pr):Bool:=gn cs x.pred||gn cs x.succ||rt cs x.pred !=x.succ
def z60 (cs:List Cl)(x:Pr):Pr:=
 if x.kind=3 then {x with res:=x.succ==x.cell && !gn cs x.cell,phase:=18}
 else if failK cs x then {x with phase:=5}
 else if x.kind==1 && !(x.succ==x.cell) then {x with phase:=6}
 else if x.kind==2 && x.succ==x.cell then {x with phase:=9}
 else {x with phase:=13}
def z5x (cs:List Cl)(x:Pr):Bool:=(x.phase==2 && lkK cs x.pred !=0)||(x.phase==3 && lkK cs x.succ !=0)||(x.phase==9 && lkK cs (rt cs x.cell) !=0)
def z1c (cs:List Cl)(p:Nat)(x:Pr):List Cl:=
 if x.phase=2 then if lkK cs x.pred=0 then setK cs x.pred (p+1) else cs
 else if x.phase=3 then if lkK cs x.succ=0 then setK cs x.succ (p+1) else cs
 else if x.phase=5 then unlk cs p
 else if x.phase=6 then z2s (z4b cs x.cell x.pred) x.cell x.succ
 else if x.phase=7 then setU (z2s cs x.pred x.cell) x.cell
 else if x.phase=8 then z4b cs x.succ x.cell
 else if x.phase=9 then if lkK cs (rt cs x.cell)=0 then setK cs (rt cs x.cell) (p+1) else cs
 else if x.phase=10 then setG cs x.cell
 else if x.phase=11 then z2s cs x.pred x.next
 else if x.phase=12 then z4b cs x.next x.pred
 else if x.phase=13 then unlk cs p else cs
def z1d (cs:List Cl)(x:Pr):Pr:=
 if x.phase=1 then findK cs x
 else if x.phase=2 then if lkK cs x.pred=0 then {x with phase:=3} else x
 else if x.phase=3 then if lkK cs x.succ=0 then {x with phase:=4} else x
 else if x.phase=4 then z60 cs x
 else if x.phase=5 then {x with pred:=0,succ:=rt cs 0,phase:=1}
 else if x.phase=6 then {x with phase:=7}
 else if x.phase=7 then {x with phase:=8}
 else if x.phase=8 then {x with res:=true,phase:=13}
 else if x.phase=9 then if lkK cs (rt cs x.cell)=0 then {x with next:=rt cs x.cell,phase:=10} else x
 else if x.phase=10 then {x with phase:=11}
 else if x.phase=11 then {x with phase:=12}
 else if x.phase=12 then {x with res:=true,phase:=13}
 else if x.phase=13 then {x with phase:=18} else x
def z1v (cs:List Cl)(x:Pr):Bool:=decide (1<=x.phase/\x.phase<=13) && !z5x cs x
inductive Tr (cs:List Cl) (p:Nat) (x:Pr):List Cl->Pr->Prop
 |adv (h:x.phase=1) (hl:z1m cs x.succ x.cell=true):Tr cs p x cs {x with pred:=x.succ,succ:=rt cs x.succ}
 |seek (h:x.phase=1) (hl:z1m cs x.succ x.cell=false) (hk:x.kind=3):Tr cs p x cs {x with phase:=4}
 |aim (h:x.phase=1) (hl:z1m cs x.succ x.cell=false) (hk:x.kind≠3):Tr cs p x cs {x with phase:=2}
 |lockP (h:x.phase=2) (hf:lkK cs x.pred=0):Tr cs p x (setK cs x.pred (p+1)) {x with phase:=3}
 |lockS (h:x.phase=3) (hf:lkK cs x.succ=0):Tr cs p x (setK cs x.succ (p+1)) {x with phase:=4}
 |found (h:x.phase=4) (hk:x.kind=3):Tr cs p x cs {x with res:=x.succ==x.cell && !gn cs x.cell,phase:=18}
 |again (h:x.phase=4) (hk:x.kind≠3) (hb:failK cs x=true):Tr cs p x cs {x with phase:=5}
 |ins (h:x.phase=4) (hk:x.kind=1) (hb:failK cs x=false) (hs:x.succ≠x.cell):Tr cs p x cs {x with phase:=6}
 |rem (h:x.phase=4) (hk:x.kind=2) (hb:failK cs x=false) (hs:x.succ=x.cell):Tr cs p x cs {x with phase:=9}
 |no (h:x.phase=4) (hk:x.kind≠3) (hb:failK cs x=false) (h1:x.kind=1->x.succ=x.cell) (h2:x.kind=2->x.succ≠x.cell):Tr cs p x cs {x with phase:=13}
 |retry (h:x.phase=5):Tr cs p x (unlk cs p) {x with pred:=0,succ:=rt cs 0,phase:=1}
 |link0 (h:x.phase=6):Tr cs p x (z2s (z4b cs x.cell x.pred) x.cell x.succ) {x with phase:=7}
 |link1 (h:x.phase=7):Tr cs p x (setU (z2s cs x.pred x.cell) x.cell) {x with phase:=8}
 |link2 (h:x.phase=8):Tr cs p x (z4b cs x.succ x.cell) {x with res:=true,phase:=13}
 |lockN (h:x.phase=9) (hf:lkK cs (rt cs x.cell)=0):Tr cs p x (setK cs (rt cs x.cell) (p+1)) {x with next:=rt cs x.cell,phase:=10}
 |un0 (h:x.phase=10):Tr cs p x (setG cs x.cell) {x with phase:=11}
 |un1 (h:x.phase=11):Tr cs p x (z2s cs x.pred x.next) {x with phase:=12}
 |un2 (h:x.phase=12):Tr cs p x (z4b cs x.next x.pred) {x with res:=true,phase:=13}
 |rel (h:x.phase=13):Tr cs p x (unlk cs p) {x with phase:=18}
def Tr.of {cs:List Cl}{p:Nat}{x:Pr}(h:z1v cs x=true):Tr cs p x (z1c cs p x) (z1d cs x):=by
 rw[z1v,qj,qm,qn] at h;obtain⟨⟨h1,h2⟩,hw⟩:=h;simp only[z5x,qk,qC,qD,qF] at hw;have hp:x.phase=1\/x.phase=2\/x.phase=3\/x.phase=4\/x.phase=5\/x.phase=6\/x.phase=7\/x.phase=8\/x.phase=9\/x.phase=10\/x.phase=11\/x.phase=12\/x.phase=13:=by omega
 rcases hp with h|h|h|h|h|h|h|h|h|h|h|h|h
 ·rw[show z1c cs p x=cs by simp[z1c,h],show z1d cs x=findK cs x by simp[z1d,h],findK]
  split
  ·exact .adv h ‹_›
  rename_i hl;have hl:z1m cs x.succ x.cell=false:=by simpa using hl
  split
  ·exact .seek h hl ‹_›
  exact .aim h hl ‹_›
 ·have hf:=hw.1.1 h;rw[show z1c cs p x=setK cs x.pred (p+1) by simp[z1c,h,hf],show z1d cs x={x with phase:=3} by simp[z1d,h,hf]];exact .lockP h hf
 ·have hf:=hw.1.2 h;rw[show z1c cs p x=setK cs x.succ (p+1) by simp[z1c,h,hf],show z1d cs x={x with phase:=4} by simp[z1d,h,hf]];exact .lockS h hf
 ·rw[show z1c cs p x=cs by simp[z1c,h],show z1d cs x=z60 cs x by simp[z1d,h],z60]
  split
  ·exact .found h ‹_›
  rename_i hk
  split
  ·exact .again h hk ‹_›
  rename_i hb;have hb:failK cs x=false:=by simpa using hb
  split
  ·rename_i g;simp only[qj,qD,qn,qH] at g;exact .ins h g.1 hb g.2
  rename_i g
  split
  ·rename_i g2;simp only[qj,qD] at g2;exact .rem h g2.1 hb g2.2
  rename_i g2;refine .no h hk hb (fun e=> ?_) fun e e2=>g2 (by rw[e,e2];simp);refine Decidable.byContradiction fun e2=>g ?_;rw[e];simpa using e2
 ·rw[show z1c cs p x=unlk cs p by simp[z1c,h],show z1d cs x={x with pred:=0,succ:=rt cs 0,phase:=1} by simp[z1d,h]];exact .retry h
 ·rw[show z1c cs p x=z2s (z4b cs x.cell x.pred) x.cell x.succ by simp[z1c,h],show z1d cs x={x with phase:=7} by simp[z1d,h]];exact .link0 h
 ·rw[show z1c cs p x=setU (z2s cs x.pred x.cell) x.cell by simp[z1c,h],show z1d cs x={x with phase:=8} by simp[z1d,h]];exact .link1 h
 ·rw[show z1c cs p x=z4b cs x.succ x.cell by simp[z1c,h],show z1d cs x={x with res:=true,phase:=13} by simp[z1d,h]];exact .link2 h
 ·have hf:=hw.2 h;rw[show z1c cs p x=setK cs (rt cs x.cell) (p+1) by simp[z1c,h,hf],show z1d cs x={x with next:=rt cs x.cell,phase:=10} by simp[z1d,h,hf]];exact .lockN h hf
 ·rw[show z1c cs p x=setG cs x.cell by simp[z1c,h],show z1d cs x={x with phase:=11} by simp[z1d,h]];exact .un0 h
 ·rw[show z1c cs p x=z2s cs x.pred x.next by simp[z1c,h],show z1d cs x={x with phase:=12} by simp[z1d,h]];exact .un1 h
 ·rw[show z1c cs p x=z4b cs x.next x.pred by simp[z1c,h],show z1d cs x={x with res:=true,phase:=13} by simp[z1d,h]];exact .un2 h
 rw[show z1c cs p x=unlk cs p by simp[z1c,h],show z1d cs x={x with phase:=18} by simp[z1d,h]];exact .rel h
def TT (cs:List Cl)(i:Int):Prop:=0<=i/\i<cs.length/\(i=1\/z1m cs i (rt cs i)=true)
structure Core (cs:List Cl) (l:List Int):Prop where
 seg:Seg cs 0 l 1
 two:2<=cs.length
 g0:gn cs 0=false
 g1:gn cs 1=false
 rng:∀i,i∈l->0<=i/\i<cs.length
 clo:∀i,TT cs i->i≠1->TT cs (rt cs i)
 inl:∀i:Int,2<=i->i<cs.length->gn cs i=false->i∈l
def Core.rng0 {cs:List Cl}{l:List Int}(h:Core cs l){i:Int}(hi:i∈0::l):0<=i/\i<cs.length:=by
 have:=h.two;rcases qv.1 hi with e|e
 ·omega
 exact h.rng i e
def Core.at {cs:List Cl}{l:List Int}(h:Core cs l){p:Int}(hp:p∈0::l)(h1:p≠1):
  ∃A B,l=A++rt cs p::B/\Seg cs 0 A p/\Seg cs p (rt cs p::B) 1:=by
 obtain⟨A,B,e,hA,hB⟩:=h.seg.split hp
 cases B with
 |nil=>exact absurd hB h1
 |cons y B=>
  have:=hB.2.1;subst this;exact⟨A,B,e,hA,hB⟩
def Core.next_mem {cs:List Cl}{l:List Int}(h:Core cs l){p:Int}(hp:p∈0::l)(h1:p≠1):rt cs p∈l/\z1m cs p (rt cs p)=true:=by
 obtain⟨A,B,e,_,hB⟩:=h.at hp h1;exact⟨by rw[e];exact Qg _ (qo ..),hB.2.2.1⟩
def Core.mem_T {cs:List Cl}{l:List Int}(h:Core cs l){i:Int}(hi:i∈0::l):TT cs i:=by
 have hr:=h.rng0 hi;refine⟨hr.1,hr.2,?_⟩
 by_cases h1:i=1
 ·exact .inl h1
 exact .inr (h.next_mem hi h1).2
def Core.live {cs:List Cl}{l:List Int}(h:Core cs l){i:Int}(h0:0<=i)(hn:i<cs.length)(hg:gn cs i=false):i∈0::l:=by
 by_cases e0:i=0
 ·subst e0;exact qo ..
 by_cases e1:i=1
 ·subst e1;exact h.seg.ends
 exact qp _ (h.inl i (by omega) hn hg)
def Core.above {cs:List Cl}{l:List Int}(h:Core cs l){a b:Int}(ha:a∈0::l)(h1:a≠1)(hb:b∈0::l):b=a\/z1m cs b a=true\/b=rt cs a\/z1m cs (rt cs a) b=true:=by
 obtain⟨A,B,e,hA,hB⟩:=h.at ha h1;rw[e] at hb;rcases qv.1 hb with e1|e1
 ·rcases hA.mem_le (x:=b) (by rw[e1];exact qo ..) with g|g
  ·exact .inl g
  exact .inr (.inl g)
 rcases Qa.1 e1 with e2|e2
 ·rcases hA.mem_le (x:=b) (qp _ e2) with g|g
  ·exact .inl g
  exact .inr (.inl g)
 rcases qv.1 e2 with e3|e3
 ·exact .inr (.inr (.inl e3))
 exact .inr (.inr (.inr (hB.2.2.2.ge e3)))
def Core.gap {cs:List Cl}{l:List Int}(h:Core cs l){a c:Int}(ha:a∈0::l)(h1:z1m cs a c=true)(h2:z1m cs c (rt cs a)=true):c∉0::l:=by
 intro hc;have hne:a≠1:=(z1s.1 h1).2.1;rcases h.above ha hne hc with e|e|e|e
 ·exact z57 h1 e.symm
 ·have:=less_asym h1;rw[e] at this;cases this
 ·exact z57 h2 e
 have:=less_asym h2;rw[e] at this;cases this
def Core.gap_uniq {cs:List Cl}{l:List Int}(h:Core cs l){a b c:Int}(ha:a∈0::l)(hb:b∈0::l)(h1:z1m cs a c=true)(h2:z1m cs c (rt cs a)=true)(h3:z1m cs b c=true)(h4:z1m cs c (rt cs b)=true):a=b:=by
 have key:∀{a b:Int},a∈0::l->b∈0::l->z1m cs a c=true->z1m cs c (rt cs a)=true->z1m cs b c=true->b=a\/z1m cs b a=true:=fun {a b} ha hb h1 h2 h3=>by
  rcases h.above ha (z1s.1 h1).2.1 hb with e|e|e|e
  ·exact .inl e
  ·exact .inr e
  ·have:=less_asym h3;rw[<-e] at h2;rw[h2] at this;cases this
  have:=z32 h3 (z32 h2 e);rw[lessC_irr] at this;cases this
 rcases key ha hb h1 h2 h3 with e|e
 ·exact e.symm
 rcases key hb ha h3 h4 h1 with e'|e'
 ·exact e'
 have:=less_asym e;rw[e'] at this;cases this
def Core.inj {cs:List Cl}{l:List Int}(h:Core cs l){a b:Int}(ha:a∈0::l)(hb:b∈0::l)(h1:a≠1)(h2:b≠1)(e:rt cs a=rt cs b):a=b:=by
 have key:∀{a b:Int},a∈0::l->b∈0::l->a≠1->b≠1->rt cs a=rt cs b->b=a\/z1m cs b a=true:=fun {a b} ha hb h1 h2 e=>by
  have hb2:=(h.next_mem hb h2).2;rcases h.above ha h1 hb with g|g|g|g
  ·exact .inl g
  ·exact .inr g
  ·rw[e] at g;rw[<-g,lessC_irr] at hb2;cases hb2
  rw[e] at g;have:=less_asym hb2;rw[g] at this;cases this
 rcases key ha hb h1 h2 e with g|g
 ·exact g.symm
 rcases key hb ha h2 h1 e.symm with g'|g'
 ·exact g'
 have:=less_asym g;rw[g'] at this;cases this
def TT.same {cs ds:List Cl}(hk:z41 cs ds){i:Int}(hr:rt ds i=rt cs i):TT ds i↔TT cs i:=by
 unfold TT;rw[hk.len,hr,hk.less]
def Core.same {cs ds:List Cl}{l:List Int}(h:Core cs l)(hk:z41 cs ds)(hr:∀i:Int,0<=i->rt ds i=rt cs i)(hg:∀i:Int,0<=i->gn ds i=gn cs i):Core ds l:=by
 refine⟨h.seg.frame hk fun x hx _=>hr x (h.rng0 hx).1,by rw[hk.len];exact h.two,by rw[hg 0 (by omega)];exact h.g0,by rw[hg 1 (by omega)];exact h.g1,fun i hi=>by rw[hk.len];exact h.rng i hi,fun i hi h1=> ?_,fun i h2 hn hgi=> ?_⟩
 ·have hi':=(TT.same hk (hr i hi.1)).1 hi;have h3:=h.clo i hi' h1;rw[hr i hi.1];exact(TT.same hk (hr _ h3.1)).2 h3
 rw[hk.len] at hn;rw[hg i (by omega)] at hgi;exact h.inl i h2 hn hgi
def Core.mark {cs:List Cl}{l:List Int}(h:Core cs l){c:Int}(hc:2<=c/\c<cs.length):Core (setG cs c) l:=by
 have hr:0<=c/\c<cs.length:=⟨by omega,hc.2⟩;have hk:=key_setG cs c;refine⟨h.seg.frame hk fun x hx _=>rt_setG hr (h.rng0 hx).1,by rw[hk.len];exact h.two,?_,?_,fun i hi=>by rw[hk.len];exact h.rng i hi,fun i hi h1=> ?_,fun i h2 hn hgi=> ?_⟩
 ·rw[gn_setG hr (by omega),qc (by omega)];exact h.g0
 ·rw[gn_setG hr (by omega),qc (by omega)];exact h.g1
 ·have hi':=(TT.same hk (rt_setG hr hi.1)).1 hi;have h3:=h.clo i hi' h1;rw[rt_setG hr hi.1];exact(TT.same hk (rt_setG hr h3.1)).2 h3
 rw[hk.len] at hn;rw[gn_setG hr (by omega)] at hgi
 split at hgi
 ·cases hgi
 exact h.inl i h2 hn hgi
def Core.lay {cs:List Cl}{l:List Int}(h:Core cs l){c a s:Int}(hc:2<=c/\c<cs.length)(hn:c∉0::l)(hs:TT cs s)(hcs:z1m cs c s=true):Core (z2s (z4b cs c a) c s) l/\∀i,TT (z2s (z4b cs c a) c s) i↔TT cs i\/i=c:=by
 have hr:0<=c/\c<cs.length:=⟨by omega,hc.2⟩;have hkF:=z5d cs c a;have hrF:0<=c/\c<(z4b cs c a).length:=by rw[hkF.len];exact hr
 have hk:z41 cs (z2s (z4b cs c a) c s):=hkF.trans (z4m _ c s);have hrt:∀i:Int,0<=i->rt (z2s (z4b cs c a) c s) i=if i=c then s else rt cs i:=fun i hi=>by rw[rt_setR hrF hi,z3h hr hi]
 have hgn:∀i:Int,0<=i->gn (z2s (z4b cs c a) c s) i=gn cs i:=fun i hi=>by rw[gn_setR hrF hi,z4r hr hi]
 have hT:∀i,TT (z2s (z4b cs c a) c s) i↔TT cs i\/i=c:=fun i=>by
  by_cases e:i=c
  ·subst e;refine⟨fun _=> .inr rfl,fun _=>⟨hr.1,by rw[hk.len];exact hr.2,.inr ?_⟩⟩;rw[hrt i hr.1,qe rfl,hk.less];exact hcs
  constructor
  ·intro hi;exact .inl ((TT.same hk (by rw[hrt i hi.1,qc e])).1 hi)
  rintro(hi|hi)
  ·exact(TT.same hk (by rw[hrt i hi.1,qc e])).2 hi
  exact absurd hi e
 refine⟨⟨h.seg.frame hk fun x hx _=> ?_,by rw[hk.len];exact h.two,by rw[hgn 0 (by omega)];exact h.g0,by rw[hgn 1 (by omega)];exact h.g1,fun i hi=>by rw[hk.len];exact h.rng i hi,fun i hi h1=> ?_,fun i h2 hn hgi=> ?_⟩,hT⟩
 ·rw[hrt x (h.rng0 hx).1,qc (show¬x=c from fun e=>hn (e ▸ hx))]
 ·rw[hrt i hi.1]
  split
  ·exact(hT s).2 (.inl hs)
  rename_i e;rcases(hT i).1 hi with g|g
  ·exact(hT _).2 (.inl (h.clo i g h1))
  exact absurd g e
 rw[hk.len] at hn;rw[hgn i (by omega)] at hgi;exact h.inl i h2 hn hgi
def Core.insert {cs:List Cl}{l:List Int}(h:Core cs l){p c:Int}(hp:p∈0::l)(hc:2<=c/\c<cs.length)(hpc:z1m cs p c=true)(hcs:z1m cs c (rt cs p)=true)(hrc:rt cs c=rt cs p):
  ∃A B,l=A++rt cs p::B/\Core (setU (z2s cs p c) c) (A++c::rt cs p::B)/\∀i,TT (setU (z2s cs p c) c) i↔TT cs i:=by
 have h1:p≠1:=(z1s.1 hpc).2.1;obtain⟨A,B,e,hA,hB⟩:=h.at hp h1;have hr:=h.rng0 hp;have hcr:0<=c/\c<cs.length:=⟨by omega,hc.2⟩;have hcn:=h.gap hp hpc hcs;have hkR:=z4m cs p c;have hcR:0<=c/\c<(z2s cs p c).length:=by rw[hkR.len];exact hcr
 have hk:z41 cs (setU (z2s cs p c) c):=hkR.trans (key_setU _ c);have hrt:∀i:Int,0<=i->rt (setU (z2s cs p c) c) i=if i=p then c else rt cs i:=fun i hi=>by rw[rt_setU hcR hi,rt_setR hr hi]
 have hgn:∀i:Int,0<=i->gn (setU (z2s cs p c) c) i=if i=c then false else gn cs i:=fun i hi=>by rw[gn_setU hcR hi,gn_setR hr hi]
 have hT:∀i,TT (setU (z2s cs p c) c) i↔TT cs i:=fun i=>by
  by_cases e:i=p
  ·subst e;refine⟨fun _=>h.mem_T hp,fun _=>⟨hr.1,by rw[hk.len];exact hr.2,.inr ?_⟩⟩;rw[hrt i hr.1,qe rfl,hk.less];exact hpc
  constructor
  ·intro hi;exact(TT.same hk (by rw[hrt i hi.1,qc e])).1 hi
  intro hi;exact(TT.same hk (by rw[hrt i hi.1,qc e])).2 hi
 have hcT:TT cs c:=⟨hcr.1,hcr.2,.inr (by rw[hrc];exact hcs)⟩;obtain⟨b1,b2,b3,b4⟩:=hB;have hmem:∀x,x∈A++rt cs p::B->x∈l:=fun x hx=>by rw[e];exact hx
 refine⟨A,B,e,⟨Seg.append.2 ⟨p,hA.frame hk fun x hx hxp=> ?_,⟨h1,?_,?_,⟨by omega,?_,?_,b4.frame hk fun x hx _=> ?_⟩⟩⟩,by rw[hk.len];exact h.two,?_,?_,fun i hi=> ?_,fun i hi h1'=> ?_,fun i h2 hn hgi=> ?_⟩,hT⟩
 ·have hx0:x∈0::l:=by
   rcases qv.1 hx with e1|e1
   ·rw[e1];exact qo ..
   rw[e];exact qp _ (QD _ e1)
  rw[hrt x (h.rng0 hx0).1,qc hxp]
 ·rw[hrt p hr.1,qe rfl]
 ·rw[hk.less];exact hpc
 ·rw[hrt c hcr.1,qc (z57 hpc).symm,hrc]
 ·rw[hk.less];exact hcs
 ·have hx0:x∈0::l:=qp _ (hmem x (Qg _ hx))
  have hxp:x≠p:=by
   rcases qv.1 hx with e1|e1
   ·exact e1 ▸ (z57 b3).symm
   exact(z57 (z32 b3 (b4.ge e1))).symm
  rw[hrt x (h.rng0 hx0).1,qc hxp]
 ·rw[hgn 0 (by omega),qc (by omega)];exact h.g0
 ·rw[hgn 1 (by omega),qc (by omega)];exact h.g1
 ·rw[hk.len];rcases Qa.1 hi with hi|hi
  ·exact h.rng i (hmem i (QD _ hi))
  rcases qv.1 hi with e1|e1
  ·exact e1 ▸ hcr
  exact h.rng i (hmem i (Qg _ e1))
 ·have hi':=(hT i).1 hi;rw[hrt i hi.1]
  split
  ·exact(hT c).2 hcT
  exact(hT _).2 (h.clo i hi' h1')
 rw[hk.len] at hn;rw[hgn i (by omega)] at hgi
 split at hgi
 ·rename_i e1;subst e1;exact Qg _ (qo ..)
 have:=h.inl i h2 hn hgi;rw[e] at this;rcases Qa.1 this with e1|e1
 ·exact QD _ e1
 exact Qg _ (qp _ e1)
def Core.unlink {cs:List Cl}{l:List Int}(h:Core cs l){p c:Int}(hp:p∈0::l)(h1:p≠1)(hs:rt cs p=c)(hg:gn cs c=true):
  ∃A B,l=A++c::rt cs c::B/\Core (z2s cs p (rt cs c)) (A++rt cs c::B)/\∀i,TT (z2s cs p (rt cs c)) i↔TT cs i:=by
 obtain⟨A,B,e,hA,hB⟩:=h.at hp h1;rw[hs] at e hB;have hr:=h.rng0 hp;have hs1:c≠1:=by intro e1;rw[e1,h.g1] at hg;cases hg
 have hk:=z4m cs p (rt cs c);obtain⟨b1,b2,b3,b4⟩:=hB
 cases B with
 |nil=>exact absurd b4 hs1
 |cons y B=>
  have b5:=b4.2.1;subst b5;obtain⟨b6,b7,b8,b9⟩:=b4;have hpn:=z32 b3 b8;have hrt:∀i:Int,0<=i->rt (z2s cs p (rt cs c)) i=if i=p then rt cs c else rt cs i:=fun i hi=>rt_setR hr hi;have hgn:∀i:Int,0<=i->gn (z2s cs p (rt cs c)) i=gn cs i:=fun i hi=>gn_setR hr hi
  have hT:∀i,TT (z2s cs p (rt cs c)) i↔TT cs i:=fun i=>by
   by_cases e:i=p
   ·subst e;refine⟨fun _=>h.mem_T hp,fun _=>⟨hr.1,by rw[hk.len];exact hr.2,.inr ?_⟩⟩;rw[hrt i hr.1,qe rfl,hk.less];exact hpn
   constructor
   ·intro hi;exact(TT.same hk (by rw[hrt i hi.1,qc e])).1 hi
   intro hi;exact(TT.same hk (by rw[hrt i hi.1,qc e])).2 hi
  have hmem:∀x,x∈A++rt cs c::B->x∈l:=fun x hx=>by
   rw[e];rcases Qa.1 hx with hx|hx
   ·exact QD _ hx
   exact Qg _ (qp _ hx)
  have hnp:∀x,x∈rt cs c::B->x≠p:=fun x hx=>by
   rcases qv.1 hx with e1|e1
   ·exact e1 ▸ (z57 hpn).symm
   exact(z57 (z32 hpn (b9.ge e1))).symm
  have hcl:c∈l:=by rw[e];exact Qg _ (qo ..)
  refine⟨A,B,e,⟨Seg.append.2 ⟨p,hA.frame hk fun x hx hxp=> ?_,⟨h1,?_,?_,b9.frame hk fun x hx _=> ?_⟩⟩,by rw[hk.len];exact h.two,?_,?_,fun i hi=>by rw[hk.len];exact h.rng i (hmem i hi),fun i hi h1'=> ?_,fun i h2 hn hgi=> ?_⟩,hT⟩
  ·have hx0:x∈0::l:=by
    rcases qv.1 hx with e1|e1
    ·rw[e1];exact qo ..
    rw[e];exact qp _ (QD _ e1)
   rw[hrt x (h.rng0 hx0).1,qc hxp]
  ·rw[hrt p hr.1,qe rfl]
  ·rw[hk.less];exact hpn
  ·rw[hrt x (h.rng x (hmem x (Qg _ hx))).1,qc (hnp x hx)]
  ·rw[hgn 0 (by omega)];exact h.g0
  ·rw[hgn 1 (by omega)];exact h.g1
  ·have hi':=(hT i).1 hi;rw[hrt i hi.1]
   split
   ·exact(hT _).2 (h.clo c (h.mem_T (qp _ hcl)) hs1)
   exact(hT _).2 (h.clo i hi' h1')
  rw[hk.len] at hn;rw[hgn i (by omega)] at hgi;have:=h.inl i h2 hn hgi;rw[e] at this;rcases Qa.1 this with e1|e1
  ·exact QD _ e1
  rcases qv.1 e1 with e2|e2
  ·rw[e2,hg] at hgi;cases hgi
  exact Qg _ e2
def hol (x:Pr)(i:Int):Bool:= !(x.kind==3|| !z42 x||x.phase==1||x.phase==2) && (i==x.pred||(i==x.succ && x.phase !=3)||(i==x.next && x.next !=0 && decide (10<=x.phase/\x.phase<=13)))
structure PI (cs:List Cl) (x:Pr):Prop where
 c2:2<=x.cell
 pT:TT cs x.pred
 pl:z1m cs x.pred x.cell=true
 sT:TT cs x.succ
 nx:x.phase<=9->x.next=0
 ge:x.phase≠1->z1m cs x.succ x.cell=false
 k3:x.phase≠1->x.phase≠4->x.kind≠3
 gp:6<=x.phase->x.phase<=12->gn cs x.pred=false
 i67:x.phase=6\/x.phase=7->x.kind=1/\z1m cs x.cell x.succ=true/\gn cs x.succ=false/\rt cs x.pred=x.succ
 i7:x.phase=7->rt cs x.cell=x.succ/\lf cs x.cell=x.pred
 i8:x.phase=8->x.kind=1/\z1m cs x.cell x.succ=true/\gn cs x.succ=false/\rt cs x.pred=x.cell/\rt cs x.cell=x.succ
 r9:x.phase=9\/x.phase=10\/x.phase=11->x.kind=2/\x.succ=x.cell/\rt cs x.pred=x.cell
 r90:x.phase=9\/x.phase=10->gn cs x.cell=false
 r10:x.phase=10\/x.phase=11->x.next=rt cs x.cell/\gn cs x.next=false/\z1m cs x.cell x.next=true
 r11:x.phase=11->gn cs x.cell=true
 r12:x.phase=12->x.kind=2/\rt cs x.pred=x.next/\gn cs x.next=false/\z1m cs x.pred x.next=true
structure Inv (cs:List Cl) (ps:List Pr) (l:List Int):Prop where
 vb:z1y cs ps=true
 core:Core cs l
 gin:∀i,i∈l->gn cs i=true->∃q,q<ps.length/\(pr ps q).phase=11/\(pr ps q).cell=i
 lks:∀i:Int,0<=i->i<cs.length->∀q,q<ps.length->(lkK cs i=(q:Int)+1↔hol (pr ps q) i=true)
 prc:∀q,q<ps.length->z42 (pr ps q)=true->PI cs (pr ps q)
 lef:∀i,i∈0::l->i≠1->lf cs (rt cs i)=i\/∃q,q<ps.length/\((pr ps q).phase=8/\(pr ps q).cell=i/\(pr ps q).succ=rt cs i\/(pr ps q).phase=12/\(pr ps q).pred=i/\(pr ps q).next=rt cs i)
def z5z {x:Pr}:z42 x=true↔x.phase≠0/\x.phase≠18:=by simp[z42]
def hol_pred {x:Pr}(ha:3<=x.phase)(h18:x.phase≠18)(hk:x.kind≠3):hol x x.pred=true:=by
 have h0:z42 x=true:=z5z.2 ⟨by omega,h18⟩;simp[hol,h0,hk];omega
def hol_succ {x:Pr}(ha:4<=x.phase)(h18:x.phase≠18)(hk:x.kind≠3):hol x x.succ=true:=by
 have h0:z42 x=true:=z5z.2 ⟨by omega,h18⟩;simp[hol,h0,hk];omega
def hol_next {x:Pr}(ha:10<=x.phase)(hb:x.phase<=13)(hn:x.next≠0)(hk:x.kind≠3):hol x x.next=true:=by
 have h0:z42 x=true:=z5z.2 ⟨by omega,by omega⟩;simp[hol,h0,hk,hn];omega
def Inv.excl {cs:List Cl}{ps:List Pr}{l:List Int}(h:Inv cs ps l){p q:Nat}(hp:p<ps.length)(hq:q<ps.length)(hne:q≠p){i:Int}(h1:hol (pr ps p) i=true)(h2:hol (pr ps q) i=true)(h0:0<=i)(hn:i<cs.length):False:=by
 have e1:=(h.lks i h0 hn p hp).2 h1;have e2:=(h.lks i h0 hn q hq).2 h2;omega
def PI.mono {cs ds:List Cl}{x:Pr}(h:PI cs x)(hk:z41 cs ds)(hT:∀i,TT cs i->TT ds i)
  (hp:6<=x.phase->x.phase<=12->gn ds x.pred=gn cs x.pred/\rt ds x.pred=rt cs x.pred)
  (hs:6<=x.phase->x.phase<=8->gn ds x.succ=gn cs x.succ)
  (h9:x.phase=9\/x.phase=10\/x.phase=11->gn ds x.cell=gn cs x.cell)
  (hc:x.phase=7\/x.phase=8\/x.phase=10\/x.phase=11->rt ds x.cell=rt cs x.cell)
  (h7:x.phase=7->lf ds x.cell=lf cs x.cell)
  (hn:10<=x.phase->x.phase<=12->gn ds x.next=gn cs x.next):PI ds x:=by
 refine⟨h.c2,hT _ h.pT,by rw[hk.less];exact h.pl,hT _ h.sT,h.nx,fun e=>by rw[hk.less];exact h.ge e,h.k3,fun e1 e2=>by rw[(hp e1 e2).1];exact h.gp e1 e2,fun e=> ?_,fun e=> ?_,fun e=> ?_,fun e=> ?_,fun e=> ?_,fun e=> ?_,fun e=> ?_,fun e=> ?_⟩
 ·have:=h.i67 e;rw[hk.less,hs (by omega) (by omega),(hp (by omega) (by omega)).2];exact this
 ·rw[hc (by omega),h7 e];exact h.i7 e
 ·rw[hk.less,hs (by omega) (by omega),(hp (by omega) (by omega)).2,hc (by omega)];exact h.i8 e
 ·rw[(hp (by omega) (by omega)).2];exact h.r9 e
 ·rw[h9 (by omega)];exact h.r90 e
 ·rw[hc (by omega),hn (by omega) (by omega),hk.less];exact h.r10 e
 ·rw[h9 (by omega)];exact h.r11 e
 rw[(hp (by omega) (by omega)).2,hn (by omega) (by omega),hk.less];exact h.r12 e
def Inv.next {cs ds:List Cl}{ps:List Pr}{l l':List Int}(h:Inv cs ps l){p:Nat}{y:Pr}(hp:p<ps.length)(hk:z41 cs ds)
  (hc:∀i:Int,0<=i->i<cs.length->(0<=lf ds i/\lf ds i<cs.length)/\(0<=rt ds i/\rt ds i<cs.length))
  (hl:∀i:Int,0<=i->i<cs.length->lkK ds i=if hol y i=true then(p:Int)+1 else if lkK cs i=(p:Int)+1 then 0 else lkK cs i)
  (hl0:∀i:Int,0<=i->i<cs.length->hol y i=true->lkK cs i=0\/lkK cs i=(p:Int)+1)
  (hy:PrOk cs.length y) (hyk:y.kind=(pr ps p).kind) (hph:1<=y.phase/\(y.phase<=13\/y.phase=18)) (ha:z42 (pr ps p)=true)
  (hcore:Core ds l')
  (hg:∀i,i∈l'->gn ds i=true->∃q,q<ps.length/\((q≠p/\(pr ps q).phase=11/\(pr ps q).cell=i)\/(q=p/\y.phase=11/\y.cell=i)))
  (hPo:∀q,q≠p->q<ps.length->z42 (pr ps q)=true->PI ds (pr ps q))
  (hPI:z42 y=true->PI ds y)
  (hlef:∀i,i∈0::l'->i≠1->lf ds (rt ds i)=i\/∃q,q<ps.length/\((q≠p/\((pr ps q).phase=8/\(pr ps q).cell=i/\(pr ps q).succ=rt ds i\/(pr ps q).phase=12/\(pr ps q).pred=i/\(pr ps q).next=rt ds i))\/(q=p/\(y.phase=8/\y.cell=i/\y.succ=rt ds i\/y.phase=12/\y.pred=i/\y.next=rt ds i)))):Inv ds (ps.set p y) l':=by
 have hv:=z4g h.vb;refine⟨?_,hcore,fun i hi hgi=> ?_,fun i h0 hn q hq=> ?_,fun q h1 h2=> ?_,fun i hi h1=> ?_⟩
 ·refine valid_mk h.vb hk (by simp) (fun i hi=> ?_) fun i hi=> ?_
  ·have h1:=hc i (by omega) (by omega);have h2:=hl i (by omega) (by omega);have h3:=hv.cell i hi;have h3':0<=lkK cs (i:Int)/\lkK cs (i:Int)<=ps.length:=h3.2.2
   have h4:0<=lkK ds (i:Int)/\lkK ds (i:Int)<=ps.length:=by
    rw[h2]
    split
    ·omega
    split<;>omega
   exact⟨h1.1,h1.2,h4⟩
  by_cases e:p=i
  ·subst e;rw[z3q hp,hyk];have h3:=hv.kind p hi;refine⟨hy,by simp only[z2b,qm];omega,h3.1,h3.2.1,fun e=> ?_,fun e=>absurd e (by omega)⟩;have:=h3.2.2.1 e;exact absurd this (z5z.1 ha).1
  rw[z2l e];have h3:=hv.kind i hi;exact⟨hv.proc i hi,hv.phase i hi,h3.1,h3.2.1,h3.2.2⟩
 ·obtain⟨q,h1,h2⟩:=hg i hi hgi;refine⟨q,by simpa using h1,?_⟩;rcases h2 with⟨e,h2⟩|⟨e,h2⟩
  ·rw[z2l (Qt e)];exact h2
  subst e;rw[z3q hp];exact h2
 ·rw[hk.len] at hn;rw[qy] at hq;have h1:=hl i h0 hn;have h2:=h.lks i h0 hn
  by_cases e:p=q
  ·subst e;rw[z3q hp,h1]
   split
   ·rename_i g;simp[g]
   rename_i g
   split
   ·simp[g];omega
   rename_i g2;simp[g,g2]
  rw[z2l e,h1,<-h2 q hq]
  split
  ·rename_i g;have:=hl0 i h0 hn g;omega
  split<;>omega
 ·rw[qy] at h1
  by_cases e:p=q
  ·subst e;rw[z3q hp] at h2 ⊢;exact hPI h2
  rw[z2l e] at h2 ⊢;exact hPo q (Qt e) h1 h2
 rcases hlef i hi h1 with g|⟨q,g1,g2⟩
 ·exact .inl g
 refine .inr ⟨q,by simpa using g1,?_⟩;rcases g2 with⟨e,g2⟩|⟨e,g2⟩
 ·rw[z2l (Qt e)];exact g2
 subst e;rw[z3q hp];exact g2
def rt_in {cs:List Cl}{ps:List Pr}(hv:Vld cs ps){i:Int}(h0:0<=i)(hn:i<cs.length):0<=rt cs i/\rt cs i<cs.length:=(hv.cell i.toNat (by omega)).2.1
def lf_in {cs:List Cl}{ps:List Pr}(hv:Vld cs ps){i:Int}(h0:0<=i)(hn:i<cs.length):0<=lf cs i/\lf cs i<cs.length:=(hv.cell i.toNat (by omega)).1
def Inv.quiet {cs ds:List Cl}{ps:List Pr}{l:List Int}(h:Inv cs ps l){p:Nat}{y:Pr}(hp:p<ps.length)(hk:z41 cs ds)
  (hsm:∀i:Int,0<=i->rt ds i=rt cs i/\gn ds i=gn cs i/\lf ds i=lf cs i)
  (hl:∀i:Int,0<=i->i<cs.length->lkK ds i=if hol y i=true then(p:Int)+1 else if lkK cs i=(p:Int)+1 then 0 else lkK cs i)
  (hl0:∀i:Int,0<=i->i<cs.length->hol y i=true->lkK cs i=0\/lkK cs i=(p:Int)+1)
  (hy:PrOk cs.length y) (hyk:y.kind=(pr ps p).kind) (hph:1<=y.phase/\(y.phase<=13\/y.phase=18)) (ha:z42 (pr ps p)=true)
  (h8:(pr ps p).phase≠8) (h11:(pr ps p).phase≠11) (h12:(pr ps p).phase≠12)
  (hPI:z42 y=true->PI cs y):Inv ds (ps.set p y) l:=by
 have hv:=z4g h.vb;have hT:∀i,TT cs i->TT ds i:=fun i hi=>(TT.same hk (hsm i hi.1).1).2 hi;have hmono:∀{x:Pr},PI cs x->PrOk cs.length x->PI ds x:=fun {x} g ok=>g.mono hk hT (fun _ _=>⟨(hsm _ ok.pred.1).2.1,(hsm _ ok.pred.1).1⟩) (fun _ _=>(hsm _ ok.succ.1).2.1) (fun _=>(hsm _ ok.cell.1).2.1) (fun _=>(hsm _ ok.cell.1).1) (fun _=>(hsm _ ok.cell.1).2.2) fun _ _=>(hsm _ ok.next.1).2.1;refine h.next hp hk (fun i h0 hn=> ?_) hl hl0 hy hyk hph ha (h.core.same hk (fun i hi=>(hsm i hi).1) fun i hi=>(hsm i hi).2.1) (fun i hi hg=> ?_) (fun q _ h1 h2=>hmono (h.prc q h1 h2) (hv.proc q h1)) (fun e=>hmono (hPI e) hy) fun i hi h1=> ?_
 ·rw[(hsm i h0).1,(hsm i h0).2.2];exact⟨lf_in hv h0 hn,rt_in hv h0 hn⟩
 ·rw[(hsm i (h.core.rng i hi).1).2.1] at hg;obtain⟨q,g1,g2,g3⟩:=h.gin i hi hg;exact⟨q,g1,.inl ⟨fun e=>h11 (e ▸ g2),g2,g3⟩⟩
 have h0:=h.core.rng0 hi;have h2:=rt_in hv h0.1 h0.2;rw[(hsm i h0.1).1,(hsm _ h2.1).2.2];rcases h.lef i hi h1 with g|⟨q,g1,g2⟩
 ·exact .inl g
 refine .inr ⟨q,g1,.inl ⟨fun e=> ?_,g2⟩⟩;subst e;rcases g2 with g2|g2
 ·exact h8 g2.1
 exact h12 g2.1
def z63 {cs ds:List Cl}{ps:List Pr}{l:List Int}(h:Inv cs ps l){p:Nat}{y:Pr}(hp:p<ps.length)(hh:∀i,hol y i=hol (pr ps p) i)(hd:∀i:Int,0<=i->lkK ds i=lkK cs i):
  (∀i:Int,0<=i->i<cs.length->lkK ds i=if hol y i=true then(p:Int)+1 else if lkK cs i=(p:Int)+1 then 0 else lkK cs i)/\∀i:Int,0<=i->i<cs.length->hol y i=true->lkK cs i=0\/lkK cs i=(p:Int)+1:=by
 refine⟨fun i h0 hn=> ?_,fun i h0 hn g=> ?_⟩
 ·have h1:=h.lks i h0 hn p hp;rw[hd i h0,hh]
  by_cases g:hol (pr ps p) i=true
  ·rw[qe g];exact h1.2 g
  rw[qc g,qc fun e=>g (h1.1 e)]
 rw[hh] at g;exact .inr ((h.lks i h0 hn p hp).2 g)
def hl_lock {cs:List Cl}{ps:List Pr}{l:List Int}(h:Inv cs ps l){p:Nat}{y:Pr}(hp:p<ps.length){c:Int}(hc:0<=c/\c<cs.length)(hf:lkK cs c=0)(hh:∀i,hol y i=(hol (pr ps p) i||i==c)):
  (∀i:Int,0<=i->i<cs.length->lkK (setK cs c (p+1)) i=if hol y i=true then(p:Int)+1 else if lkK cs i=(p:Int)+1 then 0 else lkK cs i)/\∀i:Int,0<=i->i<cs.length->hol y i=true->lkK cs i=0\/lkK cs i=(p:Int)+1:=by
 refine⟨fun i h0 hn=> ?_,fun i h0 hn g=> ?_⟩
 ·have h1:=h.lks i h0 hn p hp;rw[lk_setK hc h0,hh]
  by_cases e:i=c
  ·subst e;simp
  rw[qc e];have e':(i==c)=false:=by simpa using e
  rw[e',jl]
  by_cases g:hol (pr ps p) i=true
  ·rw[qe g];exact h1.2 g
  rw[qc g,qc fun e=>g (h1.1 e)]
 rw[hh] at g
 by_cases e:i=c
 ·subst e;exact .inl hf
 have e':(i==c)=false:=by simpa using e
 rw[e',jl] at g;exact .inr ((h.lks i h0 hn p hp).2 g)
def hl_free {cs:List Cl}{p:Nat}{y:Pr}(hh:∀i,hol y i=false):
  (∀i:Int,0<=i->i<cs.length->lkK (unlk cs p) i=if hol y i=true then(p:Int)+1 else if lkK cs i=(p:Int)+1 then 0 else lkK cs i)/\∀i:Int,0<=i->i<cs.length->hol y i=true->lkK cs i=0\/lkK cs i=(p:Int)+1:=by
 refine⟨fun i h0 hn=> ?_,fun i h0 hn g=> ?_⟩
 ·rw[lk_unlk,hh];rfl
 rw[hh] at g;cases g
def k3' {a:Int}(h:a≠3):(a==3)=false:=by simpa using h
def n0' {a:Int}(h:a≠0):(a !=0)=true:=by simpa using h
def fail_iff {cs:List Cl}{x:Pr}:failK cs x=false↔gn cs x.pred=false/\gn cs x.succ=false/\rt cs x.pred=x.succ:=by
 simp[failK,and_assoc]
structure Beside (cs:List Cl) (ps:List Pr) (l:List Int) (p q:Nat):Prop where
 z:PI cs (pr ps q)
 ok:PrOk cs.length (pr ps q)
 pm:6<=(pr ps q).phase->(pr ps q).phase<=12->(pr ps q).pred∈0::l
 cn:(pr ps q).phase=6\/(pr ps q).phase=7->(pr ps q).cell∉0::l
 cm:8<=(pr ps q).phase->(pr ps q).phase<=11->(pr ps q).cell∈0::l
 hp:6<=(pr ps q).phase->(pr ps q).phase<=12->hol (pr ps q) (pr ps q).pred=true
 hs:6<=(pr ps q).phase->(pr ps q).phase<=12->hol (pr ps q) (pr ps q).succ=true
 hn:10<=(pr ps q).phase->(pr ps q).phase<=12->hol (pr ps q) (pr ps q).next=true
def Inv.beside {cs:List Cl}{ps:List Pr}{l:List Int}(h:Inv cs ps l)(p:Nat){q:Nat}(hq:q<ps.length)(ha:z42 (pr ps q)=true):Beside cs ps l p q:=by
 have hz:=h.prc q hq ha;have ok:=(z4g h.vb).proc q hq;have pm:6<=(pr ps q).phase->(pr ps q).phase<=12->(pr ps q).pred∈0::l:=fun e1 e2=>h.core.live ok.pred.1 ok.pred.2 (hz.gp e1 e2);have hne:(pr ps q).pred≠1:=(z1s.1 hz.pl).2.1;refine⟨hz,ok,pm,fun e=> ?_,fun e1 e2=> ?_,fun e1 e2=>hol_pred (by omega) (by omega) (hz.k3 (by omega) (by omega)),fun e1 e2=>hol_succ (by omega) (by omega) (hz.k3 (by omega) (by omega)),fun e1 e2=>hol_next (by omega) (by omega) ?_ (hz.k3 (by omega) (by omega))⟩
 ·obtain⟨_,g2,_,g4⟩:=hz.i67 e;exact h.core.gap (pm (by omega) (by omega)) hz.pl (g4 ▸ g2)
 ·have h1:=(h.core.next_mem (pm (by omega) (by omega)) hne).1
  by_cases e:(pr ps q).phase=8
  ·rw[(hz.i8 e).2.2.2.1] at h1;exact qp _ h1
  rw[(hz.r9 (by omega)).2.2] at h1;exact qp _ h1
 by_cases e:(pr ps q).phase=12
 ·exact(z1s.1 (hz.r12 e).2.2.2).2.2.1
 exact(z1s.1 (hz.r10 (by omega)).2.2).2.2.1
def Inv.step {cs ds:List Cl}{ps:List Pr}{l:List Int}{y:Pr}(h:Inv cs ps l){p:Nat}(hp:p<ps.length)(ha:z42 (pr ps p)=true)(t:Tr cs p (pr ps p) ds y):∃l',Inv ds (ps.set p y) l':=by
 have hv:=z4g h.vb;have hx:=h.prc p hp ha;have ok:=hv.proc p hp;have two:=h.core.two;have h0r:0<=(0:Int)/\(0:Int)<cs.length:=by omega
 have hB:=h.beside p hp ha;have ex:∀q,q≠p->q<ps.length->∀{a b:Int},hol (pr ps p) a=true->hol (pr ps q) b=true->0<=a/\a<cs.length->b≠a:=fun q h1 h2 {a b} g1 g2 g3 e=>h.excl hp h2 h1 g1 (e ▸ g2) g3.1 g3.2;have same0:∀i:Int,0<=i->rt cs i=rt cs i/\gn cs i=gn cs i/\lf cs i=lf cs i:=fun _ _=>⟨rfl,rfl,rfl⟩;have hp1:(pr ps p).pred≠1:=(z1s.1 hx.pl).2.1;have hd:=dst_of h.vb
 cases t with
 |adv e hl=>
  have hs1:(pr ps p).succ≠1:=(z1s.1 hl).2.1;obtain⟨g1,g2⟩:=z63 h hp (y:={pr ps p with pred:=(pr ps p).succ,succ:=rt cs (pr ps p).succ}) (fun i=>by simp[hol,e]) (fun _ _=>rfl)
  exact⟨l,h.quiet hp (.refl _) same0 g1 g2 ⟨ok.cell,ok.succ,rt_in hv ok.succ.1 ok.succ.2,ok.next⟩ rfl (by dsimp only;omega) ha (by omega) (by omega) (by omega)
   fun _=>(by refine⟨hx.c2,hx.sT,hl,h.core.clo _ hx.sT hs1,hx.nx,fun g=>absurd e g,fun g=>absurd e g,?_,?_,?_,?_,?_,?_,?_,?_,?_⟩<;>(intro g;dsimp only at g;omega))⟩
 |seek e hl hk=>
  obtain⟨g1,g2⟩:=z63 h hp (y:={pr ps p with phase:=4}) (fun i=>by simp[hol,e,hk]) (fun _ _=>rfl)
  exact⟨l,h.quiet hp (.refl _) same0 g1 g2 ⟨ok.cell,ok.pred,ok.succ,ok.next⟩ rfl (by dsimp only;omega) ha (by omega) (by omega) (by omega)
   fun _=>(by refine⟨hx.c2,hx.pT,hx.pl,hx.sT,fun _=>hx.nx (by omega),fun _=>hl,fun _ g=>absurd rfl g,?_,?_,?_,?_,?_,?_,?_,?_,?_⟩<;>(intro g;dsimp only at g;omega))⟩
 |aim e hl hk=>
  obtain⟨g1,g2⟩:=z63 h hp (y:={pr ps p with phase:=2}) (fun i=>by simp[hol,e]) (fun _ _=>rfl)
  exact⟨l,h.quiet hp (.refl _) same0 g1 g2 ⟨ok.cell,ok.pred,ok.succ,ok.next⟩ rfl (by dsimp only;omega) ha (by omega) (by omega) (by omega)
   fun _=>(by refine⟨hx.c2,hx.pT,hx.pl,hx.sT,fun _=>hx.nx (by omega),fun _=>hl,fun _ _=>hk,?_,?_,?_,?_,?_,?_,?_,?_,?_⟩<;>(intro g;dsimp only at g;omega))⟩
 |lockP e hf=>
  have k3:=hx.k3 (by omega) (by omega);obtain⟨g1,g2⟩:=hl_lock h hp (y:={pr ps p with phase:=3}) ok.pred hf (fun i=>by simp[hol,e,k3,z42])
  exact⟨l,h.quiet hp (key_setK ..) (fun i hi=>⟨rt_setK ok.pred hi,gn_setK ok.pred hi,lf_setK ok.pred hi⟩) g1 g2 ⟨ok.cell,ok.pred,ok.succ,ok.next⟩ rfl (by dsimp only;omega) ha (by omega) (by omega) (by omega)
   fun _=>(by refine⟨hx.c2,hx.pT,hx.pl,hx.sT,fun _=>hx.nx (by omega),fun _=>hx.ge (by omega),fun _ _=>k3,?_,?_,?_,?_,?_,?_,?_,?_,?_⟩<;>(intro g;dsimp only at g;omega))⟩
 |lockS e hf=>
  have k3:=hx.k3 (by omega) (by omega);obtain⟨g1,g2⟩:=hl_lock h hp (y:={pr ps p with phase:=4}) ok.succ hf (fun i=>by simp[hol,e,k3' k3,z42])
  exact⟨l,h.quiet hp (key_setK ..) (fun i hi=>⟨rt_setK ok.succ hi,gn_setK ok.succ hi,lf_setK ok.succ hi⟩) g1 g2 ⟨ok.cell,ok.pred,ok.succ,ok.next⟩ rfl (by dsimp only;omega) ha (by omega) (by omega) (by omega)
   fun _=>(by refine⟨hx.c2,hx.pT,hx.pl,hx.sT,fun _=>hx.nx (by omega),fun _=>hx.ge (by omega),fun _ _=>k3,?_,?_,?_,?_,?_,?_,?_,?_,?_⟩<;>(intro g;dsimp only at g;omega))⟩
 |found e hk=>
  obtain⟨g1,g2⟩:=z63 h hp (y:={pr ps p with res:=(pr ps p).succ==(pr ps p).cell && !gn cs (pr ps p).cell,phase:=18}) (fun i=>by simp[hol,hk]) (fun _ _=>rfl)
  exact⟨l,h.quiet hp (.refl _) same0 g1 g2 ⟨ok.cell,ok.pred,ok.succ,ok.next⟩ rfl (by dsimp only;omega) ha (by omega) (by omega) (by omega)
   fun g=>by simp[z42] at g⟩
 |again e hk hb=>
  have nx:=hx.nx (by omega);obtain⟨g1,g2⟩:=z63 h hp (y:={pr ps p with phase:=5}) (fun i=>by simp[hol,e,z42]) (fun _ _=>rfl)
  exact⟨l,h.quiet hp (.refl _) same0 g1 g2 ⟨ok.cell,ok.pred,ok.succ,ok.next⟩ rfl (by dsimp only;omega) ha (by omega) (by omega) (by omega)
   fun _=>(by refine⟨hx.c2,hx.pT,hx.pl,hx.sT,fun _=>nx,fun _=>hx.ge (by omega),fun _ _=>hk,?_,?_,?_,?_,?_,?_,?_,?_,?_⟩<;>(intro g;dsimp only at g;omega))⟩
 |ins e hk hb hs=>
  have nx:=hx.nx (by omega);obtain⟨b1,b2,b3⟩:=fail_iff.1 hb;have hcs:=hd.total ok.succ ok.cell hs (hx.ge (by omega));obtain⟨g1,g2⟩:=z63 h hp (y:={pr ps p with phase:=6}) (fun i=>by simp[hol,e,z42]) (fun _ _=>rfl)
  exact⟨l,h.quiet hp (.refl _) same0 g1 g2 ⟨ok.cell,ok.pred,ok.succ,ok.next⟩ rfl (by dsimp only;omega) ha (by omega) (by omega) (by omega)
   fun _=>(by refine⟨hx.c2,hx.pT,hx.pl,hx.sT,fun _=>nx,fun _=>hx.ge (by omega),fun _ _=>by rw[hk];decide,fun _ _=>b1,fun _=>⟨hk,hcs,b2,b3⟩,?_,?_,?_,?_,?_,?_,?_⟩<;>(intro g;dsimp only at g;omega))⟩
 |rem e hk hb hs=>
  have nx:=hx.nx (by omega);obtain⟨b1,b2,b3⟩:=fail_iff.1 hb;obtain⟨g1,g2⟩:=z63 h hp (y:={pr ps p with phase:=9}) (fun i=>by simp[hol,e,z42]) (fun _ _=>rfl)
  exact⟨l,h.quiet hp (.refl _) same0 g1 g2 ⟨ok.cell,ok.pred,ok.succ,ok.next⟩ rfl (by dsimp only;omega) ha (by omega) (by omega) (by omega)
   fun _=>(by refine⟨hx.c2,hx.pT,hx.pl,hx.sT,fun _=>nx,fun _=>hx.ge (by omega),fun _ _=>by rw[hk];decide,fun _ _=>b1,?_,?_,?_,fun _=>⟨hk,hs,hs ▸ b3⟩,fun _=>hs ▸ b2,?_,?_,?_⟩<;>(intro g;dsimp only at g;omega))⟩
 |no e hk hb c1 c2=>
  have nx:=hx.nx (by omega);obtain⟨g1,g2⟩:=z63 h hp (y:={pr ps p with phase:=13}) (fun i=>by simp[hol,e,z42,nx]) (fun _ _=>rfl)
  exact⟨l,h.quiet hp (.refl _) same0 g1 g2 ⟨ok.cell,ok.pred,ok.succ,ok.next⟩ rfl (by dsimp only;omega) ha (by omega) (by omega) (by omega)
   fun _=>(by refine⟨hx.c2,hx.pT,hx.pl,hx.sT,fun _=>nx,fun _=>hx.ge (by omega),fun _ _=>hk,fun _ g=>by dsimp only at g;omega,?_,?_,?_,?_,?_,?_,?_,?_⟩<;>(intro g;dsimp only at g;omega))⟩
 |retry e=>
  have nx:=hx.nx (by omega);have hT0:TT cs 0:=h.core.mem_T (qo ..);obtain⟨g1,g2⟩:=hl_free (cs:=cs) (p:=p) (y:={pr ps p with pred:=0,succ:=rt cs 0,phase:=1}) (fun i=>by simp[hol]);have c2:=hx.c2
  exact⟨l,h.quiet hp (key_unlk ..) (fun i _=>⟨rt_unlk ..,gn_unlk ..,lf_unlk ..⟩) g1 g2 ⟨ok.cell,h0r,rt_in hv h0r.1 h0r.2,ok.next⟩ rfl (by dsimp only;omega) ha (by omega) (by omega) (by omega)
   fun _=>(by refine⟨c2,hT0,z1s.2 ⟨by show(0:Int)≠(pr ps p).cell;omega,by show(0:Int)≠1;omega,by show(pr ps p).cell≠0;omega,.inl rfl⟩,h.core.clo 0 hT0 (by omega),fun _=>nx,fun g=>absurd rfl g,fun g=>absurd rfl g,?_,?_,?_,?_,?_,?_,?_,?_,?_⟩<;>(intro g;dsimp only at g;omega))⟩
 |rel e=>
  obtain⟨g1,g2⟩:=hl_free (cs:=cs) (p:=p) (y:={pr ps p with phase:=18}) (fun i=>by simp[hol,z42])
  exact⟨l,h.quiet hp (key_unlk ..) (fun i _=>⟨rt_unlk ..,gn_unlk ..,lf_unlk ..⟩) g1 g2 ⟨ok.cell,ok.pred,ok.succ,ok.next⟩ rfl (by dsimp only;omega) ha (by omega) (by omega) (by omega)
   fun g=>by simp[z42] at g⟩
 |lockN e hf=>
  obtain⟨k2,hsc,hrp⟩:=hx.r9 (.inl e);have nx:=hx.nx (by omega);have hcm:=hB.cm (by omega) (by omega);have hc1:(pr ps p).cell≠1:=by have:=hx.c2;omega
  obtain⟨hnm,hcn⟩:=h.core.next_mem hcm hc1;have hnr:=h.core.rng _ hnm;have hn0:rt cs (pr ps p).cell≠0:=(z1s.1 hcn).2.2.1
  have hgn:gn cs (rt cs (pr ps p).cell)=false:=by
   cases hg:gn cs (rt cs (pr ps p).cell) with
   |false=>rfl
   |true=>
    obtain⟨q,q1,q2,q3⟩:=h.gin _ hnm hg;have hz:=h.prc q q1 (z5z.2 (by omega));have:=(h.lks _ hnr.1 hnr.2 q q1).2 (by rw[<-q3,<-(hz.r9 (by omega)).2.1];exact hol_succ (by omega) (by omega) (hz.k3 (by omega) (by omega)));omega
  obtain⟨g1,g2⟩:=hl_lock h hp (y:={pr ps p with next:=rt cs (pr ps p).cell,phase:=10}) hnr hf (fun i=>by simp[hol,e,k2,z42,nx,n0' hn0,Bool.or_assoc])
  exact⟨l,h.quiet hp (key_setK ..) (fun i hi=>⟨rt_setK hnr hi,gn_setK hnr hi,lf_setK hnr hi⟩) g1 g2 ⟨ok.cell,ok.pred,ok.succ,hnr⟩ rfl (by dsimp only;omega) ha (by omega) (by omega) (by omega)
   fun _=>(by refine⟨hx.c2,hx.pT,hx.pl,hx.sT,?_,fun _=>hx.ge (by omega),fun _ _=>by rw[k2];decide,fun _ _=>hx.gp (by omega) (by omega),?_,?_,?_,fun _=>⟨k2,hsc,hrp⟩,fun _=>hx.r90 (.inl e),fun _=>⟨rfl,hgn,hcn⟩,?_,?_⟩<;>(intro g;dsimp only at g;omega))⟩
 |link0 e=>
  obtain⟨k1,hcs,hgs,hrp⟩:=hx.i67 (.inl e);have nx:=hx.nx (by omega);have hcn:=hB.cn (.inl e);have hpm:=hB.pm (by omega) (by omega);have hc2:=hx.c2;obtain⟨hcore,hT⟩:=h.core.lay (a:=(pr ps p).pred) ⟨hc2,ok.cell.2⟩ hcn hx.sT hcs;have hkF:=z5d cs (pr ps p).cell (pr ps p).pred;have hrF:0<=(pr ps p).cell/\(pr ps p).cell<(z4b cs (pr ps p).cell (pr ps p).pred).length:=by rw[hkF.len];exact ok.cell
  have hk:=hkF.trans (z4m _ (pr ps p).cell (pr ps p).succ);have hrt:∀i:Int,0<=i->rt (z2s (z4b cs (pr ps p).cell (pr ps p).pred) (pr ps p).cell (pr ps p).succ) i=if i=(pr ps p).cell then(pr ps p).succ else rt cs i:=fun i hi=>by rw[rt_setR hrF hi,z3h ok.cell hi]
  have hgn:∀i:Int,0<=i->gn (z2s (z4b cs (pr ps p).cell (pr ps p).pred) (pr ps p).cell (pr ps p).succ) i=gn cs i:=fun i hi=>by rw[gn_setR hrF hi,z4r ok.cell hi]
  have hlf:∀i:Int,0<=i->lf (z2s (z4b cs (pr ps p).cell (pr ps p).pred) (pr ps p).cell (pr ps p).succ) i=if i=(pr ps p).cell then(pr ps p).pred else lf cs i:=fun i hi=>by rw[lf_setR hrF hi,lf_setF ok.cell hi]
  obtain⟨g1,g2⟩:=z63 h hp (y:={pr ps p with phase:=7}) (fun i=>by simp[hol,e,z42]) (fun i hi=>(lk_setR (v:=(pr ps p).succ) hrF hi).trans (lk_setF ok.cell hi));have hpc:=z57 hx.pl;have hsc:=z57 hcs;refine⟨l,h.next hp hk (fun i h0 hn=> ?_) g1 g2 ⟨ok.cell,ok.pred,ok.succ,ok.next⟩ rfl (by dsimp only;omega) ha hcore (fun i hi hg=> ?_) (fun q q1 q2 q3=> ?_) (fun _=>⟨hc2,(hT _).2 (.inl hx.pT),by rw[hk.less];exact hx.pl,(hT _).2 (.inl hx.sT),fun _=>nx,fun _=>by rw[hk.less];exact hx.ge (by omega),fun _ _=>by show(pr ps p).kind≠3;rw[k1];decide,fun _ _=>by rw[hgn _ ok.pred.1];exact hx.gp (by omega) (by omega),fun _=>⟨k1,by rw[hk.less];exact hcs,by rw[hgn _ ok.succ.1];exact hgs,?_⟩,fun _=>⟨?_,?_⟩,fun g=>by dsimp only at g;omega,fun g=>by dsimp only at g;omega,fun g=>by dsimp only at g;omega,fun g=>by dsimp only at g;omega,fun g=>by dsimp only at g;omega,fun g=>by dsimp only at g;omega⟩) fun i hi h1=> ?_⟩
  ·rw[hlf i h0,hrt i h0];refine⟨?_,?_⟩
   ·split
    ·exact ok.pred
    exact lf_in hv h0 hn
   split
   ·exact ok.succ
   exact rt_in hv h0 hn
  ·rw[hgn i (h.core.rng i hi).1] at hg;obtain⟨q,f1,f2,f3⟩:=h.gin i hi hg;exact⟨q,f1,.inl ⟨fun g=>by subst g;omega,f2,f3⟩⟩
  ·have b:=h.beside p q2 q3
   have hcne:(pr ps q).phase=7\/(pr ps q).phase=8\/(pr ps q).phase=10\/(pr ps q).phase=11->(pr ps q).cell≠(pr ps p).cell:=fun g g3=>by
    by_cases g7:(pr ps q).phase=7
    ·have f:=b.z.i67 (.inr g7);have:=h.core.gap_uniq (b.pm (by omega) (by omega)) hpm b.z.pl (by rw[f.2.2.2];exact f.2.1) (g3 ▸ hx.pl) (by rw[hrp,g3];exact hcs);exact ex q q1 q2 (hB.hp (by omega) (by omega)) (b.hp (by omega) (by omega)) ok.pred this
    exact hcn (g3 ▸ b.cm (by omega) (by omega))
   refine b.z.mono hk (fun i hi=>(hT i).2 (.inl hi)) (fun f1 f2=>⟨hgn _ b.ok.pred.1,?_⟩) (fun _ _=>hgn _ b.ok.succ.1) (fun _=>hgn _ b.ok.cell.1) (fun g=> ?_) (fun g=> ?_) (fun _ _=>hgn _ b.ok.next.1)
   ·rw[hrt _ b.ok.pred.1,qc (show¬(pr ps q).pred=(pr ps p).cell from fun g=>hcn (g ▸ b.pm f1 f2))]
   ·rw[hrt _ b.ok.cell.1,qc (hcne g)]
   rw[hlf _ b.ok.cell.1,qc (hcne (.inl g))]
  ·show rt _ (pr ps p).pred=(pr ps p).succ
   rw[hrt _ ok.pred.1,qc hpc];exact hrp
  ·show rt _ (pr ps p).cell=(pr ps p).succ
   rw[hrt _ ok.cell.1,qe rfl]
  ·show lf _ (pr ps p).cell=(pr ps p).pred
   rw[hlf _ ok.cell.1,qe rfl]
  have h0:=h.core.rng0 hi;have hne:i≠(pr ps p).cell:=fun g=>hcn (g ▸ hi);have hm:=(h.core.next_mem hi h1).1;have hne2:rt cs i≠(pr ps p).cell:=fun g=>hcn (g ▸ qp _ hm);rw[hrt i h0.1,qc hne,hlf _ (h.core.rng _ hm).1,qc hne2];rcases h.lef i hi h1 with g|⟨q,f1,f2⟩
  ·exact .inl g
  exact .inr ⟨q,f1,.inl ⟨fun g=>by subst g;omega,f2⟩⟩
 |link1 e=>
  obtain⟨k1,hcs,hgs,hrp⟩:=hx.i67 (.inr e);obtain⟨hrc,hlc⟩:=hx.i7 e;have nx:=hx.nx (by omega);have hcn:=hB.cn (.inr e);have hpm:=hB.pm (by omega) (by omega);have hc2:=hx.c2;obtain⟨A,B,el,hcore,hT⟩:=h.core.insert hpm ⟨hc2,ok.cell.2⟩ hx.pl (by rw[hrp];exact hcs) (by rw[hrc,hrp]);have hkR:=z4m cs (pr ps p).pred (pr ps p).cell;have hcR:0<=(pr ps p).cell/\(pr ps p).cell<(z2s cs (pr ps p).pred (pr ps p).cell).length:=by rw[hkR.len];exact ok.cell
  have hk:=hkR.trans (key_setU _ (pr ps p).cell);have hrt:∀i:Int,0<=i->rt (setU (z2s cs (pr ps p).pred (pr ps p).cell) (pr ps p).cell) i=if i=(pr ps p).pred then(pr ps p).cell else rt cs i:=fun i hi=>by rw[rt_setU hcR hi,rt_setR ok.pred hi]
  have hgn:∀i:Int,0<=i->gn (setU (z2s cs (pr ps p).pred (pr ps p).cell) (pr ps p).cell) i=if i=(pr ps p).cell then false else gn cs i:=fun i hi=>by rw[gn_setU hcR hi,gn_setR ok.pred hi]
  have hlf:∀i:Int,0<=i->lf (setU (z2s cs (pr ps p).pred (pr ps p).cell) (pr ps p).cell) i=lf cs i:=fun i hi=>by rw[lf_setU hcR hi,lf_setR ok.pred hi]
  obtain⟨g1,g2⟩:=z63 h hp (y:={pr ps p with phase:=8}) (fun i=>by simp[hol,e,z42]) (fun i hi=>by rw[lk_setU hcR hi,lk_setR ok.pred hi]);have hpc:=z57 hx.pl;have hsc:=z57 hcs;have hfal:∀i:Int,0<=i->gn cs i=false->gn (setU (z2s cs (pr ps p).pred (pr ps p).cell) (pr ps p).cell) i=gn cs i:=fun i hi g=>by rw[hgn i hi,g];split<;>rfl
  have hml:∀i,i∈A++(pr ps p).cell::rt cs (pr ps p).pred::B->i=(pr ps p).cell\/i∈l:=fun i hi=>by
   rw[el];rcases Qa.1 hi with g|g
   ·exact .inr (QD _ g)
   rcases qv.1 g with g|g
   ·exact .inl g
   exact .inr (Qg _ g)
  refine⟨_,h.next hp hk (fun i h0 hn=> ?_) g1 g2 ⟨ok.cell,ok.pred,ok.succ,ok.next⟩ rfl (by dsimp only;omega) ha hcore (fun i hi hg=> ?_) (fun q q1 q2 q3=> ?_) (fun _=>⟨hc2,(hT _).2 hx.pT,by rw[hk.less];exact hx.pl,(hT _).2 hx.sT,fun _=>nx,fun _=>by rw[hk.less];exact hx.ge (by omega),fun _ _=>by show(pr ps p).kind≠3;rw[k1];decide,fun _ _=>by rw[hfal _ ok.pred.1 (hx.gp (by omega) (by omega))];exact hx.gp (by omega) (by omega),fun g=>by dsimp only at g;omega,fun g=>by dsimp only at g;omega,fun _=>⟨k1,by rw[hk.less];exact hcs,by rw[hfal _ ok.succ.1 hgs];exact hgs,?_,?_⟩,fun g=>by dsimp only at g;omega,fun g=>by dsimp only at g;omega,fun g=>by dsimp only at g;omega,fun g=>by dsimp only at g;omega,fun g=>by dsimp only at g;omega⟩) fun i hi h1=> ?_⟩
  ·rw[hlf i h0,hrt i h0];refine⟨lf_in hv h0 hn,?_⟩
   split
   ·exact ok.cell
   exact rt_in hv h0 hn
  ·rcases hml i hi with g|g
   ·subst g;rw[hgn _ ok.cell.1,qe rfl] at hg;cases hg
   rw[hgn i (h.core.rng i g).1] at hg
   split at hg
   ·cases hg
   obtain⟨q,f1,f2,f3⟩:=h.gin i g hg;exact⟨q,f1,.inl ⟨fun g=>by subst g;omega,f2,f3⟩⟩
  ·have b:=h.beside p q2 q3;refine b.z.mono hk (fun i hi=>(hT i).2 hi) (fun f1 f2=>⟨hfal _ b.ok.pred.1 (b.z.gp f1 f2),?_⟩) (fun f1 f2=>hfal _ b.ok.succ.1 ?_) (fun g=> ?_) (fun g=> ?_) (fun g=>hlf _ b.ok.cell.1) (fun f1 f2=>hfal _ b.ok.next.1 ?_)
   ·rw[hrt _ b.ok.pred.1,qc (ex q q1 q2 (hB.hp (by omega) (by omega)) (b.hp f1 f2) ok.pred)]
   ·by_cases g8:(pr ps q).phase=8
    ·exact(b.z.i8 g8).2.2.1
    exact(b.z.i67 (by omega)).2.2.1
   ·rw[hgn _ b.ok.cell.1,qc (show¬(pr ps q).cell=(pr ps p).cell from fun g3=>hcn (g3 ▸ b.cm (by omega) (by omega)))]
   ·rw[hrt _ b.ok.cell.1,qc];intro g3
    by_cases g7:(pr ps q).phase=7
    ·exact b.cn (.inr g7) (g3 ▸ hpm)
    by_cases g8:(pr ps q).phase=8
    ·have f:=(b.z.i8 g8).2.2.2.2;rw[g3,hrp] at f;exact ex q q1 q2 (hB.hs (by omega) (by omega)) (b.hs (by omega) (by omega)) ok.succ f.symm
    have f:=(b.z.r9 (by omega)).2.1;exact ex q q1 q2 (hB.hp (by omega) (by omega)) (b.hs (by omega) (by omega)) ok.pred (f.trans g3)
   by_cases g12:(pr ps q).phase=12
   ·exact(b.z.r12 g12).2.2.1
   exact(b.z.r10 (by omega)).2.1
  ·show rt _ (pr ps p).pred=(pr ps p).cell
   rw[hrt _ ok.pred.1,qe rfl]
  ·show rt _ (pr ps p).cell=(pr ps p).succ
   rw[hrt _ ok.cell.1,qc hpc.symm];exact hrc
  by_cases hip:i=(pr ps p).pred
  ·subst hip;rw[hrt _ ok.pred.1,qe rfl,hlf _ ok.cell.1];exact .inl hlc
  by_cases hic:i=(pr ps p).cell
  ·subst hic;rw[hrt _ ok.cell.1,qc hip,hrc];exact .inr ⟨p,hp,.inr ⟨rfl,.inl ⟨rfl,rfl,rfl⟩⟩⟩
  have hi':i∈0::l:=by
   rcases qv.1 hi with g|g
   ·rw[g];exact qo ..
   rcases hml i g with g|g
   ·exact absurd g hic
   exact qp _ g
  have h0:=h.core.rng0 hi';have hm:=(h.core.next_mem hi' h1).1;rw[hrt i h0.1,qc hip,hlf _ (h.core.rng _ hm).1];rcases h.lef i hi' h1 with g|⟨q,f1,f2⟩
  ·exact .inl g
  exact .inr ⟨q,f1,.inl ⟨fun g=>by subst g;omega,f2⟩⟩
 |link2 e=>
  obtain⟨k1,hcs,hgs,hrp,hrc⟩:=hx.i8 e;have nx:=hx.nx (by omega);have hcm:=hB.cm (by omega) (by omega);have hc2:=hx.c2;have hk:=z5d cs (pr ps p).succ (pr ps p).cell;have hsm:=h.core.live ok.succ.1 ok.succ.2 hgs;obtain⟨g1,g2⟩:=z63 h hp (y:={pr ps p with res:=true,phase:=13}) (fun i=>by simp[hol,e,z42,nx]) (fun i hi=>lk_setF (v:=(pr ps p).cell) ok.succ hi);have hT:∀i,TT (z4b cs (pr ps p).succ (pr ps p).cell) i↔TT cs i:=fun i=>⟨fun hi=>(TT.same hk (z3h ok.succ hi.1)).1 hi,fun hi=>(TT.same hk (z3h ok.succ hi.1)).2 hi⟩;refine⟨l,h.next hp hk (fun i h0 hn=> ?_) g1 g2 ⟨ok.cell,ok.pred,ok.succ,ok.next⟩ rfl (by dsimp only;omega) ha (h.core.same hk (fun i hi=>z3h ok.succ hi) fun i hi=>z4r ok.succ hi) (fun i hi hg=> ?_) (fun q q1 q2 q3=> ?_) (fun _=>(by refine⟨hc2,(hT _).2 hx.pT,by rw[hk.less];exact hx.pl,(hT _).2 hx.sT,fun _=>nx,fun _=>by rw[hk.less];exact hx.ge (by omega),fun _ _=>by show(pr ps p).kind≠3;rw[k1];decide,fun _ g=>by dsimp only at g;omega,?_,?_,?_,?_,?_,?_,?_,?_⟩<;>(intro g;dsimp only at g;omega))) fun i hi h1=> ?_⟩
  ·rw[lf_setF ok.succ h0,z3h ok.succ h0];refine⟨?_,rt_in hv h0 hn⟩
   split
   ·exact ok.cell
   exact lf_in hv h0 hn
  ·rw[z4r ok.succ (h.core.rng i hi).1] at hg;obtain⟨q,f1,f2,f3⟩:=h.gin i hi hg;exact⟨q,f1,.inl ⟨fun g=>by subst g;omega,f2,f3⟩⟩
  ·have b:=h.beside p q2 q3;refine b.z.mono hk (fun i hi=>(hT i).2 hi) (fun f1 f2=>⟨z4r ok.succ b.ok.pred.1,z3h ok.succ b.ok.pred.1⟩) (fun f1 f2=>z4r ok.succ b.ok.succ.1) (fun g=>z4r ok.succ b.ok.cell.1) (fun g=>z3h ok.succ b.ok.cell.1) (fun g=> ?_) (fun f1 f2=>z4r ok.succ b.ok.next.1);rw[lf_setF ok.succ b.ok.cell.1,qc (show¬(pr ps q).cell=(pr ps p).succ from fun g3=>b.cn (.inr g) (g3 ▸ hsm))]
  have h0:=h.core.rng0 hi;have hm:=(h.core.next_mem hi h1).1;rw[z3h ok.succ h0.1,lf_setF ok.succ (h.core.rng _ hm).1]
  by_cases hs:rt cs i=(pr ps p).succ
  ·rw[qe hs];exact .inl (h.core.inj hcm hi (by omega) h1 (hrc.trans hs.symm))
  rw[qc hs];rcases h.lef i hi h1 with g|⟨q,f1,f2⟩
  ·exact .inl g
  refine .inr ⟨q,f1,.inl ⟨fun g=> ?_,f2⟩⟩;subst g;rcases f2 with f2|f2
  ·exact hs f2.2.2.symm
  omega
 |un0 e=>
  obtain⟨k2,hsc,hrp⟩:=hx.r9 (.inr (.inl e));obtain⟨hnr,hgn,hcl⟩:=hx.r10 (.inl e);have hc2:=hx.c2;have hk:=key_setG cs (pr ps p).cell
  have hxs:hol (pr ps p) (pr ps p).cell=true:=by
   have:=hB.hs (by omega) (by omega);rw[hsc] at this;exact this
  obtain⟨g1,g2⟩:=z63 h hp (y:={pr ps p with phase:=11}) (fun i=>by simp[hol,e,z42]) (fun i hi=>lk_setG ok.cell hi);have hT:∀i,TT (setG cs (pr ps p).cell) i↔TT cs i:=fun i=>⟨fun hi=>(TT.same hk (rt_setG ok.cell hi.1)).1 hi,fun hi=>(TT.same hk (rt_setG ok.cell hi.1)).2 hi⟩;have hg':∀i:Int,0<=i->i≠(pr ps p).cell->gn (setG cs (pr ps p).cell) i=gn cs i:=fun i hi hne=>by rw[gn_setG ok.cell hi,qc hne]
  refine⟨l,h.next hp hk (fun i h0 hn=> ?_) g1 g2 ⟨ok.cell,ok.pred,ok.succ,ok.next⟩ rfl (by dsimp only;omega) ha (h.core.mark ⟨hc2,ok.cell.2⟩) (fun i hi hg=> ?_) (fun q q1 q2 q3=> ?_) (fun _=>(by refine⟨hc2,(hT _).2 hx.pT,by rw[hk.less];exact hx.pl,(hT _).2 hx.sT,?_,fun _=>by rw[hk.less];exact hx.ge (by omega),fun _ _=>by show(pr ps p).kind≠3;rw[k2];decide,fun _ _=>by rw[hg' _ ok.pred.1 (z57 hx.pl)];exact hx.gp (by omega) (by omega),?_,?_,?_,fun _=>⟨k2,hsc,by rw[rt_setG ok.cell ok.pred.1];exact hrp⟩,?_,fun _=>⟨by rw[rt_setG ok.cell ok.cell.1];exact hnr,by rw[hg' _ ok.next.1 (z57 hcl).symm];exact hgn,by rw[hk.less];exact hcl⟩,fun _=>by rw[gn_setG ok.cell ok.cell.1,qe rfl],?_⟩<;>(intro g;dsimp only at g;omega))) fun i hi h1=> ?_⟩
  ·rw[lf_setG ok.cell h0,rt_setG ok.cell h0];exact⟨lf_in hv h0 hn,rt_in hv h0 hn⟩
  ·by_cases hic:i=(pr ps p).cell
   ·exact⟨p,hp,.inr ⟨rfl,rfl,hic.symm⟩⟩
   rw[hg' i (h.core.rng i hi).1 hic] at hg;obtain⟨q,f1,f2,f3⟩:=h.gin i hi hg;exact⟨q,f1,.inl ⟨fun g=>by subst g;omega,f2,f3⟩⟩
  ·have b:=h.beside p q2 q3;refine b.z.mono hk (fun i hi=>(hT i).2 hi) (fun f1 f2=>⟨hg' _ b.ok.pred.1 (ex q q1 q2 hxs (b.hp f1 f2) ok.cell),rt_setG ok.cell b.ok.pred.1⟩) (fun f1 f2=>hg' _ b.ok.succ.1 (ex q q1 q2 hxs (b.hs f1 (by omega)) ok.cell)) (fun g=>hg' _ b.ok.cell.1 ?_) (fun g=>rt_setG ok.cell b.ok.cell.1) (fun g=>lf_setG ok.cell b.ok.cell.1) (fun f1 f2=>hg' _ b.ok.next.1 (ex q q1 q2 hxs (b.hn f1 f2) ok.cell));rw[<-(b.z.r9 g).2.1];exact ex q q1 q2 hxs (b.hs (by omega) (by omega)) ok.cell
  have h0:=h.core.rng0 hi;have hm:=(h.core.next_mem hi h1).1;rw[rt_setG ok.cell h0.1,lf_setG ok.cell (h.core.rng _ hm).1];rcases h.lef i hi h1 with g|⟨q,f1,f2⟩
  ·exact .inl g
  exact .inr ⟨q,f1,.inl ⟨fun g=>by subst g;omega,f2⟩⟩
 |un1 e=>
  obtain⟨k2,hsc,hrp⟩:=hx.r9 (.inr (.inr e));obtain⟨hnr,hgn,hcl⟩:=hx.r10 (.inr e);have hgc:=hx.r11 e;have hpm:=hB.pm (by omega) (by omega);have hc2:=hx.c2;obtain⟨A,B,el,hcore,hT⟩:=h.core.unlink hpm hp1 hrp hgc;rw[<-hnr] at el hcore hT;have hk:=z4m cs (pr ps p).pred (pr ps p).next;have hrt:∀i:Int,0<=i->rt (z2s cs (pr ps p).pred (pr ps p).next) i=if i=(pr ps p).pred then(pr ps p).next else rt cs i:=fun i hi=>rt_setR ok.pred hi;have hgn':∀i:Int,0<=i->gn (z2s cs (pr ps p).pred (pr ps p).next) i=gn cs i:=fun i hi=>gn_setR ok.pred hi;have hlf:∀i:Int,0<=i->lf (z2s cs (pr ps p).pred (pr ps p).next) i=lf cs i:=fun i hi=>lf_setR ok.pred hi;obtain⟨g1,g2⟩:=z63 h hp (y:={pr ps p with phase:=12}) (fun i=>by simp[hol,e,z42]) (fun i hi=>lk_setR (v:=(pr ps p).next) ok.pred hi);have hnd:(0::l).Nodup:=h.core.seg.nodup
  have hml:∀i,i∈A++(pr ps p).next::B->i∈l/\i≠(pr ps p).cell:=fun i hi=>by
   rw[el] at hnd ⊢;have hnd2:=(Jo.1 hnd).2;have hnd3:=(jM.1 hnd2);have hnd4:=Jo.1 hnd3.2.1;rcases Qa.1 hi with g|g
   ·exact⟨QD _ g,hnd3.2.2 i g _ (qo ..)⟩
   exact⟨Qg _ (qp _ g),fun g2=>hnd4.1 (g2 ▸ g)⟩
  have hpnl:=z32 hx.pl hcl;refine⟨_,h.next hp hk (fun i h0 hn=> ?_) g1 g2 ⟨ok.cell,ok.pred,ok.succ,ok.next⟩ rfl (by dsimp only;omega) ha hcore (fun i hi hg=> ?_) (fun q q1 q2 q3=> ?_) (fun _=>⟨hc2,(hT _).2 hx.pT,by rw[hk.less];exact hx.pl,(hT _).2 hx.sT,fun g=>by dsimp only at g;omega,fun _=>by rw[hk.less];exact hx.ge (by omega),fun _ _=>by show(pr ps p).kind≠3;rw[k2];decide,fun _ _=>by rw[hgn' _ ok.pred.1];exact hx.gp (by omega) (by omega),fun g=>by dsimp only at g;omega,fun g=>by dsimp only at g;omega,fun g=>by dsimp only at g;omega,fun g=>by dsimp only at g;omega,fun g=>by dsimp only at g;omega,fun g=>by dsimp only at g;omega,fun g=>by dsimp only at g;omega,fun _=>⟨k2,?_,by rw[hgn' _ ok.next.1];exact hgn,by rw[hk.less];exact hpnl⟩⟩) fun i hi h1=> ?_⟩
  ·rw[hlf i h0,hrt i h0];refine⟨lf_in hv h0 hn,?_⟩
   split
   ·exact ok.next
   exact rt_in hv h0 hn
  ·obtain⟨hil,hic⟩:=hml i hi;rw[hgn' i (h.core.rng i hil).1] at hg;obtain⟨q,f1,f2,f3⟩:=h.gin i hil hg;exact⟨q,f1,.inl ⟨fun g=>by subst g;exact hic f3.symm,f2,f3⟩⟩
  ·have b:=h.beside p q2 q3;refine b.z.mono hk (fun i hi=>(hT i).2 hi) (fun f1 f2=>⟨hgn' _ b.ok.pred.1,?_⟩) (fun f1 f2=>hgn' _ b.ok.succ.1) (fun g=>hgn' _ b.ok.cell.1) (fun g=> ?_) (fun g=>hlf _ b.ok.cell.1) (fun f1 f2=>hgn' _ b.ok.next.1)
   ·rw[hrt _ b.ok.pred.1,qc (ex q q1 q2 (hB.hp (by omega) (by omega)) (b.hp f1 f2) ok.pred)]
   rw[hrt _ b.ok.cell.1,qc];intro g3
   by_cases g7:(pr ps q).phase=7
   ·exact b.cn (.inr g7) (g3 ▸ hpm)
   by_cases g8:(pr ps q).phase=8
   ·have f:=(b.z.i8 g8).2.2.2.2;rw[g3,hrp,<-hsc] at f;exact ex q q1 q2 (hB.hs (by omega) (by omega)) (b.hs (by omega) (by omega)) ok.succ f.symm
   have f:=(b.z.r9 (by omega)).2.1;exact ex q q1 q2 (hB.hp (by omega) (by omega)) (b.hs (by omega) (by omega)) ok.pred (f.trans g3)
  ·show rt _ (pr ps p).pred=(pr ps p).next
   rw[hrt _ ok.pred.1,qe rfl]
  by_cases hip:i=(pr ps p).pred
  ·subst hip;refine .inr ⟨p,hp,.inr ⟨rfl,.inr ⟨rfl,rfl,?_⟩⟩⟩;rw[hrt _ ok.pred.1,qe rfl]
  have hi':i∈0::l:=by
   rcases qv.1 hi with g|g
   ·rw[g];exact qo ..
   exact qp _ (hml i g).1
  have h0:=h.core.rng0 hi';have hm:=(h.core.next_mem hi' h1).1;rw[hrt i h0.1,qc hip,hlf _ (h.core.rng _ hm).1];rcases h.lef i hi' h1 with g|⟨q,f1,f2⟩
  ·exact .inl g
  exact .inr ⟨q,f1,.inl ⟨fun g=>by subst g;omega,f2⟩⟩
 |un2 e=>
  obtain⟨k2,hrp,hgn,hpn⟩:=hx.r12 e;have hpm:=hB.pm (by omega) (by omega);have hc2:=hx.c2;have hk:=z5d cs (pr ps p).next (pr ps p).pred;have hnm:=h.core.live ok.next.1 ok.next.2 hgn;obtain⟨g1,g2⟩:=z63 h hp (y:={pr ps p with res:=true,phase:=13}) (fun i=>by simp[hol,e,z42]) (fun i hi=>lk_setF (v:=(pr ps p).pred) ok.next hi);have hT:∀i,TT (z4b cs (pr ps p).next (pr ps p).pred) i↔TT cs i:=fun i=>⟨fun hi=>(TT.same hk (z3h ok.next hi.1)).1 hi,fun hi=>(TT.same hk (z3h ok.next hi.1)).2 hi⟩;refine⟨l,h.next hp hk (fun i h0 hn=> ?_) g1 g2 ⟨ok.cell,ok.pred,ok.succ,ok.next⟩ rfl (by dsimp only;omega) ha (h.core.same hk (fun i hi=>z3h ok.next hi) fun i hi=>z4r ok.next hi) (fun i hi hg=> ?_) (fun q q1 q2 q3=> ?_) (fun _=>(by refine⟨hc2,(hT _).2 hx.pT,by rw[hk.less];exact hx.pl,(hT _).2 hx.sT,?_,fun _=>by rw[hk.less];exact hx.ge (by omega),fun _ _=>by show(pr ps p).kind≠3;rw[k2];decide,fun _ g=>by dsimp only at g;omega,?_,?_,?_,?_,?_,?_,?_,?_⟩<;>(intro g;dsimp only at g;omega))) fun i hi h1=> ?_⟩
  ·rw[lf_setF ok.next h0,z3h ok.next h0];refine⟨?_,rt_in hv h0 hn⟩
   split
   ·exact ok.pred
   exact lf_in hv h0 hn
  ·rw[z4r ok.next (h.core.rng i hi).1] at hg;obtain⟨q,f1,f2,f3⟩:=h.gin i hi hg;exact⟨q,f1,.inl ⟨fun g=>by subst g;omega,f2,f3⟩⟩
  ·have b:=h.beside p q2 q3;refine b.z.mono hk (fun i hi=>(hT i).2 hi) (fun f1 f2=>⟨z4r ok.next b.ok.pred.1,z3h ok.next b.ok.pred.1⟩) (fun f1 f2=>z4r ok.next b.ok.succ.1) (fun g=>z4r ok.next b.ok.cell.1) (fun g=>z3h ok.next b.ok.cell.1) (fun g=> ?_) (fun f1 f2=>z4r ok.next b.ok.next.1);rw[lf_setF ok.next b.ok.cell.1,qc (show¬(pr ps q).cell=(pr ps p).next from fun g3=>b.cn (.inr g) (g3 ▸ hnm))]
  have h0:=h.core.rng0 hi;have hm:=(h.core.next_mem hi h1).1;rw[z3h ok.next h0.1,lf_setF ok.next (h.core.rng _ hm).1]
  by_cases hs:rt cs i=(pr ps p).next
  ·rw[qe hs];exact .inl (h.core.inj hpm hi hp1 h1 (hrp.trans hs.symm))
  rw[qc hs];rcases h.lef i hi h1 with g|⟨q,f1,f2⟩
  ·exact .inl g
  refine .inr ⟨q,f1,.inl ⟨fun g=> ?_,f2⟩⟩;subst g;rcases f2 with f2|f2
  ·omega
  exact hs f2.2.2.symm
def swpI (xs:List Int)(i j:Nat):List Int:=(xs.set i (nth xs j)).set j (nth xs i)
def swpI_length (xs:List Int)(i j:Nat):(swpI xs i j).length=xs.length:=by simp[swpI]
def sinkI (lt:Int->Int->Bool):Nat->List Int->List Int
 |0,xs=>xs
 |j+1,xs=>if lt (nth xs (j+1)) (nth xs j) then sinkI lt j (swpI xs (j+1) j) else xs
def sinkI_length (lt:Int->Int->Bool):∀j xs,(sinkI lt j xs).length=xs.length
 |0,_=>rfl
 |j+1,xs=>by simp only[sinkI];split;rw[sinkI_length lt j,swpI_length];rfl
def insIK (lt:Int->Int->Bool):Nat->Nat->List Int->List Int
 |0,_,xs=>xs
 |k+1,i,xs=>insIK lt k (i+1) (sinkI lt i xs)
def srtI (lt:Int->Int->Bool)(xs:List Int):List Int:=insIK lt (xs.length-1) 1 xs
def insI_length (lt:Int->Int->Bool):∀k i xs,(insIK lt k i xs).length=xs.length
 |0,_,_=>rfl
 |k+1,i,xs=>by rw[insIK,insI_length lt k,sinkI_length]
def srtI_length (lt:Int->Int->Bool)(xs:List Int):(srtI lt xs).length=xs.length:=insI_length ..
def cmpI (cs:List Cl)(a b:Int):Int:=if z1m cs a b then -1 else 1
def MemOk (n:Nat)(xs:List Int):Prop:=∀i,i<xs.length->0<=nth xs i/\nth xs i<n
def insV (lt:Int->Int->Bool)(x:Int):List Int->List Int
 |[]=>[x]
 |y::t=>if lt x y then y::insV lt x t else x::y::t
def insR (lt:Int->Int->Bool)(l:List Int)(x:Int):List Int:=(insV lt x l.reverse).reverse
def srtR (lt:Int->Int->Bool)(xs:List Int):List Int:=xs.foldl (insR lt) []
def insV_length (lt:Int->Int->Bool)(x:Int):∀l,(insV lt x l).length=l.length+1
 |[]=>rfl
 |y::t=>by simp only[insV];split<;>simp[insV_length lt x t]
def insR_length (lt:Int->Int->Bool)(l:List Int)(x:Int):(insR lt l x).length=l.length+1:=by simp[insR,insV_length]
def insV_mem {lt:Int->Int->Bool}{x z:Int}:∀{l:List Int},z∈insV lt x l↔z=x\/z∈l
 |[]=>by simp[insV]
 |y::t=>by
  simp only[insV]
  split
  ·simp only[qv,insV_mem (l:=t)]
   constructor<;>(intro h;rcases h with h|h|h<;>simp[h])
  simp
def insR_mem {lt:Int->Int->Bool}{x z:Int}{l:List Int}:z∈insR lt l x↔z=x\/z∈l:=by simp[insR,insV_mem]
def insV_congr {lt lt':Int->Int->Bool}{x:Int}:∀{l:List Int},(∀y∈l,lt x y=lt' x y)->insV lt x l=insV lt' x l
 |[],_=>rfl
 |y::t,h=>by
  simp only[insV,h y (qo ..),insV_congr (l:=t) fun z hz=>h z (qp _ hz)]
def insR_congr {lt lt':Int->Int->Bool}{x:Int}{l:List Int}(h:∀y∈l,lt x y=lt' x y):insR lt l x=insR lt' l x:=by
 rw[insR,insV_congr fun y hy=>h y (List.mem_reverse.1 hy),insR]
def insR_snoc (lt:Int->Int->Bool)(l:List Int)(x y:Int):insR lt (l++[y]) x=if lt x y then insR lt l x++[y] else l++[y]++[x]:=by
 simp only[insR,List.reverse_append,List.reverse_cons,List.reverse_nil,jI,QZ,insV]
 split<;>simp
def insR_zero {lt:Int->Int->Bool}{x a:Int}(h:lt x a=false)(l:List Int):insR lt (a::l) x=a::insR lt l x:=by
 have:∀r:List Int,insV lt x (r++[a])=insV lt x r++[a]:=fun r=>by
  induction r with
  |nil=>simp[insV,h]
  |cons y t ih=>simp only[QZ,insV,ih];split<;>simp
 simp[insR,this]
def insAtI (l:List Int)(k:Nat)(x:Int):List Int:=l.take k++[x]++l.drop k
def insR_at {lt:Int->Int->Bool}{x:Int}(l:List Int):∀(k:Nat),k<=l.length->(∀q,k<=q->q<l.length->lt x (nth l q)=true)->(0<k->lt x (nth l (k-1))=false)->insR lt l x=insAtI l k x:=by
 induction hn:l.length generalizing l with
 |zero=>
  intro k hk _ _;have:l=[]:=List.length_eq_zero_iff.1 hn;subst this;simp[insR,insV,insAtI]
 |succ n ih=>
  intro k hk h1 h2;have hne:l≠[]:=by intro h;simp[h] at hn
  obtain⟨a,y,rfl⟩:∃a y,l=a++[y]:=⟨l.dropLast,l.getLast hne,(List.dropLast_concat_getLast hne).symm⟩;have ha:a.length=n:=by simpa using hn
  have hy:nth (a++[y]) n=y:=by rw[z68 (by omega),ha,QV];rfl
  rw[insR_snoc]
  by_cases hk2:k=n+1
  ·have:=h2 (by omega);rw[show k-1=n by omega,hy] at this;rw[this,qc qh,insAtI,hk2,Qj (by simp;omega),jZ (by simp;omega),jc]
  have:=h1 n (by omega) (by omega);rw[hy] at this;rw[qe this,ih a ha k (by omega) (fun q q1 q2=>by have:=h1 q q1 (by omega);rwa [z3p (by omega)] at this) (fun h0=>by have:=h2 h0;rwa [z3p (by omega)] at this)];simp only[insAtI,QF];rw[List.take_append_of_le_length (by omega),List.drop_append_of_le_length (by omega)]
def nth_mid (A:List Int)(x:Int)(B:List Int):nth (A++x::B) A.length=x:=by rw[z68 (by omega),QV];rfl
def sink_ins (lt:Int->Int->Bool):∀(j:Nat) (A:List Int) (x:Int) (B:List Int),A.length=j->sinkI lt j (A++x::B)=insR lt A x++B:=by
 intro j
 induction j with
 |zero=>
  intro A x B h;have:A=[]:=List.length_eq_zero_iff.1 h;subst this;simp[sinkI,insR,insV]
 |succ j ih=>
  intro A x B h;have hne:A≠[]:=by intro h';simp[h'] at h
  obtain⟨a,y,rfl⟩:∃a y,A=a++[y]:=⟨A.dropLast,A.getLast hne,(List.dropLast_concat_getLast hne).symm⟩;have ha:a.length=j:=by simpa using h
  have h1:nth (a++[y]++x::B) (j+1)=x:=by rw[<-h];exact nth_mid ..
  have h2:nth (a++[y]++x::B) j=y:=by rw[QF,<-ha];exact nth_mid ..
  rw[insR_snoc];simp only[sinkI,h1,h2]
  by_cases c:lt x y=true
  ·rw[qe c,qe c]
   have:swpI (a++[y]++x::B) (j+1) j=a++x::(y::B):=by
    unfold swpI;rw[h1,h2];subst ha;rw[QF,List.set_append_right _ _ (by omega),List.set_append_right _ _ (by omega)];simp
   rw[this,ih a x (y::B) ha];simp
  rw[qc c,qc c];simp
def insI_fold (lt:Int->Int->Bool):∀(t:List Int) (A:List Int),insIK lt t.length A.length (A++t)=t.foldl (insR lt) A
 |[],A=>by simp[insIK]
 |x::t,A=>by
  simp only[QN,insIK,JG];rw[sink_ins lt A.length A x t rfl,<-insI_fold lt t (insR lt A x),insR_length]
def srtI_srtR (lt:Int->Int->Bool)(xs:List Int):srtI lt xs=srtR lt xs:=by
 cases xs with
 |nil=>rfl
 |cons x t=>
  have:=insI_fold lt t [x];simp only[srtI,srtR,QN,Nat.add_sub_cancel,JG];exact this
def srtR_mem {lt:Int->Int->Bool}{z:Int}(xs:List Int):z∈srtR lt xs↔z∈xs:=by
 have:∀(xs a:List Int),z∈xs.foldl (insR lt) a↔z∈xs\/z∈a:=fun xs=>by
  induction xs with
  |nil=>simp
  |cons x t ih=>
   intro a;simp only[JG,ih,insR_mem,qv]
   constructor
   ·rintro(h|h|h)
    ·exact .inl (.inr h)
    ·exact .inl (.inl h)
    exact .inr h
   rintro((h|h)|h)
   ·exact .inr (.inl h)
   ·exact .inl h
   exact .inr (.inr h)
 simp[srtR,this]
def srtR_snoc (lt:Int->Int->Bool)(xs:List Int)(x:Int):srtR lt (xs++[x])=insR lt (srtR lt xs) x:=by simp[srtR]
def srtR_length (lt:Int->Int->Bool)(xs:List Int):(srtR lt xs).length=xs.length:=by rw[<-srtI_srtR,srtI_length]
def kAt (l:List ByteArray)(i:Nat):ByteArray:=l.getD i ⟨#[]⟩
def bAt (l:List Bool)(i:Nat):Bool:=l.getD i false
def mems (inn:List Bool):Nat->List Int
 |0=>[]
 |i+1=>if bAt inn i then mems inn i++[(i:Int)+2] else mems inn i
def z5e {inn:List Bool}{z:Int}:∀{i:Nat},z∈mems inn i↔∃j,j<i/\bAt inn j=true/\z=(j:Int)+2
 |0=>by simp[mems]
 |i+1=>by
  simp only[mems]
  split
  ·rename_i h;rw[Qa,z5e (i:=i),qU]
   constructor
   ·rintro(⟨j,h1,h2,h3⟩|h1)
    ·exact⟨j,by omega,h2,h3⟩
    exact⟨i,by omega,h,h1⟩
   rintro⟨j,h1,h2,h3⟩
   by_cases e:j=i
   ·subst e;exact .inr h3
   exact .inl ⟨j,by omega,h2,h3⟩
  rename_i h;rw[z5e (i:=i)]
  constructor
  ·rintro⟨j,h1,h2,h3⟩;exact⟨j,by omega,h2,h3⟩
  rintro⟨j,h1,h2,h3⟩
  by_cases e:j=i
  ·subst e;exact absurd h2 h
  exact⟨j,by omega,h2,h3⟩
def mems_length (inn:List Bool):∀i,(mems inn i).length<=i
 |0=>qd _
 |i+1=>by
  have:=mems_length inn i;simp only[mems]
  split
  ·simp;omega
  omega
def bl_irr':∀x:List UInt8,Go.Op.bytesLess x x=false:=fun x=>by
 induction x with
 |nil=>rfl
 |cons a t ih=>simp[Go.Op.bytesLess,ih]
def ltK (keys:List ByteArray)(a b:Int):Bool:=sLt (kAt keys (a.toNat-2)) (kAt keys (b.toNat-2))
def lessC_zero (cs:List Cl)(a:Int):z1m cs a 0=false:=by simp[z1m]
def insV_pw {lt:Int->Int->Bool}(ht:∀a b c,lt a b=true->lt b c=true->lt a c=true){x:Int}:∀{l:List Int},l.Pairwise (fun a b=>lt b a=true)->(∀y∈l,lt x y=false->lt y x=true)->(insV lt x l).Pairwise (fun a b=>lt b a=true)
 |[],_,_=>by simp[insV]
 |y::t,hp,hx=>by
  obtain⟨h1,h2⟩:=Qz.1 hp;simp only[insV]
  split
  ·rename_i h;rw[Qz];refine⟨fun z hz=> ?_,insV_pw ht h2 fun z hz=>hx z (qp _ hz)⟩;rcases insV_mem.1 hz with e|e
   ·exact e ▸ h
   exact h1 z e
  rename_i h;have h3:=hx y (qo ..) (by simpa using h);rw[Qz];refine⟨fun z hz=> ?_,hp⟩;rcases qv.1 hz with e|e
  ·exact e ▸ h3
  exact ht _ _ _ (h1 z e) h3
def insR_pw {lt:Int->Int->Bool}(ht:∀a b c,lt a b=true->lt b c=true->lt a c=true){x:Int}{l:List Int}(hp:l.Pairwise (fun a b=>lt a b=true))(hx:∀y∈l,lt x y=false->lt y x=true):(insR lt l x).Pairwise (fun a b=>lt a b=true):=by
 rw[insR,List.pairwise_reverse];exact insV_pw ht (List.pairwise_reverse.2 hp) fun y hy=>hx y (List.mem_reverse.1 hy)
def kindBad (kind:Int):Bool:=decide (kind<1)||decide (3<kind)
def kindBad_eq (kind:Int):(kind !=1 && kind !=2 && kind !=3)=kindBad kind:=by
 rw[qY];simp only[kindBad,qj,qt,Qi,ne_eq,qm];omega
def z2t (cs:List Cl)(ps:List Pr)(p kind cell:Int):Int:=
 if !z1y cs ps then 1 else if decide (p<0)||decide ((ps.length:Int)<=p) then 2
 else if decide (cell<2)||decide ((cs.length:Int)<=cell) then 6 else if kindBad kind then 1
 else if z42 (pr ps p.toNat) then 7 else 0
def startP (cs:List Cl)(ps:List Pr)(p kind cell:Int):List Pr:=ps.set p.toNat ⟨kind,cell,1,0,(cl cs 0).right,0,false⟩
def z2o (cs:List Cl)(ps:List Pr)(p kind cell:Int):List Cl×List Pr:=if z2t cs ps p kind cell=0 then(cs,startP cs ps p kind cell) else([],[])
def startP_length (cs:List Cl)(ps:List Pr)(p kind cell:Int):(startP cs ps p kind cell).length=ps.length:=by simp[startP]
def startE_zero {cs:List Cl}{ps:List Pr}{p kind cell:Int}(h:z2t cs ps p kind cell=0):z1y cs ps=true/\(0<=p/\p<ps.length)/\(2<=cell/\cell<cs.length)/\(1<=kind/\kind<=3)/\z42 (pr ps p.toNat)=false:=by
 unfold z2t at h
 split at h
 ·cases h
 rename_i h1
 split at h
 ·cases h
 rename_i h2
 split at h
 ·cases h
 rename_i h3
 split at h
 ·cases h
 rename_i h4
 split at h
 ·cases h
 rename_i h5;simp only[kindBad,qt,qm,qn,Bool.not_eq_true] at h1 h2 h3 h4 h5;exact⟨by simpa using h1,by omega,by omega,by omega,h5⟩
def hol_idle {x:Pr}(h:z42 x=false)(i:Int):hol x i=false:=by simp[hol,h]
def Inv.start {cs:List Cl}{ps:List Pr}{l:List Int}(h:Inv cs ps l){p kind cell:Int}(he:z2t cs ps p kind cell=0):Inv cs (startP cs ps p kind cell) l:=by
 obtain⟨_,hp,hc,hk,hna⟩:=startE_zero he;have hv:=z4g h.vb;have hpl:p.toNat<ps.length:=by omega
 have two:=h.core.two;have h0:0<=(0:Int)/\(0:Int)<cs.length:=by omega
 have hpr:∀q,pr (startP cs ps p kind cell) q=if p.toNat=q then⟨kind,cell,1,0,(cl cs 0).right,0,false⟩ else pr ps q:=fun q=>by
  unfold startP
  split
  ·rename_i e;subst e;rw[z3q hpl]
  rename_i e;rw[z2l e]
 have hlen:(startP cs ps p kind cell).length=ps.length:=startP_length ..;have hT0:TT cs 0:=h.core.mem_T (qo ..)
 have hne:∀q,(pr ps q).phase=8\/(pr ps q).phase=11\/(pr ps q).phase=12->p.toNat≠q:=fun q g e=>by
  subst e;have:=z5z (x:=pr ps p.toNat);rw[hna] at this;have:=this.2 (by omega)
  cases this
 refine⟨?_,h.core,fun i hi hg=> ?_,fun i h0 hn q hq=> ?_,fun q h1 h2=> ?_,fun i hi h1=> ?_⟩
 ·refine valid_mk h.vb (.refl _) hlen (fun i hi=>hv.cell i hi) fun i hi=> ?_;rw[hpr]
  split
  ·have h1:=rt_in hv h0.1 h0.2;exact⟨⟨⟨by show(0:Int)<=cell;omega,hc.2⟩,h0,h1,h0⟩,by show z2b 1=true;decide,by show 0<=kind;omega,by show kind<=3;omega,fun e=>by dsimp only at e;omega,fun e=>by cases e⟩
  have h3:=hv.kind i hi;exact⟨hv.proc i hi,hv.phase i hi,h3.1,h3.2.1,h3.2.2⟩
 ·obtain⟨q,g1,g2,g3⟩:=h.gin i hi hg;refine⟨q,by rw[hlen];exact g1,?_⟩;rw[hpr,qc (hne q (by omega))];exact⟨g2,g3⟩
 ·rw[hlen] at hq;rw[h.lks i h0 hn q hq,hpr]
  split
  ·rename_i e;subst e;rw[hol_idle hna];simp[hol]
  exact QK
 ·rw[hlen] at h1;rw[hpr] at h2 ⊢
  split
  ·exact(by refine⟨hc.1,hT0,z1s.2 ⟨by show(0:Int)≠cell;omega,by show(0:Int)≠1;omega,by show cell≠0;omega,.inl rfl⟩,h.core.clo 0 hT0 (by omega),fun _=>rfl,fun g=>absurd rfl g,fun g=>absurd rfl g,?_,?_,?_,?_,?_,?_,?_,?_,?_⟩<;>(intro g;dsimp only at g;omega))
  rename_i e;rw[qc e] at h2;exact h.prc q h1 h2
 rcases h.lef i hi h1 with g|⟨q,g1,g2⟩
 ·exact .inl g
 refine .inr ⟨q,by rw[hlen];exact g1,?_⟩;rw[hpr,qc (hne q (by omega))];exact g2
def setU_len (cs:List Cl)(c:Int):(setU cs c).length=cs.length:=by simp[setU]
def setK_len (cs:List Cl)(c v:Int):(setK cs c v).length=cs.length:=by simp[setK]
def setG_len (cs:List Cl)(c:Int):(setG cs c).length=cs.length:=by simp[setG]
def unlk_len (cs:List Cl)(p:Nat):(unlk cs p).length=cs.length:=by simp[unlk]
def stepC_length (cs:List Cl)(p:Nat)(x:Pr):(z1c cs p x).length=cs.length:=by
 unfold z1c;repeat' split
 all_goals simp only[z31,z52,setU_len,setK_len,setG_len,unlk_len]
def goesB (ps:List Pr)(p:Int):Bool:= !(decide (p<0)||decide ((ps.length:Int)<=p))
def z5u (cs:List Cl)(ps:List Pr)(p:Int):Bool:=z1y cs ps && (goesB ps p && z1v cs (pr ps p.toNat))
def stepR (cs:List Cl)(ps:List Pr)(p:Int):List Cl×List Pr:=
 if !z1y cs ps then([],[]) else if goesB ps p && z1v cs (pr ps p.toNat) then(z1c cs p.toNat (pr ps p.toNat),ps.set p.toNat (z1d cs (pr ps p.toNat))) else(cs,ps)
def step_act {cs:List Cl}{x:Pr}(h:z1v cs x=true):z42 x=true:=by
 rw[z1v,qj,qm] at h;exact z5z.2 (by omega)
def leavB (ps:List Pr)(i:Int):Bool:=z2a ps.length fun q=>(pr ps q).phase==11 && (pr ps q).cell==i
def locksB (cs:List Cl)(ps:List Pr):Bool:= !z2a cs.length fun i=>z2a ps.length fun q=>(lkK cs i==(q:Int)+1) !=hol (pr ps q) i
def z5i (cs:List Cl)(ps:List Pr)(path:List Int)(i:Nat):Bool:=(decide (1<(i:Int)) && !gn cs i && !hasB path i)||(gn cs i && hasB path i && !leavB ps i)
def freeB (cs:List Cl):Bool:= !z2a cs.length fun i=>lkK cs i !=0
def z3x (cs:List Cl)(path:List Int)(i:Nat):Bool:=lf cs (nth path (i+1)) !=nth path i
def chkL (cs:List Cl)(ps:List Pr):Bool:=
 z1y cs ps && !gn cs 0 && !gn cs 1 && match z4o cs 0 with
  |some path=>locksB cs ps && !z2a cs.length (fun i=>z5i cs ps path i) && (!freeB cs|| !z2a (path.length-1) (fun i=>z3x cs path i))
  |none=>false
def Seg.nth {cs:List Cl}:∀{a:Int} {l:List Int} {i:Nat},Seg cs a l 1->i<l.length->Go.Proofs.nth (a::l) i≠1/\rt cs (Go.Proofs.nth (a::l) i)=Go.Proofs.nth (a::l) (i+1)
 |a,x::l,0,h,_=>⟨h.1,h.2.1⟩
 |a,x::l,i+1,h,hi=>Seg.nth (i:=i) h.2.2.2 (by simpa using hi)
def nth_mem' {l:List Int}{i:Nat}(h:i<l.length):nth l i∈l:=by rw[z30 h];exact qK h
def Inv.free {cs:List Cl}{ps:List Pr}{l:List Int}(h:Inv cs ps l)(hf:freeB cs=true){q:Nat}(hq:q<ps.length)(i:Int)(h0:0<=i)(hn:i<cs.length):hol (pr ps q) i=false:=by
 cases hh:hol (pr ps q) i with
 |false=>rfl
 |true=>
  have h1:=(h.lks i h0 hn q hq).2 hh;simp only[freeB,qn] at hf;have:=anyB_elimK hf (i:=i.toNat) (by omega);rw[show((i.toNat:Nat):Int)=i by omega,qF] at this;omega
def Inv.check {cs:List Cl}{ps:List Pr}{l:List Int}(h:Inv cs ps l):chkL cs ps=true:=by
 have hC:=h.core;have hch:z4o cs 0=some (0::l):=hC.seg.chain _ (fun x hx=>hC.rng x hx) (by have:=meas_le cs 0;omega);rw[chkL,h.vb,hC.g0,hC.g1,hch];simp only[j6,Jh,qL,qj,qn,qt,locksB,z3k];refine⟨⟨fun i hi q hq=> ?_,fun i hi=> ?_⟩,?_⟩
 ·rw[qF,qY,qD];exact h.lks i (by omega) (by omega) q hq
 ·rw[z5i,qk];refine⟨?_,?_⟩
  ·cases hg:gn cs (i:Int) with
   |true=>simp
   |false=>
    by_cases h1:1<(i:Int)
    ·rw[hasB_iff.2 (hC.live (by omega) (by omega) hg)];simp
    simp[h1]
  cases hg:gn cs (i:Int) with
  |false=>simp
  |true=>
   cases hb:hasB (0::l) (i:Int) with
   |false=>simp
   |true=>
    rcases qv.1 (hasB_iff.1 hb) with e|e
    ·rw[e,hC.g0] at hg;cases hg
    obtain⟨q,g1,g2,g3⟩:=h.gin _ e hg;have:leavB ps (i:Int)=true:=z1r g1 (by simp[g2,g3]);rw[this];simp
 cases hf:freeB cs with
 |false=>exact .inl rfl
 |true=>
  refine .inr fun i hi=> ?_;have hi':i<l.length:=by simpa using hi
  obtain⟨h1,h2⟩:=hC.seg.nth hi';have hm:nth (0::l) i∈0::l:=nth_mem' (by simp;omega);rw[z3x,qF,<-h2];rcases h.lef _ hm h1 with g|⟨q,g1,g2⟩
  ·exact g
  exfalso
  have hv:=z4g h.vb;have ha:z42 (pr ps q)=true:=z5z.2 (by omega);have hz:=h.prc q g1 ha;have hh:=hol_pred (x:=pr ps q) (by omega) (by omega) (hz.k3 (by omega) (by omega));rw[h.free hf g1 _ (hv.proc q g1).pred.1 (hv.proc q g1).pred.2] at hh
  cases hh
def Inv.marks {cs ds:List Cl}{ps:List Pr}{l:List Int}{y:Pr}(h:Inv cs ps l){p:Nat}(hp:p<ps.length)(ha:z42 (pr ps p)=true)(t:Tr cs p (pr ps p) ds y):
  z41 cs ds/\((∀i:Int,0<=i->gn ds i=gn cs i)/\(pr ps p).phase≠7/\(pr ps p).phase≠10/\y.phase≠8/\y.phase≠11\/
   (pr ps p).phase=7/\y={pr ps p with phase:=8}/\(pr ps p).kind=1/\gn cs (pr ps p).cell=true/\(∀i:Int,0<=i->gn ds i=if i=(pr ps p).cell then false else gn cs i)\/
   (pr ps p).phase=10/\y={pr ps p with phase:=11}/\(pr ps p).kind=2/\gn cs (pr ps p).cell=false/\(∀i:Int,0<=i->gn ds i=if i=(pr ps p).cell then true else gn cs i)):=by
 have hv:=z4g h.vb;have hx:=h.prc p hp ha;have ok:=hv.proc p hp
 cases t with
 |adv e hl=>exact⟨.refl _,.inl ⟨fun _ _=>rfl,by omega,by omega,by dsimp only;omega,by dsimp only;omega⟩⟩
 |seek e hl hk=>exact⟨.refl _,.inl ⟨fun _ _=>rfl,by omega,by omega,by dsimp only;omega,by dsimp only;omega⟩⟩
 |aim e hl hk=>exact⟨.refl _,.inl ⟨fun _ _=>rfl,by omega,by omega,by dsimp only;omega,by dsimp only;omega⟩⟩
 |lockP e hf=>exact⟨key_setK ..,.inl ⟨fun i hi=>gn_setK ok.pred hi,by omega,by omega,by dsimp only;omega,by dsimp only;omega⟩⟩
 |lockS e hf=>exact⟨key_setK ..,.inl ⟨fun i hi=>gn_setK ok.succ hi,by omega,by omega,by dsimp only;omega,by dsimp only;omega⟩⟩
 |found e hk=>exact⟨.refl _,.inl ⟨fun _ _=>rfl,by omega,by omega,by dsimp only;omega,by dsimp only;omega⟩⟩
 |again e hk hb=>exact⟨.refl _,.inl ⟨fun _ _=>rfl,by omega,by omega,by dsimp only;omega,by dsimp only;omega⟩⟩
 |ins e hk hb hs=>exact⟨.refl _,.inl ⟨fun _ _=>rfl,by omega,by omega,by dsimp only;omega,by dsimp only;omega⟩⟩
 |rem e hk hb hs=>exact⟨.refl _,.inl ⟨fun _ _=>rfl,by omega,by omega,by dsimp only;omega,by dsimp only;omega⟩⟩
 |no e hk hb c1 c2=>exact⟨.refl _,.inl ⟨fun _ _=>rfl,by omega,by omega,by dsimp only;omega,by dsimp only;omega⟩⟩
 |retry e=>exact⟨key_unlk ..,.inl ⟨fun i _=>gn_unlk ..,by omega,by omega,by dsimp only;omega,by dsimp only;omega⟩⟩
 |rel e=>exact⟨key_unlk ..,.inl ⟨fun i _=>gn_unlk ..,by omega,by omega,by dsimp only;omega,by dsimp only;omega⟩⟩
 |lockN e hf=>
  have hr:=rt_in hv ok.cell.1 ok.cell.2;exact⟨key_setK ..,.inl ⟨fun i hi=>gn_setK hr hi,by omega,by omega,by dsimp only;omega,by dsimp only;omega⟩⟩
 |link0 e=>
  have hkF:=z5d cs (pr ps p).cell (pr ps p).pred;have hrF:0<=(pr ps p).cell/\(pr ps p).cell<(z4b cs (pr ps p).cell (pr ps p).pred).length:=by rw[hkF.len];exact ok.cell
  exact⟨hkF.trans (z4m ..),.inl ⟨fun i hi=>by rw[gn_setR hrF hi,z4r ok.cell hi],by omega,by omega,by dsimp only;omega,by dsimp only;omega⟩⟩
 |link1 e=>
  have hkR:=z4m cs (pr ps p).pred (pr ps p).cell;have hcR:0<=(pr ps p).cell/\(pr ps p).cell<(z2s cs (pr ps p).pred (pr ps p).cell).length:=by rw[hkR.len];exact ok.cell
  have k1:=(hx.i67 (.inr e)).1;have hcn:=(h.beside p hp ha).cn (.inr e);refine⟨hkR.trans (key_setU ..),.inr (.inl ⟨e,rfl,k1,?_,fun i hi=>by rw[gn_setU hcR hi,gn_setR ok.pred hi]⟩)⟩
  cases hg:gn cs (pr ps p).cell with
  |true=>rfl
  |false=>exact absurd (h.core.live ok.cell.1 ok.cell.2 hg) hcn
 |link2 e=>exact⟨z5d ..,.inl ⟨fun i hi=>z4r ok.succ hi,by omega,by omega,by dsimp only;omega,by dsimp only;omega⟩⟩
 |un0 e=>exact⟨key_setG ..,.inr (.inr ⟨e,rfl,(hx.r9 (.inr (.inl e))).1,hx.r90 (.inr e),fun i hi=>gn_setG ok.cell hi⟩)⟩
 |un1 e=>exact⟨z4m ..,.inl ⟨fun i hi=>gn_setR ok.pred hi,by omega,by omega,by dsimp only;omega,by dsimp only;omega⟩⟩
 |un2 e=>exact⟨z5d ..,.inl ⟨fun i hi=>z4r ok.next hi,by omega,by omega,by dsimp only;omega,by dsimp only;omega⟩⟩
section
def ec1:=aj @Tryz.szIntsK @Tryz.tyErrK
def ec2:=aj9 @Tryz.szErr @Tryz.zErr @Tryz.tyBoolK @Tryz.szBool @Tryz.zBool @Tryz.tyCl @Tryz.szCl @Tryz.zCl (aj9 @Tryz.tyPr @Tryz.szPr @Tryz.zPr @Tryz.tyCls @Tryz.szCls @Tryz.tyPrs @Tryz.szPrs @Tryz.szLsK @Tryz.zLsK)
def ec3:=aj6 @z4l.eq_1 @z2c.eq_1 @z5b.eq_1 @z2p.eq_1 @Cl.sv.eq_1 @Pr.sv.eq_1
def ec4:=aj3 @z43.eq_1 @lsOwn.eq_1 @noPrs.eq_1
def ec5:=aj9 @cls_0 @cls_1 @cls_2 @cls_3 @cls_4 @prs_0 @prs_1 @prs_2 (aj4 @prs_3 @prs_4 @prs_5 @prs_6)
def ec6:=aj3 @cls_take @prs_take @app_zeroK
def LlBm.exE:=aj9 @zd @zf @zo @zh ec1 ec2 @zg @zp (aj9 @zq ec3 ec4 @clCap.eq_1 @z4d.eq_1 ec5 ec6 @z1a.eq_1 (aj3 @zu.eq_1 @z18 @z2d))
def ec7:=aj @cls_ren' @cls_lt
def ec8:=aj @prs_ren' @prs_lt
def LlBm.gxE:=aj9 ec3 ec4 @clCap.eq_1 @z4d.eq_1 ec7 ec8 @z1a.eq_1 @zu.eq_1 (aj @z20 @ints_lt'K)
def LlBm.oxE:= @zq
open LlBm (oxE gxE exE)
open D0 (sdE)
def less_specK (cs:List Cl)(n m:Nat)(hn:cs.length=n)(a b:Int)(ha:0<=a/\a<n)(hb:0<=b/\b<n):
  zj prog 91 [.agg [.slc false 0 0 0 n,.slc false 1 0 0 m],.int .i64 a,.int .i64 b] ⟨2,[(0,z4l cs),(1,noPrs)]⟩ (fun s H1=>s= .bool (z1m cs a b)/\H1=⟨2,[]⟩):=by
 subst hn;refine Zf false 39 [.tmp 6] func91 ntmps91 results91 fun w0 own0 β0 Q hQ hQn=> ?_;refine Zrs [1,2,3] (z6 ?_);refine z8 fun Q0 hN0 hX0 hR0 hE0=> ?_;refine Zrs [1,2,3,7] ?_;refine Zcm ?_ ?_
 ·intro h7;refine Zrs [6] (zb (hR0 _ _ (hQ _ _ ?_)));refine Zob ⟨2,[]⟩ ?_;rw[z1m,qe h7]
  first|trivial|exact⟨rfl,trivial⟩
 intro h7;refine Zrs [1,2,3,19] ?_;refine Zcm ?_ ?_
 ·intro h19;refine Zrs [6] (zb (hR0 _ _ (hQ _ _ ?_)));refine Zob ⟨2,[]⟩ ?_;rw[z1m,qc (by rw[h7];exact qh),qe h19]
  first|trivial|exact⟨rfl,trivial⟩
 intro h19;refine z7 (za (hN0 _ _ (z6 (Zrq [6] [0,1,2,3,4,5,6,7,8,9,10,11,12,13] (zb (hQ _ _ ?_))))));refine Zob ⟨2,[]⟩ ?_;rw[z1m,qc (by rw[h7];exact qh),qc (by rw[h19];exact qh)]
 first|trivial|exact⟨rfl,trivial⟩
def below_spec (cs:List Cl)(n m:Nat)(hn:cs.length=n)(a b:Int)(ha:0<=a/\a<n)(hb:0<=b/\b<n):
  zj prog 144 [.agg [.slc false 0 0 0 n,.slc false 1 0 0 m],.int .i64 a,.int .i64 b] ⟨2,[(0,z4l cs),(1,noPrs)]⟩ (fun s H1=>s= .bool (z1m cs a b)/\H1=⟨2,[]⟩):=by
 subst hn;refine Zf false 39 [.tmp 6] func144 ntmps144 results144 fun w0 own0 β0 Q hQ hQn=> ?_;refine Zrs [1,2,3] (z6 ?_);refine Zrs [1,2,3,17] ?_;refine Zcm ?_ ?_
 ·intro h17;refine Zrs [6] (zb (hQ _ _ ?_));refine Zob ⟨2,[]⟩ ?_;rw[z1m,qe h17]
  first|trivial|exact⟨rfl,trivial⟩
 intro h17;refine z7 (z6 (Zrq [6] [0,1,2,3,4,5,6,7,8,9,10,11,12,13,14,15,16,17,18,19,20,21] (zb (hQ _ _ ?_))));refine Zob ⟨2,[]⟩ ?_;rw[z1m,qc (by rw[h17];exact qh)]
 cases(a==0||b==1)<;>first|trivial|exact⟨rfl,trivial⟩
def active_spec (x:Pr):zj prog 139 [.agg x.sv] ⟨0,[]⟩ (fun s H1=>s= .bool (z42 x)/\H1=⟨0,[]⟩):=by
 refine Zf false 11 [.tmp 2] func139 ntmps139 results139 fun w0 own0 β0 Q hQ hQn=> ?_;refine Zrs [1] ?_;refine Zrs [2] (zb (hQ _ _ ?_));exact Zoc ⟨0,[]⟩
def refActive_spec (x:Pr):zj prog 108 [.agg x.sv] ⟨0,[]⟩ (fun s H1=>s= .bool (z42 x)/\H1=⟨0,[]⟩):=by
 refine Zf false 11 [.tmp 2] func108 ntmps108 results108 fun w0 own0 β0 Q hQ hQn=> ?_;refine Zrs [1] ?_;refine Zrs [2] (zb (hQ _ _ ?_));exact Zoc ⟨0,[]⟩
def known_spec (x:Int):zj prog 135 [.int .i64 x] ⟨0,[]⟩ (fun s H1=>s= .bool (z2b x)/\H1=⟨0,[]⟩):=by
 refine Zf false 20 [.tmp 2] func135 ntmps135 results135 fun w0 own0 β0 Q hQ hQn=> ?_;refine Zrs [0] (z6 ?_);refine Zrs [3] ?_;refine z8 fun Q0 hN0 hX0 hR0 hE0=> ?_;refine z6 (Zrs [3,4] ?_);refine Zcm ?_ ?_
 ·intro h4
  try replace h4:=Znb h4
  refine z7 ?_;refine Zcm ?_ ?_
  ·intro h4
   try replace h4:=Znb h4
   refine Zrs [2] (zb (hR0 _ _ (hQ _ _ ?_)));refine Zob ⟨0,[]⟩ ?_
   first|(rw[z2b,qB (by omega)];first|trivial|exact⟨rfl,trivial⟩)|(rw[z2b,qG (by omega)];first|trivial|exact⟨rfl,trivial⟩)
  intro h4
  try replace h4:=Znb h4
  refine z7 (za (hN0 _ _ (Zrs [2] (zb (hQ _ _ ?_)))))
  exfalso
  omega
 intro h4
 try replace h4:=Znb h4
 refine Zrs [3,4] ?_;refine Zcm ?_ ?_
 ·intro h4
  try replace h4:=Znb h4
  refine z7 ?_;refine Zcm ?_ ?_
  ·intro h4
   try replace h4:=Znb h4
   refine Zrs [2] (zb (hR0 _ _ (hQ _ _ ?_)));refine Zob ⟨0,[]⟩ ?_
   first|(rw[z2b,qB (by omega)];first|trivial|exact⟨rfl,trivial⟩)|(rw[z2b,qG (by omega)];first|trivial|exact⟨rfl,trivial⟩)
  intro h4
  try replace h4:=Znb h4
  refine z7 (za (hN0 _ _ (Zrs [2] (zb (hQ _ _ ?_)))))
  exfalso
  omega
 intro h4
 try replace h4:=Znb h4
 refine Zrs [3,4] ?_;refine Zcm ?_ ?_
 ·intro h4
  try replace h4:=Znb h4
  refine z7 ?_;refine Zcm ?_ ?_
  ·intro h4
   try replace h4:=Znb h4
   refine Zrs [2] (zb (hR0 _ _ (hQ _ _ ?_)));refine Zob ⟨0,[]⟩ ?_
   first|(rw[z2b,qB (by omega)];first|trivial|exact⟨rfl,trivial⟩)|(rw[z2b,qG (by omega)];first|trivial|exact⟨rfl,trivial⟩)
  intro h4
  try replace h4:=Znb h4
  refine z7 (za (hN0 _ _ (Zrs [2] (zb (hQ _ _ ?_)))))
  exfalso
  omega
 intro h4
 try replace h4:=Znb h4
 refine Zrs [3,4] ?_;refine Zcm ?_ ?_
 ·intro h4
  try replace h4:=Znb h4
  refine z7 ?_;refine Zcm ?_ ?_
  ·intro h4
   try replace h4:=Znb h4
   refine Zrs [2] (zb (hR0 _ _ (hQ _ _ ?_)));refine Zob ⟨0,[]⟩ ?_
   first|(rw[z2b,qB (by omega)];first|trivial|exact⟨rfl,trivial⟩)|(rw[z2b,qG (by omega)];first|trivial|exact⟨rfl,trivial⟩)
  intro h4
  try replace h4:=Znb h4
  refine z7 (za (hN0 _ _ (Zrs [2] (zb (hQ _ _ ?_)))))
  exfalso
  omega
 intro h4
 try replace h4:=Znb h4
 refine Zrs [3,4] ?_;refine Zcm ?_ ?_
 ·intro h4
  try replace h4:=Znb h4
  refine z7 ?_;refine Zcm ?_ ?_
  ·intro h4
   try replace h4:=Znb h4
   refine Zrs [2] (zb (hR0 _ _ (hQ _ _ ?_)));refine Zob ⟨0,[]⟩ ?_
   first|(rw[z2b,qB (by omega)];first|trivial|exact⟨rfl,trivial⟩)|(rw[z2b,qG (by omega)];first|trivial|exact⟨rfl,trivial⟩)
  intro h4
  try replace h4:=Znb h4
  refine z7 (za (hN0 _ _ (Zrs [2] (zb (hQ _ _ ?_)))))
  exfalso
  omega
 intro h4
 try replace h4:=Znb h4
 refine Zrs [3,4] ?_;refine Zcm ?_ ?_
 ·intro h4
  try replace h4:=Znb h4
  refine z7 ?_;refine Zcm ?_ ?_
  ·intro h4
   try replace h4:=Znb h4
   refine Zrs [2] (zb (hR0 _ _ (hQ _ _ ?_)));refine Zob ⟨0,[]⟩ ?_
   first|(rw[z2b,qB (by omega)];first|trivial|exact⟨rfl,trivial⟩)|(rw[z2b,qG (by omega)];first|trivial|exact⟨rfl,trivial⟩)
  intro h4
  try replace h4:=Znb h4
  refine z7 (za (hN0 _ _ (Zrs [2] (zb (hQ _ _ ?_)))))
  exfalso
  omega
 intro h4
 try replace h4:=Znb h4
 refine Zrs [3,4] ?_;refine Zcm ?_ ?_
 ·intro h4
  try replace h4:=Znb h4
  refine z7 ?_;refine Zcm ?_ ?_
  ·intro h4
   try replace h4:=Znb h4
   refine Zrs [2] (zb (hR0 _ _ (hQ _ _ ?_)));refine Zob ⟨0,[]⟩ ?_
   first|(rw[z2b,qB (by omega)];first|trivial|exact⟨rfl,trivial⟩)|(rw[z2b,qG (by omega)];first|trivial|exact⟨rfl,trivial⟩)
  intro h4
  try replace h4:=Znb h4
  refine z7 (za (hN0 _ _ (Zrs [2] (zb (hQ _ _ ?_)))))
  exfalso
  omega
 intro h4
 try replace h4:=Znb h4
 refine Zrs [3,4] ?_;refine Zcm ?_ ?_
 ·intro h4
  try replace h4:=Znb h4
  refine z7 ?_;refine Zcm ?_ ?_
  ·intro h4
   try replace h4:=Znb h4
   refine Zrs [2] (zb (hR0 _ _ (hQ _ _ ?_)));refine Zob ⟨0,[]⟩ ?_
   first|(rw[z2b,qB (by omega)];first|trivial|exact⟨rfl,trivial⟩)|(rw[z2b,qG (by omega)];first|trivial|exact⟨rfl,trivial⟩)
  intro h4
  try replace h4:=Znb h4
  refine z7 (za (hN0 _ _ (Zrs [2] (zb (hQ _ _ ?_)))))
  exfalso
  omega
 intro h4
 try replace h4:=Znb h4
 refine Zrs [3,4] ?_;refine Zcm ?_ ?_
 ·intro h4
  try replace h4:=Znb h4
  refine z7 ?_;refine Zcm ?_ ?_
  ·intro h4
   try replace h4:=Znb h4
   refine Zrs [2] (zb (hR0 _ _ (hQ _ _ ?_)));refine Zob ⟨0,[]⟩ ?_
   first|(rw[z2b,qB (by omega)];first|trivial|exact⟨rfl,trivial⟩)|(rw[z2b,qG (by omega)];first|trivial|exact⟨rfl,trivial⟩)
  intro h4
  try replace h4:=Znb h4
  refine z7 (za (hN0 _ _ (Zrs [2] (zb (hQ _ _ ?_)))))
  exfalso
  omega
 intro h4
 try replace h4:=Znb h4
 refine Zrs [3,4] ?_;refine Zcm ?_ ?_
 ·intro h4
  try replace h4:=Znb h4
  refine z7 ?_;refine Zcm ?_ ?_
  ·intro h4
   try replace h4:=Znb h4
   refine Zrs [2] (zb (hR0 _ _ (hQ _ _ ?_)));refine Zob ⟨0,[]⟩ ?_
   first|(rw[z2b,qB (by omega)];first|trivial|exact⟨rfl,trivial⟩)|(rw[z2b,qG (by omega)];first|trivial|exact⟨rfl,trivial⟩)
  intro h4
  try replace h4:=Znb h4
  refine z7 (za (hN0 _ _ (Zrs [2] (zb (hQ _ _ ?_)))))
  exfalso
  omega
 intro h4
 try replace h4:=Znb h4
 refine Zrs [3,4] ?_;refine Zcm ?_ ?_
 ·intro h4
  try replace h4:=Znb h4
  refine z7 ?_;refine Zcm ?_ ?_
  ·intro h4
   try replace h4:=Znb h4
   refine Zrs [2] (zb (hR0 _ _ (hQ _ _ ?_)));refine Zob ⟨0,[]⟩ ?_
   first|(rw[z2b,qB (by omega)];first|trivial|exact⟨rfl,trivial⟩)|(rw[z2b,qG (by omega)];first|trivial|exact⟨rfl,trivial⟩)
  intro h4
  try replace h4:=Znb h4
  refine z7 (za (hN0 _ _ (Zrs [2] (zb (hQ _ _ ?_)))))
  exfalso
  omega
 intro h4
 try replace h4:=Znb h4
 refine Zrs [3,4] ?_;refine Zcm ?_ ?_
 ·intro h4
  try replace h4:=Znb h4
  refine z7 ?_;refine Zcm ?_ ?_
  ·intro h4
   try replace h4:=Znb h4
   refine Zrs [2] (zb (hR0 _ _ (hQ _ _ ?_)));refine Zob ⟨0,[]⟩ ?_
   first|(rw[z2b,qB (by omega)];first|trivial|exact⟨rfl,trivial⟩)|(rw[z2b,qG (by omega)];first|trivial|exact⟨rfl,trivial⟩)
  intro h4
  try replace h4:=Znb h4
  refine z7 (za (hN0 _ _ (Zrs [2] (zb (hQ _ _ ?_)))))
  exfalso
  omega
 intro h4
 try replace h4:=Znb h4
 refine Zrs [3,4] ?_;refine Zcm ?_ ?_
 ·intro h4
  try replace h4:=Znb h4
  refine z7 ?_;refine Zcm ?_ ?_
  ·intro h4
   try replace h4:=Znb h4
   refine Zrs [2] (zb (hR0 _ _ (hQ _ _ ?_)));refine Zob ⟨0,[]⟩ ?_
   first|(rw[z2b,qB (by omega)];first|trivial|exact⟨rfl,trivial⟩)|(rw[z2b,qG (by omega)];first|trivial|exact⟨rfl,trivial⟩)
  intro h4
  try replace h4:=Znb h4
  refine z7 (za (hN0 _ _ (Zrs [2] (zb (hQ _ _ ?_)))))
  exfalso
  omega
 intro h4
 try replace h4:=Znb h4
 refine Zrs [3,4] ?_;refine Zcm ?_ ?_
 ·intro h4
  try replace h4:=Znb h4
  refine z7 ?_;refine Zcm ?_ ?_
  ·intro h4
   try replace h4:=Znb h4
   refine Zrs [2] (zb (hR0 _ _ (hQ _ _ ?_)));refine Zob ⟨0,[]⟩ ?_
   first|(rw[z2b,qB (by omega)];first|trivial|exact⟨rfl,trivial⟩)|(rw[z2b,qG (by omega)];first|trivial|exact⟨rfl,trivial⟩)
  intro h4
  try replace h4:=Znb h4
  refine z7 (za (hN0 _ _ (Zrs [2] (zb (hQ _ _ ?_)))))
  exfalso
  omega
 intro h4
 try replace h4:=Znb h4
 refine Zrg [4] ?_;refine Zcm ?_ ?_
 ·intro h4
  try replace h4:=Znb h4
  refine Zrs [2] (zb (hR0 _ _ (hQ _ _ ?_)));refine Zob ⟨0,[]⟩ ?_
  first|(rw[z2b,qB (by omega)];first|trivial|exact⟨rfl,trivial⟩)|(rw[z2b,qG (by omega)];first|trivial|exact⟨rfl,trivial⟩)
 intro h4
 try replace h4:=Znb h4
 refine z7 (za (hN0 _ _ (Zrs [2] (zb (hQ _ _ ?_)))));refine Zob ⟨0,[]⟩ ?_
 first|(rw[z2b,qB (by omega)];first|trivial|exact⟨rfl,trivial⟩)|(rw[z2b,qG (by omega)];first|trivial|exact⟨rfl,trivial⟩)
def z3r (i n:Int):zj prog 172 [.int .i64 i,.int .i64 n] ⟨0,[]⟩ (fun s H1=>s= .bool (idxOk i n)/\H1=⟨0,[]⟩):=by
 refine Zf false 12 [.tmp 4] func172 ntmps172 results172 fun w0 own0 β0 Q hQ hQn=> ?_;refine Zrs [0,1] ?_;refine Zrs [4] (zb (hQ _ _ ?_));exact Zoc ⟨0,[]⟩
end
section
def LlCm.axE:=aj9 @zd @zf @zo @zh ec1 ec2 @zg @zp (aj9 @zq ec3 ec4 @clCap.eq_1 @z4d.eq_1 ec5 ec6 @z1a.eq_1 (aj6 @zu.eq_1 @z18 @z2d @z2j @z2r @z1p))
open LlBm (gxE oxE exE)
open LlCm (axE)
open D0 (sdE)
def validTest (x c:Cl):zj prog 171 [.agg x.sv,.ptr 0 0 0 0] ⟨1,[(0,clCap c)]⟩ (fun s H1=>s= .bool (sameKey c x)/\H1=⟨1,[]⟩):=by
 refine Zf false 9 [.tmp 3] func171 ntmps171 results171 fun w0 own0 β0 Q hQ hQn=> ?_;refine Zrs [1,2] ?_;refine Zrs [3] (zb (hQ _ _ ?_));refine Zob ⟨1,[]⟩ ?_
 first|trivial|exact⟨rfl,by trivial⟩
def insP (i:Int)(x:Pr):Bool:=x.phase==11 && x.cell==i
def checkTestK (x:Pr)(i:Int):zj prog 117 [.agg x.sv,.ptr 0 0 0 0] ⟨1,[(0,z4d i)]⟩ (fun s H1=>s= .bool (insP i x)/\H1=⟨1,[]⟩):=by
 refine Zf false 13 [.tmp 3] func117 ntmps117 results117 fun w0 own0 β0 Q hQ hQn=> ?_;refine Zrs [1,2] ?_;refine sg [3] rfl ?_;intro K hK
 have hk1:∀B:Bool,B=insP i x->K [(3,.bool B)] ⟨2,[(1,rV 110 7 1 (fun _=>x.sv)),(0,z4d i)]⟩:=by
  intro B hB;subst hB;refine hK _ _ ?_;clear hK K;refine zb (hQ _ _ ?_);refine Zob ⟨1,[]⟩ ?_
  first|trivial|exact⟨rfl,by trivial⟩
 iterate 9 (refine Zo Zl ?_)
 try with_reducible refine qi (by clear hk1;simp_all;done) ?_
 refine Zad ?_;refine Zo Zl ?_;refine zr ?_;refine Zpr ?_;refine hk1 _ ?_;clear hk1
 first|(simp_all[insP];done)|(simp_all[insP];rfl)
def clIndex_spec (c:Cl)(xs:List Cl)(n o m:Nat)(hn:xs.length=n)(h:o+m<=n)(hx:n<=1000000):
  zj prog 195 [.slc false 0 0 o m,.fn 171 [.ptr 1 0 0 0]] ⟨2,[(0,z4l xs),(1,clCap c)]⟩
   (fun s H1=>s= .int .i64 (idxBK m fun i=>sameKey c (cl xs (o+i)))/\H1=⟨2,[]⟩):=by
 subst hn;refine Zf false 19 [.tmp 4] func195 ntmps195 results195 fun w0 own0 β0 Q hQ hQn=> ?_;refine Zrs [0,1] (z6 ?_);refine Zrs [0,1,7,8] ?_;refine z8 fun Q0 hN0 hX0 hR0 hE0=> ?_;refine zl (σ:=Nat) (fun i=>i<=m/\∀q,q<i->sameKey c (cl xs (o+q))=false) (fun i=>m-i) (fun i=>[(0,.slc false 0 0 o m),(1,.fn 171 [.ptr 1 0 0 0]),(7,.int .i64 m),(8,.int .i64 i)]) (fun _=>⟨2,[(0,z4l xs),(1,clCap c)]⟩) 0 ⟨ql _,fun q h=>by omega⟩ (ρ:=id) (have xE:=@clCap.eq_1;Zgx id) ?_;rintro i hi QL1 hL1 hRL1 hEL1;refine Zrs [0,1,7,8,9] (z6 ?_);refine Zcn ?_ ?_
 ·intro h9;obtain⟨hi1,hi2⟩:=hi;refine z7 (z6 ?_);refine z8 fun Q1 hN1 hX1 hR1 hE1=> ?_;refine Zrs [0,1,5,7,8] ?_;refine sg [0,1,5,7,8,16] rfl ?_;intro K hK;iterate 5 (refine Zo Zl ?_)
  refine Zd Zl (validTest (cl xs (o+i)) c) (fun _=>1) ?_;refine Zk hK ?_;clear hK K;refine Zcm ?_ ?_
  ·intro h16;refine Zrs [4] (zb (hR1 _ _ (hRL1 _ _ (hR0 _ _ (hQ _ _ ?_)))));refine Zob ⟨2,[]⟩ ?_;rw[idxB_atK (p:=fun i=>sameKey c (cl xs (o+i))) h16 (by omega) hi2]
   first|trivial|exact⟨rfl,by trivial⟩
  intro h16;refine z7 (za (hN1 _ _ (Zrg [0,1,7,8] (za (hL1 _ _ ?_)))));rw[iS i];refine⟨i+1,⟨⟨by omega,fun q hq=> ?_⟩,by omega⟩,id,(have xE:=@clCap.eq_1;Zgx id)⟩
  by_cases e:q=i
  ·subst e;exact h16
  exact hi2 q (by omega)
 intro h9;obtain⟨hi1,hi2⟩:=hi;refine zk (hEL1 _ _ _ (hX0 _ _ (Zrs [4] (zb (hQ _ _ ?_)))));refine Zob ⟨2,[]⟩ ?_;rw[idxB_noneK (p:=fun i=>sameKey c (cl xs (o+i))) fun q hq=>hi2 q (by omega)]
 first|trivial|exact⟨rfl,by trivial⟩
def clContains_spec (c:Cl)(xs:List Cl)(n o m:Nat)(hn:xs.length=n)(h:o+m<=n)(hx:n<=1000000):
  zj prog 170 [.slc false 0 0 o m,.fn 171 [.ptr 1 0 0 0]] ⟨2,[(0,z4l xs),(1,clCap c)]⟩
   (fun s H1=>s= .bool (z2a m fun i=>sameKey c (cl xs (o+i)))/\H1=⟨2,[]⟩):=by
 refine Zf false 9 [.tmp 4] func170 ntmps170 results170 fun w0 own0 β0 Q hQ hQn=> ?_;refine Zrs [0,1] ?_;refine sg [4] rfl ?_;intro K hK;iterate 2 (refine Zo Zl ?_)
 refine Zd Zl (clIndex_spec c xs n o m hn h hx) (id) ?_;refine Zkl hK ?_;clear hK K;refine zb (hQ _ _ ?_);refine Zob ⟨2,[]⟩ ?_;rw[idxB_anyK]
 first|trivial|exact⟨rfl,by trivial⟩
def prIndex_spec (c:Int)(xs:List Pr)(n o m:Nat)(hn:xs.length=n)(h:o+m<=n)(hx:n<=1000000):
  zj prog 154 [.slc false 0 0 o m,.fn 117 [.ptr 1 0 0 0]] ⟨2,[(0,z5b xs),(1,z4d c)]⟩
   (fun s H1=>s= .int .i64 (idxBK m fun i=>insP c (pr xs (o+i)))/\H1=⟨2,[]⟩):=by
 subst hn;refine Zf false 19 [.tmp 4] func154 ntmps154 results154 fun w0 own0 β0 Q hQ hQn=> ?_;refine Zrs [0,1] (z6 ?_);refine Zrs [0,1,7,8] ?_;refine z8 fun Q0 hN0 hX0 hR0 hE0=> ?_;refine zl (σ:=Nat) (fun i=>i<=m/\∀q,q<i->insP c (pr xs (o+q))=false) (fun i=>m-i) (fun i=>[(0,.slc false 0 0 o m),(1,.fn 117 [.ptr 1 0 0 0]),(7,.int .i64 m),(8,.int .i64 i)]) (fun _=>⟨2,[(0,z5b xs),(1,z4d c)]⟩) 0 ⟨ql _,fun q h=>by omega⟩ (ρ:=id) (have xE:=@z4d.eq_1;Zgx id) ?_;rintro i hi QL1 hL1 hRL1 hEL1;refine Zrs [0,1,7,8,9] (z6 ?_);refine Zcn ?_ ?_
 ·intro h9;obtain⟨hi1,hi2⟩:=hi;refine z7 (z6 ?_);refine z8 fun Q1 hN1 hX1 hR1 hE1=> ?_;refine Zrs [0,1,5,7,8] ?_;refine sg [0,1,5,7,8,16] rfl ?_;intro K hK;iterate 5 (refine Zo Zl ?_)
  refine Zd Zl (checkTestK (pr xs (o+i)) c) (fun _=>1) ?_;refine Zk hK ?_;clear hK K;refine Zcm ?_ ?_
  ·intro h16;refine Zrs [4] (zb (hR1 _ _ (hRL1 _ _ (hR0 _ _ (hQ _ _ ?_)))));refine Zob ⟨2,[]⟩ ?_;rw[idxB_atK (p:=fun i=>insP c (pr xs (o+i))) h16 (by omega) hi2]
   first|trivial|exact⟨rfl,by trivial⟩
  intro h16;refine z7 (za (hN1 _ _ (Zrg [0,1,7,8] (za (hL1 _ _ ?_)))));rw[iS i];refine⟨i+1,⟨⟨by omega,fun q hq=> ?_⟩,by omega⟩,id,(have xE:=@z4d.eq_1;Zgx id)⟩
  by_cases e:q=i
  ·subst e;exact h16
  exact hi2 q (by omega)
 intro h9;obtain⟨hi1,hi2⟩:=hi;refine zk (hEL1 _ _ _ (hX0 _ _ (Zrs [4] (zb (hQ _ _ ?_)))));refine Zob ⟨2,[]⟩ ?_;rw[idxB_noneK (p:=fun i=>insP c (pr xs (o+i))) fun q hq=>hi2 q (by omega)]
 first|trivial|exact⟨rfl,by trivial⟩
def prContains_spec (c:Int)(xs:List Pr)(n o m:Nat)(hn:xs.length=n)(h:o+m<=n)(hx:n<=1000000):
  zj prog 116 [.slc false 0 0 o m,.fn 117 [.ptr 1 0 0 0]] ⟨2,[(0,z5b xs),(1,z4d c)]⟩
   (fun s H1=>s= .bool (z2a m fun i=>insP c (pr xs (o+i)))/\H1=⟨2,[]⟩):=by
 refine Zf false 9 [.tmp 4] func116 ntmps116 results116 fun w0 own0 β0 Q hQ hQn=> ?_;refine Zrs [0,1] ?_;refine sg [4] rfl ?_;intro K hK;iterate 2 (refine Zo Zl ?_)
 refine Zd Zl (prIndex_spec c xs n o m hn h hx) (id) ?_;refine Zkl hK ?_;clear hK K;refine zb (hQ _ _ ?_);refine Zob ⟨2,[]⟩ ?_;rw[idxB_anyK]
 first|trivial|exact⟨rfl,by trivial⟩
def index2_spec (xs:List Int)(v:Int)(n:Nat)(hn:xs.length=n)(hx:n<=1000000):
  zj prog 121 [.slc false 0 0 0 n,.int .i64 v] ⟨1,[(0,z1a xs)]⟩ (fun s H1=>s= .int .i64 (idxBK n fun i=>v==nth xs i)/\H1=⟨1,[]⟩):=by
 subst hn;refine Zf false 19 [.tmp 4] func121 ntmps121 results121 fun w0 own0 β0 Q hQ hQn=> ?_;refine Zrs [0,1] (z6 ?_);refine Zrs [0,1,7,8] ?_;refine z8 fun Q0 hN0 hX0 hR0 hE0=> ?_;refine zl (σ:=Nat) (fun i=>i<=xs.length/\∀q,q<i->(v==nth xs q)=false) (fun i=>xs.length-i) (fun i=>[(0,.slc false 0 0 0 xs.length),(1,.int .i64 v),(7,.int .i64 xs.length),(8,.int .i64 i)]) (fun _=>⟨1,[(0,z1a xs)]⟩) 0 ⟨ql _,fun q h=>by omega⟩ (ρ:=id) (Zg id) ?_;rintro i hi QL1 hL1 hRL1 hEL1;refine Zrs [0,1,7,8,9] (z6 ?_);refine Zcn ?_ ?_
 ·intro h9;obtain⟨hi1,hi2⟩:=hi;refine z7 (z6 ?_);refine z8 fun Q1 hN1 hX1 hR1 hE1=> ?_;refine Zrs [0,1,5,7,8] ?_;refine Zrs [0,1,5,7,8,16] ?_;refine Zcm ?_ ?_
  ·intro h16;refine Zrs [4] (zb (hR1 _ _ (hRL1 _ _ (hR0 _ _ (hQ _ _ ?_)))));refine Zob ⟨1,[]⟩ ?_;rw[idxB_atK (p:=fun i=>v==nth xs i) h16 (by omega) hi2]
   first|trivial|exact⟨rfl,by trivial⟩
  intro h16;refine z7 (za (hN1 _ _ (Zrg [0,1,7,8] (za (hL1 _ _ ?_)))));rw[iS i];refine⟨i+1,⟨⟨by omega,fun q hq=> ?_⟩,by omega⟩,id,(Zg id)⟩
  by_cases e:q=i
  ·subst e;exact h16
  exact hi2 q (by omega)
 intro h9;obtain⟨hi1,hi2⟩:=hi;refine zk (hEL1 _ _ _ (hX0 _ _ (Zrs [4] (zb (hQ _ _ ?_)))));refine Zob ⟨1,[]⟩ ?_;rw[idxB_noneK (p:=fun i=>v==nth xs i) fun q hq=>hi2 q (by omega)]
 first|trivial|exact⟨rfl,by trivial⟩
def contains2_spec (xs:List Int)(v:Int)(n:Nat)(hn:xs.length=n)(hx:n<=1000000):
  zj prog 115 [.slc false 0 0 0 n,.int .i64 v] ⟨1,[(0,z1a xs)]⟩ (fun s H1=>s= .bool (hasB xs v)/\H1=⟨1,[]⟩):=by
 subst hn;refine Zf false 9 [.tmp 4] func115 ntmps115 results115 fun w0 own0 β0 Q hQ hQn=> ?_;refine Zrs [0,1] ?_;refine sg [4] rfl ?_;intro K hK;iterate 2 (refine Zo Zl ?_)
 refine Zd Zl (index2_spec xs v xs.length rfl hx) (id) ?_;refine Zkl hK ?_;clear hK K;refine zb (hQ _ _ ?_);refine Zob ⟨1,[]⟩ ?_;rw[idxB_anyK]
 first|trivial|exact⟨rfl,by trivial⟩
end
section
open LlBm (gxE oxE exE)
open LlCm (axE)
open D0 (sdE)
def chain_spec (cs:List Cl)(ps:List Pr)(n m:Nat)(hn:cs.length=n)(hm:ps.length=m)(h:Rts cs):
  zj prog 113 [.agg [.slc false 0 0 0 n,.slc false 1 0 0 m]] ⟨2,[(0,z4l cs),(1,z5b ps)]⟩
   (fun s H1=> ∃out:List Int,(∀l,z4o cs 0=some l->out=l)/\out.length<=n+1/\s= .tup [.slc true 2 0 0 out.length,.bool (z4o cs 0).isSome]/\H1=⟨3,[(2,zu out)]⟩):=by
 subst hn hm;obtain⟨r0,hr0⟩:∃r0,z4o cs 0=r0:=⟨_,rfl⟩;rw[hr0];refine Zf false 27 [.tmp 2,.tmp 3] func113 ntmps113 results113 fun w0 own0 β0 Q hQ hQn=> ?_;refine Zrs [1] ?_;refine Zrs [1,4] (z6 ?_);refine Zrs [1,4,5] ?_;refine z8 fun Q0 hN0 hX0 hR0 hE0=> ?_;refine zl (σ:=List Int×Int×Nat) (fun σ=>0<=σ.2.1/\σ.2.1<cs.length/\meas cs σ.2.1<σ.2.2/\σ.1.length+σ.2.2=cs.length+1/\r0=(z5p cs σ.2.2 σ.2.1).map (σ.1++ ·)) (fun σ=>σ.2.2) (fun σ=>[(5,.int .i64 σ.2.1),(1,.ptr 2 0 0 0),(4,.slc true 3 0 0 (σ.1++[σ.2.1]).length)]) (fun σ=>⟨4,[(3,zu (σ.1++[σ.2.1])),(2,z43 0 cs.length 1 ps.length),(0,z4l cs),(1,z5b ps)]⟩) ([],0,cs.length+1) ⟨Jz 0,by have:=h.two;dsimp only;omega,by have:=meas_le cs 0;dsimp only;omega,by simp,by rw[<-hr0,z4o];simp⟩ (ρ:=id) (Zg id) ?_;rintro⟨pre,b,k⟩ hi QL1 hL1 hRL1 hEL1;refine z6 (Zrs [1,4,5,9] ?_);refine Zcn ?_ ?_
 ·intro h9;obtain⟨hb1,hb2,hk,hpl,hr⟩:=hi;dsimp only at hb1 hb2 hk hpl hr;have hrt:=h.rt b.toNat (by omega);obtain⟨k,rfl⟩:∃k',k=k'+1:=⟨k-1,by omega⟩;refine z7 ?_;refine z8 fun Q1 hN1 hX1 hR1 hE1=> ?_;refine Zrs [1,4,5,6] (z6 ?_);refine sg [1,4,6,20] rfl ?_;intro K hK;iterate 3 (refine Zo Zl ?_)
  refine Zd Zl (less_specK cs cs.length ps.length rfl b (cl cs b.toNat).right ⟨hb1,hb2⟩ hrt) (id) ?_;refine Zkl hK ?_;clear hK K;refine Zcn ?_ ?_
  ·intro h20;have hr2:r0=none:=by rw[hr,z5p,qc (by simpa using h9),qc (by rw[h20];exact qh)];rfl
   subst hr2;refine Zrs [2,3] (z2f 2 3 1 (ints []) rfl ?_);dsimp only;refine zb (hR1 _ _ (hRL1 _ _ (hR0 _ _ (hQ _ _ ?_))));refine Zor (fun q=>if q=2 then 4 else q) (.tup [.slc true 2 0 0 ([]:List Int).length,.bool false]) (⟨3,[(2,zu [])]⟩) ?_;exact⟨[],fun l hl=>(by cases hl),by simp,rfl,rfl⟩
  intro h20
  have hr2:r0=(z5p cs k (cl cs b.toNat).right).map (fun q=>pre++[b]++q):=by
   rw[hr,z5p,qc (by simpa using h9),qe h20,Option.map_map]
   congr 1;funext q;simp
  have hms:=meas_lt hrt h20;have hbig:=h.big;have hpl2:(pre++[b]).length<=1073741823:=by simp only[qX,Qn];omega
  refine z7 (Zrs [1,4,5] ?_);refine Zrg [1,4,5] (za (hN1 _ _ (za (hL1 _ _ ?_))));refine⟨(pre++[b],(cl cs b.toNat).right,k),⟨⟨hrt.1,hrt.2,by dsimp only;omega,by simp only[qX,Qn];omega,hr2⟩,by dsimp only;omega⟩,fun q=>if q=3 then 5 else q,?_⟩;exact(Zg (fun q=>if q=3 then 5 else q))
 intro h9;obtain⟨hb1,hb2,hk,hpl,hr⟩:=hi;dsimp only at hb1 hb2 hk hpl hr;subst h9;obtain⟨k,rfl⟩:∃k',k=k'+1:=⟨k-1,by omega⟩;have hr2:r0=some (pre++[1]):=by rw[hr,z5p];rfl
 subst hr2;refine zk (hEL1 _ _ _ (hX0 _ _ (Zrs [2,3] (zb (hQ _ _ ?_)))));refine Zor (fun q=>if q=2 then 3 else q) (.tup [.slc true 2 0 0 (pre++[1]).length,.bool true]) (⟨3,[(2,zu (pre++[1]))]⟩) ?_;exact⟨pre++[1],fun l hl=>(by cases hl;rfl),by simp;omega,rfl,rfl⟩
def refChain_spec (cs:List Cl)(ps:List Pr)(n m:Nat)(hn:cs.length=n)(hm:ps.length=m)(h:Rts cs)(a:Int)(ha:0<=a/\a<n):
  zj prog 149 [.agg [.slc false 0 0 0 n,.slc false 1 0 0 m],.int .i64 a] ⟨2,[(0,z4l cs),(1,z5b ps)]⟩
   (fun s H1=> ∃out:List Int,(∀l,z4o cs a=some l->out=l)/\out.length<=n+1/\s= .tup [.slc true 2 0 0 out.length,.bool (z4o cs a).isSome]/\H1=⟨3,[(2,zu out)]⟩):=by
 subst hn hm;obtain⟨r0,hr0⟩:∃r0,z4o cs a=r0:=⟨_,rfl⟩;rw[hr0];refine Zf false 32 [.tmp 4,.tmp 5] func149 ntmps149 results149 fun w0 own0 β0 Q hQ hQn=> ?_;refine Zrs [1,2] ?_;refine Zrs [1,2,6] (z6 ?_);refine Zrs [2,6,7] ?_;refine z8 fun Q0 hN0 hX0 hR0 hE0=> ?_;refine zl (σ:=List Int×Int×Nat) (fun σ=>0<=σ.2.1/\σ.2.1<cs.length/\meas cs σ.2.1<σ.2.2/\σ.1.length+σ.2.2=cs.length+1/\r0=(z5p cs σ.2.2 σ.2.1).map (σ.1++ ·)) (fun σ=>σ.2.2) (fun σ=>[(7,.int .i64 σ.2.1),(2,.ptr 2 0 0 0),(6,.slc true 3 0 0 (σ.1++[σ.2.1]).length)]) (fun σ=>⟨4,[(3,zu (σ.1++[σ.2.1])),(2,z43 0 cs.length 1 ps.length),(0,z4l cs),(1,z5b ps)]⟩) ([],a,cs.length+1) ⟨ha.1,ha.2,by have:=meas_le cs a;dsimp only;omega,by simp,by rw[<-hr0,z4o];simp⟩ (ρ:=id) (Zg id) ?_;rintro⟨pre,b,k⟩ hi QL1 hL1 hRL1 hEL1;refine z6 (Zrs [2,6,7,13] ?_);refine Zcn ?_ ?_
 ·intro h13;obtain⟨hb1,hb2,hk,hpl,hr⟩:=hi;dsimp only at hb1 hb2 hk hpl hr;have hrt:=h.rt b.toNat (by omega);obtain⟨k,rfl⟩:∃k',k=k'+1:=⟨k-1,by omega⟩;refine z7 ?_;refine z8 fun Q1 hN1 hX1 hR1 hE1=> ?_;refine Zrs [2,6,7,8] (z6 ?_);refine sg [2,6,8,24] rfl ?_;intro K hK;iterate 3 (refine Zo Zl ?_)
  refine Zd Zl (below_spec cs cs.length ps.length rfl b (cl cs b.toNat).right ⟨hb1,hb2⟩ hrt) (id) ?_;refine Zkl hK ?_;clear hK K;refine Zcn ?_ ?_
  ·intro h24;have hr2:r0=none:=by rw[hr,z5p,qc (by simpa using h13),qc (by rw[h24];exact qh)];rfl
   subst hr2;refine Zrs [4,5] (zb (hR1 _ _ (hRL1 _ _ (hR0 _ _ (hQ _ _ ?_)))));refine Zor (fun q=>if q=2 then 3 else q) (.tup [.slc true 2 0 0 (pre++[b]).length,.bool false]) (⟨3,[(2,zu (pre++[b]))]⟩) ?_;exact⟨pre++[b],fun l hl=>(by cases hl),by simp;omega,rfl,rfl⟩
  intro h24
  have hr2:r0=(z5p cs k (cl cs b.toNat).right).map (fun q=>pre++[b]++q):=by
   rw[hr,z5p,qc (by simpa using h13),qe h24,Option.map_map]
   congr 1;funext q;simp
  have hms:=meas_lt hrt h24;have hbig:=h.big;have hpl2:(pre++[b]).length<=1073741823:=by simp only[qX,Qn];omega
  refine z7 (Zrs [2,6,8] ?_);refine Zrg [2,6,7] (za (hN1 _ _ (za (hL1 _ _ ?_))));refine⟨(pre++[b],(cl cs b.toNat).right,k),⟨⟨hrt.1,hrt.2,by dsimp only;omega,by simp only[qX,Qn];omega,hr2⟩,by dsimp only;omega⟩,fun q=>if q=3 then 5 else q,?_⟩;exact(Zg (fun q=>if q=3 then 5 else q))
 intro h13;obtain⟨hb1,hb2,hk,hpl,hr⟩:=hi;dsimp only at hb1 hb2 hk hpl hr;subst h13;obtain⟨k,rfl⟩:∃k',k=k'+1:=⟨k-1,by omega⟩;have hr2:r0=some (pre++[1]):=by rw[hr,z5p];rfl
 subst hr2;refine zk (hEL1 _ _ _ (hX0 _ _ (Zrs [4,5] (zb (hQ _ _ ?_)))));refine Zor (fun q=>if q=2 then 3 else q) (.tup [.slc true 2 0 0 (pre++[1]).length,.bool true]) (⟨3,[(2,zu (pre++[1]))]⟩) ?_;exact⟨pre++[1],fun l hl=>(by cases hl;rfl),by simp;omega,rfl,rfl⟩
end
end Go.Proofs
