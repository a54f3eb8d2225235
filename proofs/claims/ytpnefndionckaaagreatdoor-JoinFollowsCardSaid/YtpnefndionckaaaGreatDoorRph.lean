/-
  Walks and plain facts, joined: part 8 of 18.
  Conditions: those that each statement names.
-/
import Derived.Test.YtpnefndionckaaaGreatDoorRpc
import Derived.Lib.ReflectliteSlice
import Derived.Lib.ReflectliteSwap
import Derived.Laws.Externs
set_option linter.unusedSimpArgs false
set_option linter.unusedVariables false
set_option linter.defProp false
set_option maxRecDepth 4000
set_option maxHeartbeats 8000000
namespace Go.Sk
open Go.RowKit Go.Lib
def zj.ext {P:Program}{f:FuncId}{args:List SV}{H0:AH}{R:SV->AH->Prop}{e:Array Value->Sem Value}(hrun:∀as1 w,(callFunc f as1).run P w=((e as1).run P w).andThen fun v w'=> .ok (.value v) w')
  (h:∀(X:Cx) (β:Env) (w:World) (vs:List Value),X.P=P->X.m0=H0.nxt->St X β H0 w->z2u β args vs->SV.ltL H0.nxt args->
   ∃v w',(e vs.toArray).run P w= .ok v w'/\∃β' s H',R s H'/\OwnAll H0 H'.os/\den β' s v/\s.lt H'.nxt/\St X β' H' w'):zj P f args H0 R:=by
 intro X β w vs hP hm hw hβ ho hS hd hl;obtain⟨v,w',h1,h2⟩:=h X β w vs hP hm hS hd hl;refine .inr ⟨v,w',?_,v,rfl,h2⟩;rw[hrun,h1];rfl
section
variable {P:Program} {f:FuncId}
def valueOf_spec (hrun:∀as1 w,(callFunc f as1).run P w=((Extern.ReflectliteValue.unpack (as1.getD 0 (.tuple #[]))).run P w).andThen fun v w'=> .ok (.value v) w')
  (t e:TypeId) (i:TypeInfo) (hi:P.info? t=some i) (hd:i.desc= .slice e) (g:Bool) (o n:Nat):
  zj P f [.ifc t (.slc g 0 0 o n)] ⟨1,[]⟩ (fun s H1=>s= .agg [.raw (Go.typeHandle P t),.ptr 1 0 0 0,.int .u64 151]/\H1=⟨2,[(1,uQ (.row ⟨true,true,t,1,1,fun _=>[.slc g 0 0 o n]⟩))]⟩):=by
 refine zj.ext (e:=fun as1=>Extern.ReflectliteValue.unpack (as1.getD 0 (.tuple #[]))) hrun fun X β w vs hP hm hS hdl hl=> ?_;subst hP;simp only[z2u,den] at hdl;obtain⟨v0,r0,⟨u,hu,rfl⟩,rfl,rfl⟩:=hdl;obtain⟨a,c,rfl,hc⟩:=z3z hu;have hr:=run_valueOf_slice (P:=X.P) t e i hi hd a n c w;refine⟨_,_,hr,?_⟩
 have hA:=aft_new (X:=X) (β:=β) (H:=⟨1,[]⟩) (w:=w) (e:=t) (var:=true) (sz:=1) (n:=1) (f:=fun _=>[.slc g 0 0 o n]) (cs:=[.slc g 0 0 o n]) (vs:=[.slice a n c]) (s:= .agg [.raw (Go.typeHandle X.P t),.ptr 1 0 0 0,.int .u64 151])
  (v:= .agg #[Go.typeHandle X.P t,.pointer (some ⟨w.heap.size,0,none⟩),.int .u64 151]) (k:=fun s H1=>s= .agg [.raw (Go.typeHandle X.P t),.ptr 1 0 0 0,.int .u64 151]/\H1=⟨2,[(1,uQ (.row ⟨true,true,t,1,1,fun _=>[.slc g 0 0 o n]⟩))]⟩)
  hS (by simp) (by simp[maxLen]) ⟨_,[],by simp only[den];exact hu,rfl,rfl⟩ (by simp[SV.ltL,SV.lt]) (fun s hs=>by simp at hs;subst hs;rfl) (one_row _) (fun β' hb=>by
   simp only[den]
   exact⟨_,⟨_,_,rfl,⟨_,_,by simp only[den];exact⟨_,hb,by simp⟩,⟨_,_,rfl,rfl,rfl⟩,rfl⟩,rfl⟩,rfl⟩) (by simp[SV.lt,SV.ltL]) ⟨rfl,rfl⟩
 obtain⟨β',s,H1,⟨rfl,rfl⟩,h2,h3,h4,_⟩:=hA;exact⟨β',_,_,⟨rfl,rfl⟩,fun x hx=>by simp at hx;subst hx;exact⟨fun _=>rfl,.inl (qd _)⟩,h2,h3,by simpa using h4⟩
def valueLen_spec (hrun:∀as1 w,(callFunc f as1).run P w=((Extern.ReflectliteValue.method (Extern.ReflectliteValue.valueError "reflectlite.Value.Len" 0) Extern.ReflectliteValue.len as1).run P w).andThen fun v w'=> .ok (.value v) w')
  (t e:TypeId) (i:TypeInfo) (hi:P.info? t=some i) (hd:i.desc= .slice e) (hpk:P.packed t=false) (g:Bool) (o n:Nat):
  zj P f [.agg [.raw (Go.typeHandle P t),.ptr 1 0 0 0,.int .u64 151]] ⟨2,[(1,uQ (.row ⟨false,true,t,1,1,fun _=>[.slc g 0 0 o n]⟩))]⟩ (fun s H1=>s= .int .i64 n/\H1=⟨2,[]⟩):=by
 refine zj.ext (e:=Extern.ReflectliteValue.method (Extern.ReflectliteValue.valueError "reflectlite.Value.Len" 0) Extern.ReflectliteValue.len) hrun fun X β w vs hP hm hS hdl hl=> ?_
 subst hP;simp only[z2u,den] at hdl;obtain⟨v0,r0,⟨us,⟨u0,l0,rfl,⟨u1,l1,⟨L,hL,rfl⟩,⟨u2,l2,rfl,rfl,rfl⟩,rfl⟩,rfl⟩,rfl⟩,rfl,rfl⟩:=hdl;obtain⟨L1,hb,_,_,_,hcell⟩:=hS.cellsAt (id:=1) (kk:=0) (r:=⟨false,true,t,1,1,fun _=>[.slc g 0 0 o n]⟩) (i:=0) rfl (by simp);rw[hL] at hb
 cases hb
 obtain⟨_,_,v,hv,hdv⟩:=hcell 0 _ rfl;simp only[den] at hdv;obtain⟨a,c,rfl,hc⟩:=z3z hdv;have hr:=run_valueLen_slice (P:=X.P) t e i hi hd hpk ⟨L.blk,L.off+0*L.sz+0,none⟩ a n c w hv;refine⟨_,_,hr,β,_,⟨2,[]⟩,⟨rfl,rfl⟩,fun x hx=>(by cases hx),rfl,trivial,?_⟩
 exact St.less hS rfl (fun id k o h=>by simp[look,find] at h) (fun id k o h1 h2 h3=>by
  exfalso
  obtain⟨cc,F,hf,hk,rfl⟩:=z1h h2;simp only[find,uQ] at hf
  split at hf
  ·cases hf;cases h3
  ·cases hf)
def swapper_spec (hrun:∀as1 w,(callFunc f as1).run P w=((Extern.ReflectliteSwapper.swapper "internal/reflectlite" (Extern.ReflectliteValue.valueError "Swapper") as1).run P w).andThen fun v w'=> .ok (.value v) w')
  (t e:TypeId) (i ie:TypeInfo) (hi:P.info? t=some i) (hd:i.desc= .slice e) (hie:P.info? e=some ie) (ke:Nat) (hke:∀w,(Extern.Rtype.kind e).run P w= .ok ke w) (g:Bool) (o n:Nat)
  (q:Nat) (hq:P.funcs.findIdx? (·.name== "internal/reflectlite" ++ ".Swapper$" ++toString (swapperK n ie ke))=some q):
  zj P f [.ifc t (.slc g 0 0 o n)] ⟨1,[]⟩ (fun s H1=>s= .fn q (if swapperK n ie ke<=2 then [] else [.slc g 0 0 o n,.raw (Go.typeHandle P e)])/\H1=⟨1,[]⟩):=by
 refine zj.ext (e:=Extern.ReflectliteSwapper.swapper "internal/reflectlite" (Extern.ReflectliteValue.valueError "Swapper")) hrun fun X β w vs hP hm hS hdl hl=> ?_
 subst hP;simp only[z2u,den] at hdl;obtain⟨v0,r0,⟨u,hu,rfl⟩,rfl,rfl⟩:=hdl;obtain⟨a,c,rfl,hc⟩:=z3z hu;have hr:=run_swapper_slice (P:=X.P) t e i ie hi hd hie ke hke a n c q hq w;refine⟨_,_,hr,β,_,_,⟨rfl,rfl⟩,fun x hx=>(by cases hx),?_,?_,hS⟩
 ·split
  ·simp only[den];exact⟨[],rfl,rfl⟩
  ·simp only[den];exact⟨_,⟨_,_,by simp only[den];exact hu,⟨_,_,rfl,rfl,rfl⟩,rfl⟩,rfl⟩
 ·split
  ·simp[SV.lt,SV.ltL]
  ·simp[SV.lt,SV.ltL]
def swapF (h:Nat->List SV)(i j:Nat):Nat->List SV:=fun q=>if q=j then h i else if q=i then h j else h q
def swap_spec (gs:Bool)(hrun:∀as1 w,(callFunc f as1).run P w=((Extern.ReflectliteSwapper.swap gs as1).run P w).andThen fun v w'=> .ok (.value v) w')
  (e:TypeId) (sz:Nat) (hok:(z1o P e).ok=true) (hag:(z1o P e).kd.agg=true) (hsz:(z1o P e).size=sz) (hsz2:z2m P e=sz) (h0:sz≠0) (n:Nat) (h:Nat->List SV) (i j:Nat) (hi:i<n) (hj:j<n) (hij:i≠j):
  zj P f [.int .i64 i,.int .i64 j,.slc true 0 0 0 n,.raw (Go.typeHandle P e)] ⟨1,[(0,uQ (.row ⟨true,false,e,sz,n,h⟩))]⟩
   (fun s H1=>s= .tup []/\H1=⟨1,[(0,uQ (.row ⟨true,false,e,sz,n,swapF h i j⟩))]⟩):=by
 refine zj.ext (e:=Extern.ReflectliteSwapper.swap gs) hrun fun X β w vs hP hm hS hdl hl=> ?_;subst hP;simp only[z2u,den] at hdl;obtain⟨v0,r0,rfl,⟨v1,r1,rfl,⟨v2,r2,hu,⟨v3,r3,rfl,rfl,rfl⟩,rfl⟩,rfl⟩,rfl⟩:=hdl;obtain⟨L,c,hb,rfl⟩:=z4v hu (by omega);have hlk:look [(0,uQ (Obj.row ⟨true,false,e,sz,n,h⟩))] 0 0=some (.row ⟨true,false,e,sz,n,h⟩):=rfl;have hcl:=fun q (hq:q<n)=>hS.cellsAt (id:=0) (kk:=0) (r:=⟨true,false,e,sz,n,h⟩) (i:=q) hlk hq;have hlen:∀q,q<n->(h q).length=sz:=fun q hq=>by obtain⟨_,_,_,_,h5,_⟩:=hcl q hq;exact h5
 have hsc:∀q,q<n->(h q).all SV.scalar=true:=fun q hq=>qu.2 fun s hs=>by
  obtain⟨_,_,_,_,_,h6⟩:=hcl q hq;obtain⟨y,hy⟩:=Qr hs;exact(h6 y s hy).1
 have hlt:∀q,q<n->SV.ltL 1 (h q):=fun q hq=>SV.ltL_of_get fun y s hs=>by
  obtain⟨_,_,_,_,_,h6⟩:=hcl q hq;exact(h6 y s hs).2.1
 have hLsz:L.sz=sz:=by
  obtain⟨L',hb',_,h3,_⟩:=hcl i hi;rw[hb] at hb';cases hb';exact h3
 --what lies at an element,read
 have rd:∀q,q<n->∃v,den β (.agg (h q)) v/\(loadVar e ⟨L.blk,L.off+q*sz,none⟩).run X.P w= .ok v w:=fun q hq=>by
  obtain⟨s',hk,hs⟩:=loadK_ok (W:=[]) (G:=true) (t:=e) (s:= .ptr 0 0 q 0) (v:= .pointer (some ⟨L.blk,L.off+q*L.sz+0,none⟩)) (k:=fun s=>s= .agg (h q)) hS (by
   simp only[loadK,find,uQ,↓reduceIte,hag,hsz];refine⟨fun _=>⟨by omega,hq,rfl,hok⟩,fun _=>by omega,?_⟩
   rw[jq,Qj (by rw[hlen q hq];exact qd _)]) (fun _=>by simp only[den];exact⟨L,hb,rfl⟩)
  subst hk;obtain⟨_,v,hv,hr⟩:=hs rfl;have:=hr w (Kp.refl _ _);rw[hLsz] at this;exact⟨v,hv,by simpa [Instr.loadAt,Instr.sureAddr] using this⟩
 obtain⟨x,hx,rx⟩:=rd i hi;obtain⟨y,hy,ry⟩:=rd j hj
 have spl0:∀q q',q<n->q'<n->spl (h q) 0 (h q')=h q':=fun q q' hq hq'=>by
  unfold spl;rw[js,jI,QE,List.drop_eq_nil_of_le (by rw[hlen q hq,hlen q' hq'];exact qd _),jc]
 --the first store
 obtain⟨w1,s1,⟨β1,sv1,H1,hk1,_,_,hS1,hag1,_,_⟩,_⟩:=storeK_ok (dr:=false) (W:=[]) (t:=e) (sa:= .ptr 0 0 i 0) (sv:= .agg (h j)) (va:= .pointer (some ⟨L.blk,L.off+i*L.sz+0,none⟩)) (vv:=y)
  (k:=fun _ H1=>H1=⟨1,[(0,uQ (.row ⟨true,false,e,sz,n,fun q=>if q=i then h j else h q⟩))]⟩) hS (by
   simp only[storeK,find,uQ,↓reduceIte,SV.cells,okCells];refine⟨⟨trivial,by omega,hi,by simp,by simp,trivial,hsc j hj,by rw[hlen j hj,hsz2],by omega,by rw[hlen j hj];omega⟩,?_⟩;rw[spl0 i j hi hj]
   simp[setO,updF]) (by simp only[den];exact⟨L,hb,rfl⟩) hy (by simp only[SV.lt];exact hlt j hj)
 subst hk1;have hb1:β1 0 0=some L:=by rw[hag1 0 0 (by show(0:Nat)<1;omega)];exact hb
 have hx1:den β1 (.agg (h i)) x:=z62 hag1 _ _ (by simp only[SV.lt];exact hlt i hi) hx
 --the second store
 obtain⟨w2,s2,⟨β2,sv2,H2,hk2,_,_,hS2,_,_,_⟩,_⟩:=storeK_ok (dr:=false) (W:=[]) (t:=e) (sa:= .ptr 0 0 j 0) (sv:= .agg (h i)) (va:= .pointer (some ⟨L.blk,L.off+j*L.sz+0,none⟩)) (vv:=x)
  (k:=fun _ H1=>H1=⟨1,[(0,uQ (.row ⟨true,false,e,sz,n,swapF h i j⟩))]⟩) hS1 (by
   simp only[storeK,find,uQ,↓reduceIte,SV.cells,okCells];refine⟨⟨trivial,by omega,hj,by simp,by simp,trivial,hsc i hi,by rw[hlen i hi,hsz2],by omega,by rw[hlen i hi];omega⟩,?_⟩;have:(if j=i then h j else h j)=h j:=by split<;>rfl
   rw[this,spl0 j i hj hi];simp[setO,updF]
   rfl) (by simp only[den];exact⟨L,hb1,rfl⟩) hx1 (by simp only[SV.lt];exact hlt i hi)
 subst hk2;obtain⟨ti,hti,hti2⟩:=z4c (P:=X.P) (t:=e) (by omega);have ez:ti.size=sz:=by omega
 have st1:(storeVar e ⟨L.blk,L.off+i*sz,none⟩ y).run X.P w= .ok () w1:=by rw[hLsz] at s1;simpa [Instr.storeAt,Instr.sureAddr] using s1
 have st2:(storeVar e ⟨L.blk,L.off+j*sz,none⟩ x).run X.P w1= .ok () w2:=by rw[hLsz] at s2;simpa [Instr.storeAt,Instr.sureAddr] using s2
 have hh:(Extern.Rtype.ofHandle (Go.typeHandle X.P e)).run X.P w= .ok e w:=by simp[Extern.Rtype.ofHandle,handleType,typeHandle,Result.andThen]
 refine⟨.tuple #[],w2,?_,β2,.tup [],_,⟨rfl,rfl⟩,fun z hz=> ?_,by simp only[den];exact⟨[],rfl,rfl⟩,trivial,hS2⟩
 ·have e1:([Value.int .i64 i,.int .i64 j,.slice (some ⟨L.blk,L.off+0*L.sz,none⟩) n c,Go.typeHandle X.P e].toArray)= #[Value.int .i64 i,.int .i64 j,.slice (some ⟨L.blk,L.off,none⟩) n c,Go.typeHandle X.P e]:=by simp
  rw[e1,rl_swap];have n1:¬((i:Int)<0):=by omega
  have n2:¬((j:Int)<0):=by omega
  have n3:¬((n:Int)<=(i:Int)):=by omega
  have n4:¬((n:Int)<=(j:Int)):=by omega
  cases gs<;>simp[hi,hj,n1,n2,n3,n4,hh,Extern.ReflectliteSwapper.exchange,z23 hti,ez,z48,rx,ry,st1,st2,Result.andThen]
 ·simp at hz;subst hz;exact⟨fun _=>rfl,.inr ⟨_,qo ..,rfl,rfl,rfl⟩⟩
end
end Go.Sk
namespace Go.Proofs
open Tryz
open Go.Sk
section
def Tryz.tyLs:z1o prog 183=⟨true,.struct,2,16,[(0,some false,1),(1,some false,1)]⟩:=by kernel_rfl
def Tryz.szLs:z2m prog 183=2:=by kernel_rfl
def Tryz.szNodes:z2m prog 23=1:=by kernel_rfl
def Tryz.tyFn:z1o prog 150=⟨true,.other,1,8,[]⟩:=by kernel_rfl
def Tryz.tyFn2:z1o prog 179=⟨true,.other,1,8,[]⟩:=by kernel_rfl
def ltN (a b:Nd):Bool:=sLt a.key b.key||(sEq a.key b.key && decide (a.id<b.id))
def swp (xs:List Nd)(i j:Nat):List Nd:=(xs.set i (nd xs j)).set j (nd xs i)
def swp_length (xs:List Nd)(i j:Nat):(swp xs i j).length=xs.length:=by simp[swp]
def nd_set_eq {xs:List Nd}{k:Nat}{v:Nd}(h:k<xs.length):nd (xs.set k v) k=v:=by simp[nd,List.getD,h]
def nd_set_ne {xs:List Nd}{k j:Nat}{v:Nd}(h:k≠j):nd (xs.set k v) j=nd xs j:=by simp[nd,List.getD,jP h]
def swapF_nds (xs:List Nd){i j:Nat}(hi:i<xs.length)(hj:j<xs.length):swapF (nds xs) i j=nds (swp xs i j):=by
 funext q
 simp only[swapF,nds,swp]
 by_cases h1:q=j
 ·subst h1;rw[qe rfl,nd_set_eq (by simpa using hj)]
 rw[qc h1,nd_set_ne (Qt h1)]
 by_cases h2:q=i
 ·subst h2;rw[qe rfl,nd_set_eq hi]
 rw[qc h2,nd_set_ne (Qt h2)]
def sinkF (a:Nat):Nat->List Nd->List Nd
 |0,xs=>xs
 |j+1,xs=>if a<j+1/\ltN (nd xs (j+1)) (nd xs j)=true then sinkF a j (swp xs (j+1) j) else xs
def insF (a:Nat):Nat->Nat->List Nd->List Nd
 |0,_,xs=>xs
 |k+1,i,xs=>insF a k (i+1) (sinkF a i xs)
def boxN (n:Nat):Nat×(Nat->Sk.Obj):=uQ (.row ⟨false,true,23,1,1,fun _=>[.slc true 1 0 0 n]⟩)
noncomputable def lessSv (box:Nat):SV:= .fn 118 [.ptr box 0 0 0]
noncomputable def swapSv (row n:Nat):SV:= .fn 186 [.slc true row 0 0 n,.raw (Go.typeHandle prog 62)]
def nodeSwap_spec (xs:List Nd)(n i j:Nat)(hn:xs.length=n)(hi:i<n)(hj:j<n)(hij:i≠j):
  zj prog 186 [.int .i64 i,.int .i64 j,.slc true 0 0 0 n,.raw (Go.typeHandle prog 62)] ⟨1,[(0,rO 62 3 n (nds xs))]⟩
   (fun s H1=>s= .tup []/\H1=⟨1,[(0,rO 62 3 n (nds (swp xs i j)))]⟩):=by
 subst hn;rw[<-swapF_nds xs hi hj]
 exact swap_spec false (fun av w=>Jk func186 (by kernel_rfl) (by kernel_rfl) (by kernel_rfl) (e:=Extern.ReflectliteSwapper.swap false) (by kernel_rfl) av w)
  62 3 (by kernel_rfl) (by kernel_rfl) (by kernel_rfl) Tryz.szNode (by omega) xs.length (nds xs) i j hi hj hij
noncomputable def lsRow (n:Nat):Nat×(Nat->Sk.Obj):=rV 183 2 1 (fun _=>[lessSv 0,swapSv 1 n])
def LessOk (n:Nat):Prop:=∀ys:List Nd,ys.length=n->∀i j:Nat,i<n->j<n->zj prog 118 [.int .i64 i,.int .i64 j,.ptr 0 0 0 0] ⟨2,[(0,boxN n),(1,rI 62 3 n (nds ys))]⟩
 (fun s H1=>s= .bool (ltN (nd ys i) (nd ys j))/\H1=⟨2,[]⟩)
def sinkF_stop {a j:Nat}{zs:List Nd}(h:¬(a<j/\ltN (nd zs j) (nd zs (j-1))=true)):sinkF a j zs=zs:=by
 cases j with
 |zero=>rfl
 |succ j=>simp only[sinkF];exact qc h
def sinkF_go {a j:Nat}{zs:List Nd}(h0:a<j)(h:ltN (nd zs j) (nd zs (j-1))=true):sinkF a j zs=sinkF a (j-1) (swp zs j (j-1)):=by
 cases j with
 |zero=>omega
 |succ j=>simp only[sinkF];exact qe ⟨h0,h⟩
def ec12:=aj3 @lsRow.eq_1 @lessSv.eq_1 @swapSv.eq_1
def z58:=aj3 @Tryz.szNode @Tryz.tyNodes @Tryz.szNodes
def ec14:=aj4 @Tryz.tyLs @Tryz.szLs @Tryz.tyFn @Tryz.tyFn2
def z3g:=aj @inNds.eq_1 @ownNds.eq_1
def RosSm.exE:=aj7 ec12 @zd @zi z58 ec14 z3g @boxN.eq_1
def ec16:=aj @nds_ren' @z4e
def RosSm.gxE:=aj4 ec12 z3g @boxN.eq_1 ec16
def RosSm.axE:=aj8 ec12 @zd @zi z58 ec14 z3g @boxN.eq_1 @z21
open RosSm (gxE axE exE)
open D0 (oxE sdE)
def insertion_spec (xs:List Nd)(a b:Nat)(hab:a<=b)(hb:b<=xs.length)(hx:xs.length<=1000000)(hless:LessOk xs.length):
  zj prog 187 [.agg [lessSv 0,swapSv 1 xs.length],.int .i64 a,.int .i64 b] ⟨2,[(0,boxN xs.length),(1,ownNds xs)]⟩
   (fun s H1=>s= .tup []/\H1=⟨2,[(1,ownNds (insF a (b-(a+1)) (a+1) xs))]⟩):=by
 refine Zf false 35 [] func187 ntmps187 results187 fun w0 own0 β0 Q hQ hQn=> ?_;refine Zrs [1,2,3] ?_;refine Zrs [1,2,3,6] ?_;refine z8 fun Q0 hN0 hX0 hR0 hE0=> ?_;refine zl (σ:=Nat×List Nd) (fun σ=>a+1<=σ.1/\(σ.1<=b\/σ.1=a+1)/\σ.2.length=xs.length/\insF a (b-σ.1) σ.1 σ.2=insF a (b-(a+1)) (a+1) xs) (fun σ=>b-σ.1) (fun σ=>[(1,.int .i64 a),(2,.int .i64 b),(3,.ptr 2 0 0 0),(6,.int .i64 σ.1)]) (fun σ=>⟨3,[(2,lsRow xs.length),(1,rO 62 3 xs.length (nds σ.2)),(0,boxN xs.length)]⟩) (a+1,xs) ⟨qd _,.inr rfl,rfl,rfl⟩ (ρ:=id) (Zg id) ?_;rintro⟨i,ys⟩ hi QL1 hL1 hRL1 hEL1;refine z6 (Zrs [1,2,3,6,12] ?_);refine Zcm ?_ ?_
 ·intro h12;replace h12:=Znb h12;dsimp only at hi;have hy:ys.length=xs.length:=hi.2.2.1;refine z7 (z6 ?_);refine z8 fun Q1 hN1 hX1 hR1 hE1=> ?_;refine Zrs [1,2,3,6,7] ?_;refine z8 fun Q2 hN2 hX2 hR2 hE2=> ?_;refine zl (σ:=Nat×List Nd) (fun σ=>a<=σ.1/\σ.1<=i/\σ.2.length=xs.length/\sinkF a σ.1 σ.2=sinkF a i ys) (fun σ=>σ.1) (fun σ=>[(1,.int .i64 a),(2,.int .i64 b),(3,.ptr 2 0 0 0),(6,.int .i64 i),(7,.int .i64 σ.1)]) (fun σ=>⟨3,[(2,lsRow xs.length),(1,rO 62 3 xs.length (nds σ.2)),(0,boxN xs.length)]⟩) (i,ys) ⟨by omega,qd _,hy,rfl⟩ (ρ:=id) (Zg id) ?_;rintro⟨j,zs⟩ hj QL2 hL2 hRL2 hEL2;refine z6 (sg [1,2,3,6,7,26] rfl ?_);intro K hK
  have hk5:a<=j/\j<=i/\zs.length=xs.length/\sinkF a j zs=sinkF a i ys->∀B:Bool,B=(decide (a<j) && ltN (nd zs j) (nd zs (j-1)))->K [(1,.int .i64 a),(2,.int .i64 b),(3,.ptr 2 0 0 0),(6,.int .i64 i),(7,.int .i64 j),(26,.bool B)] ⟨3,[(2,lsRow xs.length),(1,rO 62 3 xs.length (nds zs)),(0,boxN xs.length)]⟩:=by
   intro hj B hB;subst hB;refine hK _ _ ?_;clear hK K;refine Zcm ?_ ?_
   ·intro h26;replace h26:=Znb h26;refine z7 (z6 ?_);refine z8 fun Q3 hN3 hX3 hR3 hE3=> ?_;refine z3v [1,2,3,6,7] rfl ?_;intro K hK;iterate 5 (refine Zo Zl ?_)
    rw[show(j:Int)-1=((j-1:Nat):Int) from by omega];refine Zad ?_;refine Zd Zl (nodeSwap_spec zs xs.length j (j-1) hj.2.2.1 (by omega) (by omega) (by omega)) (fun _=>1) ?_;refine Zk hK ?_;clear hK K;refine za (hN3 _ _ (Zrg [1,2,3,6,7] (za (hL2 _ _ ?_))));have h1:=sinkF_go h26.1 h26.2;rw[show(j:Int)-1=((j-1:Nat):Int) from by omega];refine⟨(j-1,swp zs j (j-1)),⟨⟨by simp only;omega,by simp only;omega,by simp only[swp_length];exact hj.2.2.1,by simp only;rw[<-h1];exact hj.2.2.2⟩,by simp only;omega⟩,id,(Zg id)⟩
   intro h26;have hz:sinkF a j zs=zs:=sinkF_stop (by simpa using h26);refine zk (hEL2 _ _ _ (hX2 _ _ (za (hN1 _ _ (Zrg [1,2,3,6] (za (hL1 _ _ ?_)))))));have hzz:zs=sinkF a i ys:=hz.symm.trans hj.2.2.2;have hi4:=hi.2.2.2;rw[show b-i=(b-(i+1))+1 from by omega] at hi4;refine⟨(i+1,zs),⟨⟨by dsimp only;omega,.inl (by dsimp only;omega),hj.2.2.1,by dsimp only;rw[hzz];exact hi4⟩,by dsimp only;omega⟩,id,(Zg id)⟩
  iterate 9 (refine Zo Zl ?_)
  refine z13 ?_;refine z1b rfl rfl ?_;refine Zgr ?_;refine z15 ?_ ?_
  ·intro hg9
   first
    |(simp at hg9;done)
    |skip
     try replace hg9:=Znb hg9
     refine Zo id ?_;rw[show(j:Int)-1=((j-1:Nat):Int) from by omega];refine Zc1 (hless zs hj.2.2.1 j (j-1) (by omega) (by omega)) (id) ?_;refine Zo Zl ?_;refine zr ?_;refine Zpr ?_;refine hk5 hj _ ?_
     first|(simp;done)|(simp at hg9 ⊢;intro hgg;omega)
  intro hg9;refine⟨.bool false,?_⟩
  first
   |(simp at hg9;done)
   |skip
    try replace hg9:=Znb hg9
    refine Zo Zl ?_;refine zr ?_;refine Zpr ?_;refine hk5 hj _ ?_
    first|(simp;done)|(simp at hg9 ⊢;intro hgg;omega)
 intro h12
 try replace h12:=Znb h12
 refine zk (hEL1 _ _ _ (hX0 _ _ (za (hQn _ _ ?_))));dsimp only at hi;have hi4:=hi.2.2.2;rw[show b-i=0 from by omega] at hi4;have hi5:ys=insF a (b-(a+1)) (a+1) xs:=hi4;refine Zob (⟨2,[(1,rO 62 3 xs.length (nds ys))]⟩) ?_;rw[<-hi5];simp only[ownNds,hi.2.2.1]
end
def bl_irr:∀x:List UInt8,Go.Op.bytesLess x x=false
 |[]=>by simp[Go.Op.bytesLess]
 |a::x=>by simp[Go.Op.bytesLess,bl_irr x]
def bl_trans:∀{x y z:List UInt8},Go.Op.bytesLess x y=true->Go.Op.bytesLess y z=true->Go.Op.bytesLess x z=true
 |[],[],_,h,_=>by simp[Go.Op.bytesLess] at h
 |[],_::_,[],_,h=>by simp[Go.Op.bytesLess] at h
 |[],_::_,_::_,_,_=>by simp[Go.Op.bytesLess]
 |_::_,[],_,h,_=>by simp[Go.Op.bytesLess] at h
 |_::_,_::_,[],_,h=>by simp[Go.Op.bytesLess] at h
 |a::x,b::y,c::z,h1,h2=>by
  simp only[Go.Op.bytesLess,qt,qj,qm,qD] at h1 h2 ⊢;rcases h1 with h1|⟨rfl,h1⟩
  ·rcases h2 with h2|⟨rfl,h2⟩
   ·exact .inl (UInt8.lt_trans h1 h2)
   exact .inl h1
  rcases h2 with h2|⟨rfl,h2⟩
  ·exact .inl h2
  exact .inr ⟨rfl,bl_trans h1 h2⟩
def bl_eq:∀{x y:List UInt8},Go.Op.bytesLess x y=false->Go.Op.bytesLess y x=false->x=y
 |[],[],_,_=>rfl
 |[],_::_,h,_=>by simp[Go.Op.bytesLess] at h
 |_::_,[],_,h=>by simp[Go.Op.bytesLess] at h
 |a::x,b::y,h1,h2=>by
  simp only[Go.Op.bytesLess,qk,qC,qg,qD] at h1 h2;have hab:a=b:=UInt8.le_antisymm (J6.1 h2.1) (J6.1 h1.1);subst hab;rw[bl_eq (h1.2 rfl) (h2.2 rfl)]
def ba_ext {x y:ByteArray}(h:x.toList=y.toList):x=y:=by
 cases x with
 |mk a=>cases y with
  |mk b=>
   have h1:(⟨a⟩:ByteArray).toList=a.toList:=jy _;have h2:(⟨b⟩:ByteArray).toList=b.toList:=jy _;rw[h1,h2] at h
   congr 1
   exact JA.1 h
def Lt (a b:Nd):Prop:=sLt a.key b.key=true\/(a.key=b.key/\a.id<b.id)
def ltN_iff (a b:Nd):ltN a b=true↔Lt a b:=by
 simp[ltN,Lt,z5l]
def Lt.irrefl (a:Nd):¬Lt a a:=by
 simp[Lt,sLt,bl_irr]
def Lt.trans {a b c:Nd}(h1:Lt a b)(h2:Lt b c):Lt a c:=by
 rcases h1 with h1|⟨h1,h1'⟩
 ·rcases h2 with h2|⟨h2,h2'⟩
  ·exact .inl (bl_trans h1 h2)
  exact .inl (by rw[<-h2];exact h1)
 rcases h2 with h2|⟨h2,h2'⟩
 ·exact .inl (by rw[h1];exact h2)
 exact .inr ⟨h1.trans h2,by omega⟩
def Lt.same {a b:Nd}(h1:¬Lt a b)(h2:¬Lt b a):a.key=b.key/\a.id=b.id:=by
 simp only[Lt,not_or,not_and,Bool.not_eq_true] at h1 h2;have hk:a.key=b.key:=ba_ext (bl_eq h1.1 h2.1);refine⟨hk,?_⟩;have:=h1.2 hk;have:=h2.2 hk.symm;omega
def Lt.negtrans {a b c:Nd}(h1:¬Lt b a)(h2:¬Lt c b):¬Lt c a:=fun h=>by
 by_cases hab:Lt a b
 ·exact h2 (h.trans hab)
 obtain⟨hk,hi⟩:=Lt.same hab h1;apply h2;rcases h with h|⟨h,h'⟩
 ·exact .inl (by rw[<-hk];exact h)
 exact .inr ⟨h.trans hk,by omega⟩
def cls (k:ByteArray)(i:Int)(x:Nd):Bool:=decide (x.key=k/\x.id=i)
def Stb (xs ys:List Nd):Prop:=∀k i,xs.filter (cls k i)=ys.filter (cls k i)
def Stb.refl (xs:List Nd):Stb xs xs:=fun _ _=>rfl
def Stb.trans {xs ys zs:List Nd}(h:Stb xs ys)(h':Stb ys zs):Stb xs zs:=fun k i=>(h k i).trans (h' k i)
def Stb.symm {xs ys:List Nd}(h:Stb xs ys):Stb ys xs:=fun k i=>(h k i).symm
def Stb.mem {xs ys:List Nd}(h:Stb xs ys){x:Nd}(hx:x∈xs):x∈ys:=by
 have h1:x∈xs.filter (cls x.key x.id):=jH.2 ⟨hx,by simp[cls]⟩;rw[h] at h1;exact(jH.1 h1).1
def stb_blocks {A B C D:List Nd}(h:∀x∈B,∀y∈C,Lt y x):Stb (A++B++C++D) (A++C++B++D):=by
 intro k i;simp only[jr]
 by_cases hb:B.filter (cls k i)=[]
 ·simp[hb]
 have hc:C.filter (cls k i)=[]:=by
  apply jE.2;intro y hy hyc;apply hb;apply jE.2;intro x hx hxc;have:=h x hx y hy;simp only[cls,qm] at hxc hyc;rcases this with h1|⟨_,h1⟩
  ·rw[hxc.1,hyc.1] at h1;simp[sLt,bl_irr] at h1
  omega
 simp[hc]
abbrev Ord (l:List Nd):Prop:=l.Pairwise fun a b=> ¬Lt b a
def ord_unique:∀{xs ys:List Nd},Ord xs->Ord ys->Stb xs ys->xs=ys
 |[],[],_,_,_=>rfl
 |[],y::ys,_,_,h=>by have:=h.symm.mem (qo ..);cases this
 |x::xs,[],_,_,h=>by have:=h.mem (qo ..);cases this
 |x::xs,y::ys,h1,h2,h=>by
  obtain⟨a1,a2⟩:=Qz.1 h1;obtain⟨b1,b2⟩:=Qz.1 h2
  have e1:¬Lt x y:=by
   rcases qv.1 (h.mem (qo ..)) with hx|hx
   ·rw[hx];exact Lt.irrefl _
   exact b1 _ hx
  have e2:¬Lt y x:=by
   rcases qv.1 (h.symm.mem (qo ..)) with hx|hx
   ·rw[hx];exact Lt.irrefl _
   exact a1 _ hx
  obtain⟨hk,hi⟩:=Lt.same e1 e2;have h3:=h x.key x.id;simp only[J2,cls,hk,hi,JM,jR,q9,Jn] at h3;obtain⟨rfl,_⟩:=h3;rw[ord_unique a2 b2 fun k i=> ?_];have h4:=h k i;simp only[J2] at h4
  split at h4
  ·exact(List.cons.inj h4).2
  exact h4
section
def nd_swp {xs:List Nd}{i j:Nat}(hi:i<xs.length)(hj:j<xs.length)(q:Nat):nd (swp xs i j) q=if q=j then nd xs i else if q=i then nd xs j else nd xs q:=by
 unfold swp
 by_cases h1:q=j
 ·subst h1;rw[qe rfl,nd_set_eq (by simpa using hj)]
 rw[qc h1,nd_set_ne (Qt h1)]
 by_cases h2:q=i
 ·subst h2;rw[qe rfl,nd_set_eq hi]
 rw[qc h2,nd_set_ne (Qt h2)]
open RosSm (gxE axE exE)
open D0 (sdE oxE)
def rotF (a m b:Nat)(g:Nat->Nd)(q:Nat):Nd:=if a<=q/\q<a+(b-m) then g (q-a+m) else if a+(b-m)<=q/\q<b then g (q-(b-m)) else g q
end
def rot_list {xs ys:List Nd}{n a m b:Nat}(hx:xs.length=n)(hy:ys.length=n)(ha:a<=m)(hm:m<=b)(hb:b<=n)(h:∀q,nd ys q=rotF a m b (nd xs) q):
  ys=xs.take a++(xs.take b).drop m++(xs.take m).drop a++xs.drop b:=by
 apply Qw
 ·simp;omega
 intro i h1 h2;have h3:=h i;rw[z4z h1] at h3;rw[h3];simp only[List.getElem_append,qX,qN,QO,rotF];simp only[hx,QX (show a<=n by omega),QX hb,QX (show m<=n by omega)];repeat' split
 all_goals first|(exfalso;omega)|skip
 all_goals(rw[z4z (by omega)];simp only[jh,jx];try(first|rfl|(congr 1;omega)))
def rot_stb {xs ys:List Nd}{n a m b:Nat}(hx:xs.length=n)(hy:ys.length=n)(ha:a<=m)(hm:m<=b)(hb:b<=n)(h:∀q,nd ys q=rotF a m b (nd xs) q)
  (hs:∀i j,a<=i->i<m->m<=j->j<b->Lt (nd xs j) (nd xs i)):Stb xs ys:=by
 have h0:xs=xs.take a++(xs.take m).drop a++(xs.take b).drop m++xs.drop b:=by
  apply Qw
  ·simp;omega
  intro i h1 h2;simp only[List.getElem_append,qX,qN,QO];simp only[hx,QX (show a<=n by omega),QX hb,QX (show m<=n by omega)];repeat' split
  all_goals simp only[jh,jx]
  all_goals first|rfl|(congr 1;omega)
 rw[rot_list hx hy ha hm hb h]
 have:=stb_blocks (A:=xs.take a) (B:=(xs.take m).drop a) (C:=(xs.take b).drop m) (D:=xs.drop b) (fun x hx1 y hy1=>by
  obtain⟨i,hi,rfl⟩:=Qk hx1;obtain⟨j,hj,rfl⟩:=Qk hy1;simp only[QO,qN] at hi hj;simp only[jx,jh];have:=hs (a+i) (m+j) (by omega) (by omega) (by omega) (by omega)
  rwa [z4z (by omega),z4z (by omega)] at this)
 exact fun k i=>(Qv (List.filter (cls k i)) h0).trans (this k i)
def Srt (a b:Nat)(g:Nat->Nd):Prop:=∀i j,a<=i->i<=j->j<b->¬Lt (g j) (g i)
def srt_ord {xs:List Nd}(h:Srt 0 xs.length (nd xs)):Ord xs:=by
 unfold Ord;rw[Qd];intro i j hi hj hij;have:=h i j (ql _) (by omega) hj;rwa [z4z hi,z4z hj] at this
def srt_of_next {a b:Nat}{g:Nat->Nd}(h:∀i,a<=i->i+1<b->¬Lt (g (i+1)) (g i)):Srt a b g:=by
 intro i j hi hij hj;obtain⟨d,rfl⟩:=Nat.exists_eq_add_of_le hij;clear hij
 induction d with
 |zero=>exact Lt.irrefl _
 |succ d ih=>exact Lt.negtrans (ih (by omega)) (h (i+d) (by omega) (by omega))
def MergeOut (n a b:Nat)(xs zs:List Nd):Prop:=zs.length=n/\Stb xs zs/\Srt a b (nd zs)/\∀q,(q<a\/b<=q)->nd zs q=nd xs q
def take_eq {xs zs:List Nd}{n a:Nat}(hx:xs.length=n)(hz:zs.length=n)(h:∀q,q<a->nd zs q=nd xs q):zs.take a=xs.take a:=by
 apply Qw
 ·simp;omega
 intro i h1 h2;simp only[qN] at h1 h2;simp only[jh];have:=h i (by omega);rwa [z4z (by omega),z4z (by omega)] at this
def drop_eq {xs zs:List Nd}{n b:Nat}(hx:xs.length=n)(hz:zs.length=n)(h:∀q,b<=q->nd zs q=nd xs q):zs.drop b=xs.drop b:=by
 apply Qw
 ·simp;omega
 intro i h1 h2;simp only[QO] at h1 h2;simp only[jx];have:=h (b+i) (by omega);rwa [z4z (by omega),z4z (by omega)] at this
def three {xs:List Nd}{a b:Nat}(h:a<=b):xs=xs.take a++(xs.take b).drop a++xs.drop b:=by
 have h1:(xs.take b).take a=xs.take a:=by rw[List.take_take,QX h]
 rw[<-h1,JC,JC]
def seg_mem {n a b:Nat}{xs zs:List Nd}(hx:xs.length=n)(hab:a<=b)(hb:b<=n)(hz:zs.length=n)(hs:Stb xs zs)(ho:∀q,(q<a\/b<=q)->nd zs q=nd xs q){p:Nat}(hp:a<=p)(hp2:p<b):
  ∃q,a<=q/\q<b/\nd zs p=nd xs q:=by
 have ht:=take_eq hx hz fun q hq=>ho q (.inl hq);have hd:=drop_eq hx hz fun q hq=>ho q (.inr hq)
 have hseg:∀k i,((xs.take b).drop a).filter (cls k i)=((zs.take b).drop a).filter (cls k i):=fun k i=>by
  have h1:=hs k i;rw[three (xs:=xs) hab,three (xs:=zs) hab,ht,hd] at h1;simp only[jr] at h1;exact List.append_cancel_left (List.append_cancel_right h1)
 have hm:nd zs p∈(zs.take b).drop a:=by
  rw[z4z (by omega)];apply List.mem_of_getElem (i:=p-a) (h:=by simp;omega);simp only[jx,jh]
  congr 1;omega
 have hm2:=Stb.mem (xs:=(zs.take b).drop a) (ys:=(xs.take b).drop a) (fun k i=>(hseg k i).symm) hm;obtain⟨q,hq,he⟩:=Qk hm2;simp only[QO,qN] at hq;refine⟨a+q,by omega,by omega,?_⟩;rw[<-he,z4z (show a+q<xs.length by omega)];simp only[jx,jh]
def rot_at {i m e h:Nat}(hh:i+e=h+m)(hme:m<=e)(g:Nat->Nd)(q:Nat):rotF i m e g q=if i<=q/\q<h then g (q+m-i) else if h<=q/\q<e then g (q+m-e) else g q:=by
 simp only[rotF];repeat' split
 all_goals first|rfl|(exfalso;omega)|(congr 1;omega)
section
def Tryz.tyU64:z1o prog 158=⟨true,.int .u64,1,8,[]⟩:=by kernel_rfl
def RosMm.exE:=aj8 ec12 @zd @zi z58 @Tryz.tyU64 ec14 z3g @boxN.eq_1
def RosMm.axE:=aj9 ec12 @zd @zi z58 @Tryz.tyU64 ec14 z3g @boxN.eq_1 @z21
open RosSm (gxE)
open RosMm (axE exE)
open D0 (sdE oxE)
end
def MergeOut.refl {n a b:Nat}{xs:List Nd}(hl:xs.length=n)(hs:Srt a b (nd xs)):MergeOut n a b xs xs:=⟨hl,Stb.refl _,hs,fun _ _=>rfl⟩
def sink_out (n a:Nat):∀(j:Nat) (xs:List Nd),xs.length=n->a<=j->j<n->Srt a j (nd xs)->MergeOut n a (j+1) xs (sinkF a j xs)
 |0,xs,hl,ha,hj,hs=>by
  refine MergeOut.refl hl fun p q c1 c2 c3=> ?_;have:p=0:=by omega
  have:q=0:=by omega
  subst_vars
  exact Lt.irrefl _
 |j+1,xs,hl,ha,hj,hs=>by
  simp only[sinkF]
  split
  ·rename_i h;obtain⟨h1,h2⟩:=h;rw[ltN_iff] at h2;have hl':(swp xs (j+1) j).length=n:=by rw[swp_length];exact hl
   have hnd:∀q,nd (swp xs (j+1) j) q=if q=j then nd xs (j+1) else if q=j+1 then nd xs j else nd xs q:=fun q=>nd_swp (by omega) (by omega) q
   have hst:Stb xs (swp xs (j+1) j):=rot_stb (a:=j) (m:=j+1) (b:=j+2) hl hl' (by omega) (by omega) (by omega) (fun q=>by
    rw[hnd,rot_at (h:=j+1) (by omega) (by omega)]
    by_cases c1:q=j
    ·rw[qe c1,qe (by omega)];congr 1;omega
    ·by_cases c2:q=j+1
     ·rw[qc c1,qe c2,qc (by omega),qe (by omega)];congr 1;omega
     rw[qc c1,qc c2,qc (by omega),qc (by omega)]) (fun p q c1 c2 c3 c4=>by
    have:p=j:=by omega
    have:q=j+1:=by omega
    subst_vars;exact h2)
   obtain⟨z1,z2,z3,z4⟩:=sink_out n a j (swp xs (j+1) j) hl' (by omega) (by omega) (fun p q c1 c2 c3=>by
    rw[hnd,hnd,qc (by omega),qc (by omega),qc (by omega),qc (by omega)]
    exact hs p q c1 c2 (by omega))
   refine⟨z1,hst.trans z2,srt_of_next fun q c1 c2=> ?_,fun q c=>by rw[z4 q (by omega),hnd,qc (by omega),qc (by omega)]⟩
   by_cases c3:q+1<j+1
   ·exact z3 q (q+1) c1 (by omega) c3
   have hq:q=j:=by omega
   subst hq;rw[z4 (q+1) (by omega),hnd,qc (by omega),qe rfl];obtain⟨p,p1,p2,p3⟩:=seg_mem hl' (by omega) (by omega) z1 z2 z4 c1 (show q<q+1 by omega);rw[p3,hnd]
   by_cases c4:p=q
   ·rw[qe c4];exact fun hh=>Lt.irrefl _ (hh.trans h2)
   rw[qc c4,qc (by omega)];exact hs p q p1 (by omega) (by omega)
  rename_i h;refine MergeOut.refl hl (srt_of_next fun q c1 c2=> ?_)
  by_cases c3:q+1<j+1
  ·exact hs q (q+1) c1 (by omega) c3
  have hq:q=j:=by omega
  subst hq;rw[<-ltN_iff];exact fun hh=>h ⟨by omega,hh⟩
def ins_out (n a:Nat):∀(k i:Nat) (xs:List Nd),xs.length=n->a<=i->i+k<=n->Srt a i (nd xs)->MergeOut n a (i+k) xs (insF a k i xs)
 |0,i,xs,hl,_,_,hs=>MergeOut.refl hl hs
 |k+1,i,xs,hl,ha,hi,hs=>by
  obtain⟨z1,z2,z3,z4⟩:=sink_out n a i xs hl ha (by omega) hs;obtain⟨u1,u2,u3,u4⟩:=ins_out n a k (i+1) (sinkF a i xs) z1 (by omega) (by omega) z3;simp only[insF];exact⟨u1,z2.trans u2,by rw[show i+(k+1)=i+1+k by omega];exact u3,fun q c=>by rw[u4 q (by omega),z4 q (by omega)]⟩
def ins_range {n a b:Nat}{xs:List Nd}(hl:xs.length=n)(h1:a<=b)(h2:b<=n):MergeOut n a b xs (insF a (b-(a+1)) (a+1) xs):=by
 by_cases h:a<b
 ·have:=ins_out n a (b-(a+1)) (a+1) xs hl (by omega) (by omega) (fun p q c1 c2 c3=>by
   have:p=a:=by omega
   have:q=a:=by omega
   subst_vars;exact Lt.irrefl _)
  rwa [show a+1+(b-(a+1))=b by omega] at this
 rw[show b-(a+1)=0 by omega];exact MergeOut.refl hl fun p q c1 c2 c3=>by omega
def z4w (xs:List Nd):List Nd:=insF 0 (xs.length-1) 1 xs
def srtN_out (xs:List Nd):MergeOut xs.length 0 xs.length xs (z4w xs):=ins_range rfl (ql _) (qd _)
def srtN_length (xs:List Nd):(z4w xs).length=xs.length:=(srtN_out xs).1
def srtN_stb (xs:List Nd):Stb xs (z4w xs):=(srtN_out xs).2.1
def srtN_srt (xs:List Nd):Srt 0 (z4w xs).length (nd (z4w xs)):=by rw[srtN_length];exact(srtN_out xs).2.2.1
def srtN_ord (xs:List Nd):Ord (z4w xs):=srt_ord (srtN_srt xs)
def srtN_unique {xs zs:List Nd}(h1:Stb xs zs)(h2:Srt 0 zs.length (nd zs)):zs=z4w xs:=
 ord_unique (srt_ord h2) (srtN_ord xs) (h1.symm.trans (srtN_stb xs))
def srtN_same {xs:List Nd}(h:Srt 0 xs.length (nd xs)):z4w xs=xs:=(srtN_unique (Stb.refl xs) h).symm
section
open RosSm (gxE)
open RosMm (axE exE)
open D0 (oxE sdE)
def stable_spec (xs:List Nd)(n:Nat)(hn:xs.length=n)(hx:n<=20)(hless:LessOk n):
  zj prog 158 [.agg [lessSv 0,swapSv 1 n],.int .i64 n] ⟨2,[(0,boxN n),(1,rO 62 3 n (nds xs))]⟩
   (fun s H1=>s= .tup []/\H1=⟨2,[(1,rO 62 3 n (nds (z4w xs)))]⟩):=by
 subst hn;refine Zf false 57 [] func158 ntmps158 results158 fun w0 own0 β0 Q hQ hQn=> ?_;refine Zrs [1,2] ?_;refine Zrs [1,2,4] ?_;refine Zrs [1,2,4,5,6] (z6 ?_);refine z8 fun Q0 hN0 hX0 hR0 hE0=> ?_;refine zl (σ:=Nat×List Nd) (fun σ=>(σ=(0,xs))\/(σ=(1,z4w xs)/\xs.length=20)) (fun σ=>1-σ.1) (fun σ=>[(1,.int .i64 xs.length),(2,.ptr 2 0 0 0),(4,.int .i64 20),(5,.int .i64 (20*σ.1:Nat)),(6,.int .i64 (20*σ.1+20:Nat))]) (fun σ=>⟨3,[(2,lsRow xs.length),(1,rO 62 3 xs.length (nds σ.2)),(0,boxN xs.length)]⟩) (0,xs) (.inl rfl) (ρ:=id) (Zg id) ?_;rintro⟨t,ys⟩ hi QL1 hL1 hRL1 hEL1;refine z6 (Zrs [1,2,4,5,6,11] ?_);refine Zcn ?_ ?_
 ·intro h11;have hi:(t,ys)=(0,xs):=hi.resolve_right fun g=>by obtain⟨g1,g2⟩:=g;cases g1;omega
  cases hi
  have h20:xs.length=20:=by omega
  refine z7 ?_;refine z8 fun Q1 hN1 hX1 hR1 hE1=> ?_;refine sg [1,2,4,6] rfl ?_;intro K hK;iterate 3 (refine Zo Zl ?_)
  refine Zd Zl (insertion_spec xs (20*0) (20*0+20) (by omega) (by omega) (by omega) hless) (id) ?_;rw[show insF (20*0) (20*0+20-(20*0+1)) (20*0+1) xs=z4w xs from by rw[z4w,h20]];refine Zk hK ?_;clear hK K;refine Zrs [1,2,4,5,6] ?_;refine Zrg [1,2,4,5,6] (za (hN1 _ _ (za (hL1 _ _ ?_))));refine⟨(1,z4w xs),⟨.inr ⟨rfl,h20⟩,by dsimp only;omega⟩,id,?_⟩;exact(have xE:=@srtN_length;Zgx id)
 intro h11
 have hl:ys.length=xs.length/\insF (20*t) (xs.length-(20*t+1)) (20*t+1) ys=z4w xs:=by
  rcases hi with g|⟨g,h20⟩
  ·cases g;exact⟨rfl,rfl⟩
  cases g;rw[srtN_length,h20];exact⟨rfl,rfl⟩
 have h2t:20*t<=xs.length:=by
  rcases hi with g|⟨g,h20⟩
  ·cases g;omega
  cases g;omega
 refine zk (hEL1 _ _ _ (hX0 _ _ (sg [1,2,4] rfl ?_)));intro K hK;iterate 4 (refine Zo Zl ?_)
 rw[<-hl.1];refine Zc1 (insertion_spec ys (20*t) ys.length (by omega) (by omega) (by omega) (hl.1 ▸ hless)) (id) ?_;rw[hl.1,hl.2];refine Zk hK ?_;clear hK K;refine z8 fun Q2 hN2 hX2 hR2 hE2=> ?_;refine zl (σ:=Unit) (fun _=>True) (fun _=>0) (fun _=>[(1,.int .i64 xs.length),(2,.ptr 2 0 0 0),(4,.int .i64 20)]) (fun _=>⟨3,[(2,lsRow xs.length),(1,rO 62 3 xs.length (nds (z4w xs))),(0,boxN xs.length)]⟩) () trivial (ρ:=id) (have xE:=@srtN_length;Zgx id) ?_;rintro⟨⟩ hj QL2 hL2 hRL2 hEL2;refine z6 (Zrs [1,2,4,26] ?_);refine Zcm ?_ ?_
 ·intro h26
  exfalso;replace h26:=Znb h26;omega
 intro h26;refine zk (hEL2 _ _ _ (hX2 _ _ (za (hQn _ _ ?_))));exact Zoc (⟨2,[(1,rO 62 3 xs.length (nds (z4w xs)))]⟩)
def info_desc {P:Go.Program}{t:Go.TypeId}{d:Go.TypeDesc}(h:(P.info? t).map (·.desc)=some d):∃i,P.info? t=some i/\i.desc=d:=by
 cases hi:P.info? t with
 |none=>rw[hi] at h;cases h
 |some i=>rw[hi] at h;exact⟨i,rfl,by simpa using h⟩
def info_ptr {P:Go.Program}{t:Go.TypeId}(h:(P.info? t).map (fun i=>(i.hasPointers,i.bytes==8))=some (true,false)):∃i,P.info? t=some i/\∀n,2<=n->Go.Lib.swapperK n i 25=9:=by
 cases hi:P.info? t with
 |none=>rw[hi] at h;cases h
 |some i=>
  rw[hi] at h;simp only[jj,Qx,jn] at h;refine⟨i,rfl,fun n hn=> ?_⟩;have h1:(n==0)=false:=by simp;omega
  have h2:(n==1)=false:=by simp;omega
  simp[Go.Lib.swapperK,h1,h2,h.1,h.2]
def nodesValueOf (n:Nat)(g:Bool):zj prog 155 [.ifc 23 (.slc g 0 0 0 n)] ⟨1,[]⟩ (fun s H1=>s= .agg [.raw (Go.typeHandle prog 23),.ptr 1 0 0 0,.int .u64 151]/\H1=⟨2,[(1,rV 23 1 1 (fun _=>[.slc g 0 0 0 n]))]⟩):=by
 obtain⟨i,hi,hd⟩:=info_desc (P:=prog) (t:=23) (d:= .slice 62) (by kernel_rfl);exact valueOf_spec (fun av w=>Jk func155 (by kernel_rfl) (by kernel_rfl) (by kernel_rfl) (e:=fun av=>Extern.ReflectliteValue.unpack (av.getD 0 (.tuple #[]))) (by kernel_rfl) av w) 23 62 i hi hd g 0 n
def nodesLen (n:Nat)(g:Bool):zj prog 156 [.agg [.raw (Go.typeHandle prog 23),.ptr 1 0 0 0,.int .u64 151]] ⟨2,[(1,uQ (.row ⟨false,true,23,1,1,fun _=>[.slc g 0 0 0 n]⟩))]⟩ (fun s H1=>s= .int .i64 n/\H1=⟨2,[]⟩):=by
 obtain⟨i,hi,hd⟩:=info_desc (P:=prog) (t:=23) (d:= .slice 62) (by kernel_rfl);exact valueLen_spec (fun av w=>Jk func156 (by kernel_rfl) (by kernel_rfl) (by kernel_rfl) (e:=Extern.ReflectliteValue.method (Extern.ReflectliteValue.valueError "reflectlite.Value.Len" 0) Extern.ReflectliteValue.len) (by kernel_rfl) av w) 23 62 i hi hd (by kernel_rfl) g 0 n
def nodesSwapper (n:Nat)(g:Bool)(hn:2<=n):zj prog 157 [.ifc 23 (.slc g 0 0 0 n)] ⟨1,[]⟩ (fun s H1=>s= .fn 186 [.slc g 0 0 0 n,.raw (Go.typeHandle prog 62)]/\H1=⟨1,[]⟩):=by
 obtain⟨i,hi,hd⟩:=info_desc (P:=prog) (t:=23) (d:= .slice 62) (by kernel_rfl);obtain⟨ie,hie,hk⟩:=info_ptr (P:=prog) (t:=62) (by kernel_rfl);have h:=swapper_spec (P:=prog) (f:=157) (fun av w=>Jk func157 (by kernel_rfl) (by kernel_rfl) (by kernel_rfl) (e:=Extern.ReflectliteSwapper.swapper "internal/reflectlite" (Extern.ReflectliteValue.valueError "Swapper")) (by kernel_rfl) av w) 23 62 i ie hi hd hie 25 (fun w=>by kernel_rfl) g 0 n 186 (by rw[hk n hn];kernel_rfl)
 rw[hk n hn] at h;exact h
end
end Go.Proofs
namespace Go.Sk
open Go.RowKit
variable {X:Cx} {Q:Exit->Fr->AH->Prop} {fr:Fr} {H:AH} {l:List Code}
def Cs.blockG {id:Nat}{c c1:Code}(h:∀Q':Exit->Fr->AH->Prop,(∀fr H,Cs X (c1::l) Q fr H->Q' .normal fr H)->(∀fr H,Cs X (c1::l) Q fr H->Q' (.exit id) fr H)->(∀fr H,Q .ret fr H->Q' .ret fr H)->(∀i fr H,i≠id->Q (.exit i) fr H->Q' (.exit i) fr H)->
  (∀fr H F G ρ,z4h X ρ fr H F G->Q' .normal F G->Q' .normal fr H)->Cs X [c] Q' fr H):Cs X (.block id c::c1::l) Q fr H:=by
 refine Cw.block (Cs.one (h _ (fun _ _ h=>h) (fun _ _ h=> ?_) (fun _ _ h=>h) (fun i _ _ hi h=> ?_) (fun fr H F G ρ hg hk=>Cs.give (l:=l) (c:=c1) ρ hg hk)))
 ·simp only[inBlk,↓reduceIte];exact h
 ·simp only[inBlk,qc hi];exact h
def Cs.regTreeN {id:Nat}{ops:List Oper}(keep:List Nat)(p:Plan)(A W U:List (List Nat))(hQ:∀fr H F G ρ,z4h X ρ fr H F G->Q .normal F G->Q .normal fr H)(hm:X.P.follows .mixedOrders=true)
  (hd:dstOk X.n ops=true) (hlen:p.len=ops.length) (hns:Region.noSelect ops.toArray=true) (hA:afterOk ops.toArray A=true) (hE:effOkT ops.toArray A W U=true) (hWn:W.all (fun l=>anyW l||l.all fun i=>decide (i<H.nxt))=true)
  (hs:z5t ops.toArray p (Array.replicate ops.length false) false=true)
  (h:∀K:Fr->AH->Prop,(∀fr H,Cs X [] Q fr H->K fr H)->(∀fr H F G ρ,z4h X ρ fr H F G->K F G->K fr H)->runT X.P X.wrap X.m0 W U ops.toArray p [] fr H (fun fr H=>K (prune keep fr) H)):Cs X [.region id ops.toArray true] Q fr H:=by
 have h1:=h (fun fr H=>Q .normal fr H) (fun _ _ h=>h) hQ
 have h2:Cw X (.region id ops.toArray true) (fun e fr H=>match e with| .normal=>Q .normal (prune keep fr) H|e=>Q e fr H) fr H:=fun β a w hF hS=>by
  refine JU hm (wpAny_of_G (S:=SW w.drew β H W) (isq:=z5j ops.toArray) _ _ _ _ ?_)
  have:=runT_ok (X:=X) (ops:=ops.toArray) (Q:=lift X (fun e fr H=>match e with| .normal=>Q .normal (prune keep fr) H|e=>Q e fr H)) (fun _ _ h=>h) (fun _ _ _ h=>h) hns hA hE (w1:=w.drew) (β1:=β) (H1:=H) (fun j hany id hid=>by
   rcases Qo j W.length with hj|hj
   ·rw[List.getD,qJ hj] at hid hany;have h3:=qu.1 hWn _ (qK hj);simp only[J5] at hid hany;rw[hany,jK] at h3;simpa using qu.1 h3 id hid
   ·rw[List.getD,qP hj] at hid
    cases hid) (by simpa using hd) p (Array.replicate ops.length false) false (N:=[]) (a:=a) hs (fun j oj _ hl=>by
    exfalso
    rcases Qo j ops.length with h'|h'
    ·simp[h'] at hl
    ·simp[h'] at hl) ⟨hS.drew,fun _=>⟨rfl,rfl,rfl⟩,Env.agree.refl _ _,qd _,Sub.refl _,qd _,fun _ h=>by cases h⟩ hF h1
  rw[hlen] at this;simpa using this
 refine Cw.conv h2 ?_;intro e a w hh
 cases e with
 |normal=>exact At.prune (K:=fun fr H=>Q .normal fr H) hh
 |_=>exact hh
end Go.Sk
namespace Go.Sk
open Go.RowKit Go.Proofs
def Zrt {X:Cx}{Q:Exit->Fr->AH->Prop}{fr:Fr}{H:AH}{l:List Code}{id:Nat}{ops:List Oper}{c:Code}(keep:List Nat)(p:Plan)(W U:List (List Nat))(h:∀K:Fr->AH->Prop,(∀fr H,Cs X (c::l) Q fr H->K fr H)->(∀fr H F G ρ,z4h X ρ fr H F G->K F G->K fr H)->runT X.P X.wrap X.m0 W U ops.toArray p [] fr H (fun fr H=>K (prune keep fr) H))(hm:X.P.follows .mixedOrders=true:=by exact Tryz.mo)(hd:dstOk X.n ops=true:=by exact rfl)(hlen:p.len=ops.length:=by exact rfl)(hns:Region.noSelect ops.toArray=true:=by kernel_rfl)(hA:afterOk ops.toArray (aftC ops)=true:=by kernel_rfl)(hE:effOkT ops.toArray (aftC ops) W U=true:=by kernel_rfl)(hWn:W.all (fun l=>anyW l||l.all fun i=>decide (i<H.nxt))=true:=by exact rfl)(hs:z5t ops.toArray p (Array.replicate ops.length false) false=true:=by kernel_rfl):Cs X (.region id ops.toArray true::c::l) Q fr H:=
 Cs.regTree keep p (aftC ops) W U hm hd hlen hns hA hE hWn hs h
def Zrn {X:Cx}{Q:Exit->Fr->AH->Prop}{fr:Fr}{H:AH}{id:Nat}{ops:List Oper}(keep:List Nat)(p:Plan)(W U:List (List Nat))(hQ:∀fr H F G ρ,z4h X ρ fr H F G->Q .normal F G->Q .normal fr H)(h:∀K:Fr->AH->Prop,(∀fr H,Cs X ([]) Q fr H->K fr H)->(∀fr H F G ρ,z4h X ρ fr H F G->K F G->K fr H)->runT X.P X.wrap X.m0 W U ops.toArray p [] fr H (fun fr H=>K (prune keep fr) H))(hm:X.P.follows .mixedOrders=true:=by exact Tryz.mo)(hd:dstOk X.n ops=true:=by exact rfl)(hlen:p.len=ops.length:=by exact rfl)(hns:Region.noSelect ops.toArray=true:=by kernel_rfl)(hA:afterOk ops.toArray (aftC ops)=true:=by kernel_rfl)(hE:effOkT ops.toArray (aftC ops) W U=true:=by kernel_rfl)(hWn:W.all (fun l=>anyW l||l.all fun i=>decide (i<H.nxt))=true:=by exact rfl)(hs:z5t ops.toArray p (Array.replicate ops.length false) false=true:=by kernel_rfl):Cs X [.region id ops.toArray true] Q fr H:=
 Cs.regTreeN keep p (aftC ops) W U hQ hm hd hlen hns hA hE hWn hs h
def ZT {P:Program}{wr:Bool}{m0:Nat}{W U:List (List Nat)}{ops:List Oper}{N:List Nat}{i:Nat}{p:Plan}{fr:Fr}{H:AH}{K:Fr->AH->Prop}{o:Oper}(w1 w2 N1:List Nat)(hi:ops[i]? =some o:=by exact rfl)(hw1:wOf W i H N=w1:=by exact rfl)(hw2:U.getD i []=w2:=by exact rfl)(hN1:newN ops.toArray i H N=N1:=by exact rfl)(h:stp P wr m0 true w1 w2 ops.toArray o fr H (fun fr' H'=>runT P wr m0 W U ops.toArray p N1 fr' H' K)):runT P wr m0 W U ops.toArray (.op i p) N fr H K:=runT_op o w1 w2 N1 hi hw1 hw2 hN1 h
end Go.Sk
namespace Go.Proofs
open Tryz
open Go.Sk
section
def z3w:=aj @nds.eq_1 @Nd.sv.eq_1
def RosLm.exE:=aj7 @zd @zg @zi z58 @zn @boxN.eq_1 z3w
def RosLm.gxE:=aj3 @boxN.eq_1 ec16 z3w
open RosLm (gxE exE)
open D0 (oxE sdE)
def less_spec (n:Nat)(hn:n<=1000000):LessOk n:=by
 intro ys hy i j hi hj;refine Zf false 35 [.tmp 5] func118 ntmps118 results118 fun w0 own0 β0 Q hQ hQn=> ?_;refine Zrs [0,1,2] (z6 ?_);refine Zrt [6,7] (.op 0 (.op 1 (.op 2 (.op 3 (.op 4 (.op 5 (.op 6 (.op 7 (.two 8 9 (.op 9 (.op 10 (.op 11 .done))) (.op 8 (.op 10 (.op 11 .done)))))))))))) [] [] ?_;intro K hK hG
 have hk1:K [(6,.ptr 2 0 0 0),(7,.ptr 3 0 0 0)] ⟨4,[(2,rV 62 3 1 (fun _=>[.int .i64 (nd ys i).id,.str (nd ys i).key,.int .u32 (nd ys i).word])),(3,rV 62 3 1 (fun _=>[.int .i64 (nd ys j).id,.str (nd ys j).key,.int .u32 (nd ys j).word]))]⟩:=by
  refine hK _ _ ?_;clear hG hK K;refine Zrs [5] (zb (hQ _ _ ?_));exact Zoc ⟨2,[]⟩
 iterate 8 (refine Zo (ZT [] [] []) ?_)
 refine z2e ?_ ?_
 ·skip
  refine Zo (ZT [] [] [2]) ?_;refine Zo (ZT [2] [] [3,2]) ?_;refine Zo (ZT [3,2] [] [3,2]) ?_;refine Zo (ZT [3,2] [] [3,2]) ?_;refine z14 ?_;refine Zpr ?_;exact hG _ _ _ _ id (Zg id) hk1
 skip
 refine Zo (ZT [] [] [2]) ?_;refine Zo (ZT [2] [] [3,2]) ?_;refine Zo (ZT [3,2] [] [3,2]) ?_;refine Zo (ZT [3,2] [] [3,2]) ?_;refine z14 ?_;refine Zpr ?_;exact hG _ _ _ _ (fun k=>if k=2 then 3 else if k=3 then 2 else k) (Zg (fun k=>if k=2 then 3 else if k=3 then 2 else k)) hk1
end
section
def Tryz.tyRv:z1o prog 176=⟨true,.struct,3,24,[(0,some false,1),(1,some false,1),(2,some false,1)]⟩:=by kernel_rfl
def Tryz.szRv:z2m prog 176=3:=by kernel_rfl
def Tryz.zRv:z3d prog 176=some [.nilp,.nilp,.int .u64 0]:=by kernel_rfl
def z2i:z3d prog 23=some [.nils]:=by kernel_rfl
def Tryz.zLs:z3d prog 183=some [.nilfn,.nilfn]:=by kernel_rfl
def z11 (f g:Nat->List SV):app f 0 g=g:=by funext i;simp[app]
def Tryz.hCell:(Go.typeHandle prog 23).oneCell'=true:=by kernel_rfl
def ec18:=aj5 @Tryz.tyRv @Tryz.szRv @Tryz.zRv @Tryz.zLs @Tryz.hCell
def RosVm.exE:=aj9 ec12 @zd @zi z58 @zn @z2i ec18 ec14 (aj4 z3g @boxN.eq_1 @app_nds @z11)
def RosVm.gxE:=aj5 @z11 ec12 z3g @boxN.eq_1 ec16
def RosVm.axE:=aj9 ec12 @zd @zi z58 @zn @z2i ec18 ec14 (aj5 z3g @boxN.eq_1 @app_nds @z11 @z21)
open RosVm (gxE axE exE)
open D0 (sdE oxE)
def sliceStable_spec (xs:List Nd)(n:Nat)(hn:xs.length=n)(h2:2<=n)(hx:n<=20):
  zj prog 120 [.ifc 23 (.slc true 1 0 0 n),lessSv 0] ⟨2,[(0,boxN n),(1,rO 62 3 n (nds xs))]⟩
   (fun s H1=>s= .tup []/\H1=⟨2,[(1,rO 62 3 n (nds (z4w xs)))]⟩):=by
 refine Zf false 16 [] func120 ntmps120 results120 fun w0 own0 β0 Q hQ hQn=> ?_;refine sg [0,1,4] rfl ?_;intro K hK;refine Zo Zl ?_;refine Zd Zl (nodesValueOf n true) (fun _=>1) ?_;refine Zkl hK ?_;clear hK K;refine sg [1,4,5] rfl ?_;intro K hK;refine Zo Zl ?_;refine Zd Zl (nodesSwapper n true h2) (fun _=>1) ?_;refine Zkl hK ?_;clear hK K;refine z3v [] rfl ?_;intro K hK;iterate 4 (refine Zo Zl ?_)
 refine Zd Zl (nodesLen n true) (fun k=>if k=0 then 1 else 2) ?_;refine Zd Zl (stable_spec xs n hn hx (less_spec n (by omega))) (id) ?_;refine Zk hK ?_;clear hK K;refine za (hQn _ _ ?_);exact Zoc (⟨2,[(1,rO 62 3 n (nds (z4w xs)))]⟩)
def sliceIsSorted_spec (xs:List Nd)(n:Nat)(hn:xs.length=n)(hx:n<=1000000):
  zj prog 119 [.ifc 23 (.slc true 1 0 0 n),lessSv 0] ⟨2,[(0,boxN n),(1,rI 62 3 n (nds xs))]⟩
   (fun s H1=> ∃b,s= .bool b/\(b=true->Srt 0 n (nd xs))/\(b=false->2<=n)/\H1=⟨2,[]⟩):=by
 refine Zf false 23 [.tmp 4] func119 ntmps119 results119 fun w0 own0 β0 Q hQ hQn=> ?_;refine Zrs [0,1] ?_;refine sg [1,5] rfl ?_;intro K hK;refine Zo Zl ?_;refine Zd Zl (nodesValueOf n true) (fun _=>1) ?_;refine Zkl hK ?_;clear hK K;refine sg [1,6] rfl ?_;intro K hK;refine Zo Zl ?_;refine Zd Zl (nodesLen n true) (fun k=>if k=0 then 1 else 2) ?_;refine Zkl hK ?_;clear hK K;refine z6 (Zrs [1,7] ?_);refine z8 fun Q0 hN0 hX0 hR0 hE0=> ?_;refine zl (σ:=Nat) (fun σ=>σ<=n/\∀j,σ<=j->0<j->j<n->¬Lt (nd xs j) (nd xs (j-1))) (fun σ=>σ) (fun σ=>[(1,.fn 118 [.ptr 0 0 0 0]),(7,.int .i64 ((σ:Int)-1))]) (fun σ=>⟨2,[(0,boxN n),(1,rI 62 3 n (nds xs))]⟩) n ⟨qd _,fun j h1 h2 h3=>by omega⟩ (ρ:=id) (Zg id) ?_;rintro i hi QL1 hL1 hRL1 hEL1;refine z6 (Zrs [1,7,15] ?_);refine Zcn ?_ ?_
 ·intro h15;obtain⟨hi1,hi2⟩:=hi;refine z7 (z6 ?_);refine z8 fun Q1 hN1 hX1 hR1 hE1=> ?_;refine sg [1,7,22] rfl ?_;intro K hK;iterate 4 (refine Zo Zl ?_)
  rw[show(i:Int)-1-1=((i-2:Nat):Int) from by omega,show(i:Int)-1=((i-1:Nat):Int) from by omega];refine Zad ?_;refine Zd Zl (less_spec n hx xs hn (i-1) (i-2) (by omega) (by omega)) (id) ?_;refine Zk hK ?_;clear hK K;refine Zcm ?_ ?_
  ·intro h22
   try replace h22:=Znb h22
   refine Zrs [4] (zb (hR1 _ _ (hRL1 _ _ (hR0 _ _ (hQ _ _ ?_)))));refine Zob ⟨2,[]⟩ ?_;exact⟨false,rfl,(fun h=>by cases h),(fun _=>by omega),by trivial⟩
  intro h22
  try replace h22:=Znb h22
  refine z7 (za (hN1 _ _ (Zrg [1,7] (za (hL1 _ _ ?_)))));have h22':¬Lt (nd xs (i-1)) (nd xs (i-2)):=by rw[<-ltN_iff,h22];exact qh
  refine⟨i-1,⟨⟨by omega,fun j h1 h2 h3=> ?_⟩,by omega⟩,id,(Zg id)⟩
  by_cases c:j=i-1
  ·subst c;exact h22'
  exact hi2 j (by omega) h2 h3
 intro h15;obtain⟨hi1,hi2⟩:=hi;refine zk (hEL1 _ _ _ (hX0 _ _ (Zrs [4] (zb (hQ _ _ ?_)))));refine Zob ⟨2,[]⟩ ?_;exact⟨true,rfl,fun _=>srt_of_next fun q h1 h2=>hi2 (q+1) (by omega) (by omega) h2,(fun h=>by cases h),by trivial⟩
def z5q (xs:List Nd)(n:Nat)(hn:xs.length=n)(hx:n<=1000000):
  zj prog 47 [.slc false 0 0 0 n] ⟨1,[(0,rI 62 3 n (nds xs))]⟩
   (fun s H1=>s= .slc true 1 0 0 n/\H1=⟨2,[(1,rO 62 3 n (nds xs))]⟩):=by
 refine Zf false 8 [.tmp 2] func47 ntmps47 results47 fun w0 own0 β0 Q hQ hQn=> ?_;refine Zrs [0] (z6 ?_);refine sg [0,4] rfl ?_;intro K hK;iterate 2 (refine Zo Zl ?_)
 intro b hb;refine Zad ?_;refine Zk hK ?_;clear hK K;refine Zcm ?_ ?_
 ·intro h4
  have hn0:n=0:=by
   rcases jY n with h|h
   ·exact h
   rw[hb h] at h4;cases h4
  subst hn0;refine Zrs [2] (z2f 2 62 3 (nds xs) rfl (zb (hQ _ _ ?_)));exact Zoc (⟨2,[(1,rO 62 3 0 (nds xs))]⟩)
 intro h4
 try replace h4:=Znb h4
 refine z7 (Zrs [2] (zb (hQ _ _ ?_)));exact Zos (fun k=>if k=1 then 2 else k) (.slc true 1 0 0 n) (⟨2,[(1,rO 62 3 n (nds xs))]⟩)
def sort_spec (xs:List Nd)(n:Nat)(hn:xs.length=n)(hx:n<=20):
  zj prog 76 [.slc false 0 0 0 n] ⟨1,[(0,rI 62 3 n (nds xs))]⟩
   (fun s H1=>s= .slc true 1 0 0 n/\H1=⟨2,[(1,rO 62 3 n (nds (z4w xs)))]⟩):=by
 refine Zf false 18 [.tmp 2] func76 ntmps76 results76 fun w0 own0 β0 Q hQ hQn=> ?_;refine Zrs [0] ?_;refine sg [3] rfl ?_;intro K hK;refine Zo Zl ?_;refine Zd Zl (z5q xs n hn (by omega)) (id) ?_;refine Zkl hK ?_;clear hK K;refine Zrs [3,4] (z6 ?_);refine sg [3,4,12] rfl ?_;intro K hK;iterate 4 (refine Zo Zl ?_)
 refine Zca (sliceIsSorted_spec xs n hn (by omega)) (fun k=>if k=0 then 2 else 1) ?_;rintro s0 H0 ⟨b,rfl,hb1,hb2,rfl⟩ s1 H1 hs1 hH1;obtain⟨hs2,hH2⟩:=Zaf hs1 hH1;clear hs1 hH1;subst hs2 hH2;refine Zad ?_;refine Zkl hK ?_;clear hK K;refine Zcm ?_ ?_
 ·intro h12
  try replace h12:=Znb h12
  refine z3v [3] rfl ?_;intro K hK;iterate 3 (refine Zo Zl ?_)
  refine Zd Zl (sliceStable_spec xs n hn (hb2 (by simpa using h12)) hx) (fun k=>if k=0 then 2 else 1) ?_;refine Zk hK ?_;clear hK K;refine Zrs [2] (zb (hQ _ _ ?_));exact Zoc (⟨2,[(1,rO 62 3 n (nds (z4w xs)))]⟩)
 intro h12
 try replace h12:=Znb h12
 refine z7 (Zrs [2] (zb (hQ _ _ ?_)));refine Zob (⟨2,[(1,rO 62 3 n (nds xs))]⟩) ?_;rw[srtN_same (by rw[hn];exact hb1 (by simpa using h12))]
end
section
def anyB (n:Nat)(p:Nat->Bool):Bool:=(List.range n).any p
def z3l {n i:Nat}{p:Nat->Bool}(h:i<n)(hp:p i=true):anyB n p=true:=Jc.2 ⟨i,by simpa using h,hp⟩
def z1q {n:Nat}{p:Nat->Bool}(h:∀i,i<n->p i=false):anyB n p=false:=by
 rw[anyB,Jv];intro i hi;rw[h i (by simpa using hi)];exact qh
def anyB_elim {n:Nat}{p:Nat->Bool}(h:anyB n p=false){i:Nat}(hi:i<n):p i=false:=by
 cases hp:p i with
 |false=>rfl
 |true=>rw[z3l hi hp] at h;cases h
def badN (x:Nd):Bool:=decide (x.id<1)||decide (2147483647<x.id)|| !okKey x.key|| !okWord x.word
def twinN (y x:Nd):Bool:=decide (y.id=x.id)||sEq y.key x.key
def twinN_comm (y x:Nd):twinN y x=twinN x y:=by
 simp only[twinN,z5l,eq_comm]
def z1t (xs:List Nd):Int:=
 if 64<xs.length then 3
 else if anyB xs.length (fun i=>badN (nd xs i)) then 1
 else if anyB xs.length (fun i=>anyB i fun k=>twinN (nd xs k) (nd xs i)) then 5
 else 0
def idxF (p:Nat->Bool):Nat->Nat->Int
 |0,_=> -1
 |k+1,i=>if p i then i else idxF p k (i+1)
def idxB (n:Nat)(p:Nat->Bool):Int:=idxF p n 0
def idxF_none {p:Nat->Bool}:∀(k i:Nat),(∀q,i<=q->q<i+k->p q=false)->idxF p k i= -1
 |0,_,_=>rfl
 |k+1,i,h=>by rw[idxF,h i (qd _) (by omega)];exact idxF_none k (i+1) fun q h1 h2=>h q (by omega) (by omega)
def idxF_at {p:Nat->Bool}{j:Nat}(hj:p j=true):∀(k i:Nat),i<=j->j<i+k->(∀q,i<=q->q<j->p q=false)->idxF p k i=j
 |0,i,h1,h2,_=>by omega
 |k+1,i,h1,h2,h=>by
  rw[idxF]
  by_cases c:i=j
  ·subst c;rw[hj];rfl
  rw[h i (qd _) (by omega)];exact idxF_at hj k (i+1) (by omega) (by omega) fun q g1 g2=>h q (by omega) g2
def z64 {n:Nat}{p:Nat->Bool}(h:∀q,q<n->p q=false):idxB n p= -1:=idxF_none n 0 fun q _ h2=>h q (by omega)
def idxB_at {n j:Nat}{p:Nat->Bool}(hj:p j=true)(hn:j<n)(h:∀q,q<j->p q=false):idxB n p=j:=idxF_at hj n 0 (by omega) (by omega) fun q _ h2=>h q h2
def z3j (n:Nat)(p:Nat->Bool):(idxB n p= -1/\∀q,q<n->p q=false)\/∃j:Nat,idxB n p=j/\j<n/\p j=true/\∀q,q<j->p q=false:=by
 by_cases h:∃j,j<n/\p j=true
 ·obtain⟨j,hj,hp⟩:=h
  have:∃j,j<n/\p j=true/\∀q,q<j->p q=false:=by
   induction j using Nat.strongRecOn with
   |_ j ih=>
    by_cases h2:∃q,q<j/\p q=true
    ·obtain⟨q,hq,hpq⟩:=h2;exact ih q hq (by omega) hpq
    exact⟨j,hj,hp,fun q hq=>by
     cases hpq:p q with
     |false=>rfl
     |true=>exact absurd ⟨q,hq,hpq⟩ h2⟩
  obtain⟨j,h1,h2,h3⟩:=this;exact .inr ⟨j,idxB_at h2 h1 h3,h1,h2,h3⟩
 have h':∀q,q<n->p q=false:=fun q hq=>by
  cases hpq:p q with
  |false=>rfl
  |true=>exact absurd ⟨q,hq,hpq⟩ h
 exact .inl ⟨z64 h',h'⟩
def idxB_any (n:Nat)(p:Nat->Bool):decide (0<=idxB n p)=anyB n p:=by
 rcases z3j n p with⟨h,h1⟩|⟨j,h,h1,h2,_⟩
 ·rw[h,z1q h1];rfl
 rw[h,z3l h1 h2];simp
inductive Cap where
 |node (x:Nd)
 |num (n:Int)
noncomputable def Cap.ty:Cap->Go.TypeId
 |.node _=>62
 |.num _=>3
def Cap.sz:Cap->Nat
 |.node _=>3
 |.num _=>1
def Cap.sv:Cap->List SV
 |.node x=>x.sv
 |.num n=>[.int .i64 n]
noncomputable def Cap.row (c:Cap):Nat×(Nat->Sk.Obj):=uQ (.row ⟨false,true,c.ty,c.sz,1,fun _=>c.sv⟩)
def capsv_ren (ρ:Nat->Nat)(c:Cap):SV.renL ρ c.sv=c.sv:=by cases c<;>simp[Cap.sv,Nd.sv,SV.renL,SV.ren]
def capsv_lt (m:Nat)(c:Cap):SV.ltL m c.sv:=by cases c<;>simp[Cap.sv,Nd.sv,SV.ltL,SV.lt]
def TestOk (f:Go.FuncId)(c:Cap)(p:Nd->Bool):Prop:=∀x:Nd,zj prog f [.agg x.sv,.ptr 0 0 0 0] ⟨1,[(0,c.row)]⟩ (fun s H1=>s= .bool (p x)/\H1=⟨1,[]⟩)
def ec19:=aj7 @Cap.row.eq_1 @Cap.sv.eq_1 @Cap.sv.eq_2 @Cap.ty.eq_1 @Cap.ty.eq_2 @Cap.sz.eq_1 @Cap.sz.eq_2
def RosWm.exE:=aj9 @zd @zf @zg @zm @zi z58 @zn z3g (aj z3w ec19)
def RosWm.gxE:=aj6 z3g ec16 z3w @capsv_ren @capsv_lt ec19
def RosWm.axE:=aj9 @zd @zf @zg @zm @zi z58 @zn z3g (aj3 z3w ec19 @z21)
open RosWm (gxE axE exE)
open D0 (oxE sdE)
def checkTest (x:Nd):TestOk 87 (.node x) (fun y=>twinN y x):=by
 intro y;refine Zf false 16 [.tmp 3] func87 ntmps87 results87 fun w0 own0 β0 Q hQ hQn=> ?_;refine Zrs [1,2] ?_;refine Zrs [3] (zb (hQ _ _ ?_));refine Zob ⟨1,[]⟩ ?_;exact⟨rfl,by trivial⟩
def findTest (n:Int):TestOk 78 (.num n) (fun y=>decide (y.id=n)):=by
 intro y;refine Zf false 8 [.tmp 3] func78 ntmps78 results78 fun w0 own0 β0 Q hQ hQn=> ?_;refine Zrs [1,2] ?_;refine Zrs [3] (zb (hQ _ _ ?_));refine Zob ⟨1,[]⟩ ?_;exact⟨rfl,by trivial⟩
def indexFunc_spec (f:Go.FuncId)(c:Cap)(p:Nd->Bool)(hp:TestOk f c p)(xs:List Nd)(n m:Nat)(hn:m<=n)(hx:n<=1000000):
  zj prog 77 [.slc false 0 0 0 m,.fn f [.ptr 1 0 0 0]] ⟨2,[(0,rI 62 3 n (nds xs)),(1,c.row)]⟩
   (fun s H1=>s= .int .i64 (idxB m fun i=>p (nd xs i))/\H1=⟨2,[]⟩):=by
 refine Zf false 19 [.tmp 4] func77 ntmps77 results77 fun w0 own0 β0 Q hQ hQn=> ?_;refine Zrs [0,1] (z6 ?_);refine Zrs [0,1,7,8] ?_;refine z8 fun Q0 hN0 hX0 hR0 hE0=> ?_;refine zl (σ:=Nat) (fun i=>i<=m/\∀q,q<i->p (nd xs q)=false) (fun i=>m-i) (fun i=>[(0,.slc false 0 0 0 m),(1,.fn f [.ptr 1 0 0 0]),(7,.int .i64 m),(8,.int .i64 i)]) (fun _=>⟨2,[(0,rI 62 3 n (nds xs)),(1,c.row)]⟩) 0 ⟨ql _,fun q h=>by omega⟩ (ρ:=id) (Zg id) ?_;rintro i hi QL1 hL1 hRL1 hEL1;refine Zrs [0,1,7,8,9] (z6 ?_);refine Zcn ?_ ?_
 ·intro h9;obtain⟨hi1,hi2⟩:=hi;refine z7 (z6 ?_);refine z8 fun Q1 hN1 hX1 hR1 hE1=> ?_;refine Zrs [0,1,5,7,8] ?_;refine sg [0,1,5,7,8,16] rfl ?_;intro K hK;iterate 5 (refine Zo Zl ?_)
  refine Zd Zl (hp (nd xs i)) (fun _=>1) ?_;refine Zk hK ?_;clear hK K;refine Zcm ?_ ?_
  ·intro h16
   try replace h16:=Znb h16
   refine Zrs [4] (zb (hR1 _ _ (hRL1 _ _ (hR0 _ _ (hQ _ _ ?_)))));refine Zob ⟨2,[]⟩ ?_;rw[idxB_at (p:=fun i=>p (nd xs i)) h16 (by omega) hi2];exact⟨rfl,by trivial⟩
  intro h16
  try replace h16:=Znb h16
  refine z7 (za (hN1 _ _ (Zrg [0,1,7,8] (za (hL1 _ _ ?_)))));rw[iS i];refine⟨i+1,⟨⟨by omega,fun q hq=> ?_⟩,by omega⟩,id,(Zg id)⟩
  by_cases e:q=i
  ·subst e;exact h16
  exact hi2 q (by omega)
 intro h9;obtain⟨hi1,hi2⟩:=hi;refine zk (hEL1 _ _ _ (hX0 _ _ (Zrs [4] (zb (hQ _ _ ?_)))));refine Zob ⟨2,[]⟩ ?_;rw[z64 (p:=fun i=>p (nd xs i)) fun q hq=>hi2 q (by omega)];exact⟨rfl,by trivial⟩
def containsFunc_spec (f:Go.FuncId)(c:Cap)(p:Nd->Bool)(hp:TestOk f c p)(xs:List Nd)(n m:Nat)(hn:m<=n)(hx:n<=1000000):
  zj prog 86 [.slc false 0 0 0 m,.fn f [.ptr 1 0 0 0]] ⟨2,[(0,rI 62 3 n (nds xs)),(1,c.row)]⟩
   (fun s H1=>s= .bool (anyB m fun i=>p (nd xs i))/\H1=⟨2,[]⟩):=by
 refine Zf false 9 [.tmp 4] func86 ntmps86 results86 fun w0 own0 β0 Q hQ hQn=> ?_;refine Zrs [0,1] ?_;refine sg [4] rfl ?_;intro K hK;iterate 2 (refine Zo Zl ?_)
 refine Zd Zl (indexFunc_spec f c p hp xs n m hn hx) (id) ?_;refine Zkl hK ?_;clear hK K;refine zb (hQ _ _ ?_);refine Zob ⟨2,[]⟩ ?_;rw[idxB_any];exact⟨rfl,by trivial⟩
def check_spec (xs:List Nd)(n:Nat)(hn:xs.length=n)(hx:n<=1000000):
  zj prog 46 [.slc false 0 0 0 n] ⟨1,[(0,rI 62 3 n (nds xs))]⟩
   (fun s H1=>s= .int .i64 (z1t xs)/\H1=⟨1,[]⟩):=by
 refine Zf false 50 [.tmp 2] func46 ntmps46 results46 fun w0 own0 β0 Q hQ hQn=> ?_;refine Zrs [0] (z6 ?_);refine Zrs [0,9] ?_;refine Zcn ?_ ?_
 ·intro h9;refine Zrs [2] (zb (hQ _ _ ?_));refine Zob ⟨1,[]⟩ ?_;rw[z1t,qe (by omega)];exact⟨rfl,by trivial⟩
 intro h9;refine z7 (z6 (Zrs [0,10,11,12] ?_));refine z8 fun Q0 hN0 hX0 hR0 hE0=> ?_;refine zl (σ:=Nat) (fun i=>i<=n/\∀q,q<i->badN (nd xs q)=false) (fun i=>n-i) (fun i=>[(0,.slc false 0 0 0 n),(10,.slc false 0 0 0 n),(11,.int .i64 n),(12,.int .i64 i)]) (fun _=>⟨1,[(0,rI 62 3 n (nds xs))]⟩) 0 ⟨ql _,fun q h=>by omega⟩ (ρ:=id) (Zg id) ?_;rintro i hi QL1 hL1 hRL1 hEL1;refine Zrs [0,10,11,12,13] (z6 ?_);refine Zcn ?_ ?_
 ·intro h13;obtain⟨hi1,hi2⟩:=hi;refine z7 (z6 ?_);refine z8 fun Q1 hN1 hX1 hR1 hE1=> ?_;refine Zrs [0,4,10,11,12] ?_;refine sg [0,10,11,12,35] rfl ?_;intro K hK
  have hk6:∀B:Bool,B=badN (nd xs i)->K [(0,.slc false 0 0 0 n),(10,.slc false 0 0 0 n),(11,.int .i64 n),(12,.int .i64 i),(35,.bool B)] ⟨2,[(1,rV 62 3 1 (fun _=>[.int .i64 (nd xs i).id,.str (nd xs i).key,.int .u32 (nd xs i).word])),(0,rI 62 3 n (nds xs))]⟩:=by
   intro B hB;subst hB;refine hK _ _ ?_;clear hK K;refine Zcm ?_ ?_
   ·intro h35;refine Zrs [2] (zb (hR1 _ _ (hRL1 _ _ (hR0 _ _ (hQ _ _ ?_)))));refine Zob ⟨1,[]⟩ ?_;rw[z1t,qc (by omega),qe (z3l (i:=i) (by omega) h35)];exact⟨rfl,by trivial⟩
   intro h35;refine z7 (za (hN1 _ _ (Zrg [0,10,11,12] (za (hL1 _ _ ?_)))));rw[iS i];refine⟨i+1,⟨⟨by omega,fun q hq=> ?_⟩,by omega⟩,id,(Zg id)⟩
   by_cases e:q=i
   ·subst e;exact h35
   exact hi2 q (by omega)
  iterate 11 (refine Zo Zl ?_)
  refine z13 ?_;refine z1b rfl rfl ?_;refine Zgr ?_;refine z15 ?_ ?_
  ·intro hg11
   first
    |(simp at hg11;done)
    |skip
     try replace hg11:=Znb hg11
     refine Zo id ?_;refine Zc1 (validKey_spec (nd xs i).key) (id) ?_;refine Zo Zl ?_
     try with_reducible refine qi (by simp_all;done) ?_
     refine Zad ?_;iterate 4 (refine Zo Zl ?_)
     refine z13 ?_;refine z1b rfl rfl ?_;refine Zgr ?_;refine z15 ?_ ?_
     ·intro hg17
      first
       |(simp at hg17;done)
       |skip
        try replace hg17:=Znb hg17
        refine Zo id ?_;refine Zc1 (validWord_spec (nd xs i).word) (id) ?_;refine Zo Zl ?_
        try with_reducible refine qi (by intro h;simp only[qt,qj,qk,qC,qn,qr,qm,qg,qD,qH,Qi,ne_eq,QB,QA,qO,qF] at h;rcases hg17 with(h1|h1)|h1<;>first|omega|(rw[h.2] at h1;cases h1)) ?_
        refine Zad ?_;refine Zo Zl ?_;refine zr ?_;refine Zpr ?_;refine hk6 _ ?_;simp_all[badN]
     intro hg17;refine⟨.bool false,?_⟩
     first
      |(simp at hg17;done)
      |skip
       try replace hg17:=Znb hg17
       refine Zo Zl ?_
       try with_reducible refine qi (by intro h;simp only[qt,qj,qk,qC,qn,qr,qm,qg,qD,qH,Qi,ne_eq,QB,QA,qO,qF] at h;rcases hg17 with(h1|h1)|h1<;>first|omega|(rw[h.2] at h1;cases h1)) ?_
       refine Zad ?_;refine Zo Zl ?_;refine zr ?_;refine Zpr ?_;refine hk6 _ ?_;simp_all[badN]
  intro hg11;refine⟨.bool false,?_⟩
  first
   |(simp at hg11;done)
   |skip
    try replace hg11:=Znb hg11
    refine Zo Zl ?_
    try with_reducible refine qi (by simp_all;done) ?_
    refine Zad ?_;iterate 4 (refine Zo Zl ?_)
    refine z13 ?_;refine z1b rfl rfl ?_;refine Zgr ?_;refine z15 ?_ ?_
    ·intro hg17
     first
      |(simp at hg17;done)
      |skip
       try replace hg17:=Znb hg17
       refine Zo id ?_;refine Zc1 (validWord_spec (nd xs i).word) (id) ?_;refine Zo Zl ?_
       try with_reducible refine qi (by intro h;simp only[qt,qj,qk,qC,qn,qr,qm,qg,qD,qH,Qi,ne_eq,QB,QA,qO,qF] at h;rcases hg17 with(h1|h1)|h1<;>first|omega|(rw[h.2] at h1;cases h1)) ?_
       refine Zad ?_;refine Zo Zl ?_;refine zr ?_;refine Zpr ?_;refine hk6 _ ?_;simp_all[badN]
    intro hg17;refine⟨.bool false,?_⟩
    first
     |(simp at hg17;done)
     |skip
      try replace hg17:=Znb hg17
      refine Zo Zl ?_
      try with_reducible refine qi (by intro h;simp only[qt,qj,qk,qC,qn,qr,qm,qg,qD,qH,Qi,ne_eq,QB,QA,qO,qF] at h;rcases hg17 with(h1|h1)|h1<;>first|omega|(rw[h.2] at h1;cases h1)) ?_
      refine Zad ?_;refine Zo Zl ?_;refine zr ?_;refine Zpr ?_;refine hk6 _ ?_;simp_all[badN]
 intro h13;obtain⟨hi1,hi2⟩:=hi;have hgood:anyB xs.length (fun i=>badN (nd xs i))=false:=z1q fun q hq=>hi2 q (by omega);refine zk (hEL1 _ _ _ (hX0 _ _ (z6 (Zrs [0,37,38,39] ?_))));refine z8 fun Q2 hN2 hX2 hR2 hE2=> ?_;refine zl (σ:=Nat) (fun i=>i<=n/\∀q,q<i->(anyB q fun k=>twinN (nd xs k) (nd xs q))=false) (fun i=>n-i) (fun i=>[(0,.slc false 0 0 0 n),(37,.slc false 0 0 0 n),(38,.int .i64 n),(39,.int .i64 i)]) (fun _=>⟨1,[(0,rI 62 3 n (nds xs))]⟩) 0 ⟨ql _,fun q h=>by omega⟩ (ρ:=id) (Zg id) ?_;rintro i hi QL2 hL2 hRL2 hEL2;refine Zrs [0,37,38,39,40] (z6 ?_);refine Zcn ?_ ?_
 ·intro h40;obtain⟨hi1,hi2⟩:=hi;refine z7 (z6 ?_);refine z8 fun Q3 hN3 hX3 hR3 hE3=> ?_;refine Zrs [0,5,6,37,38,39] ?_;refine sg [0,37,38,39,48] rfl ?_;intro K hK;iterate 4 (refine Zo Zl ?_)
  refine Zd Zl (containsFunc_spec 87 (.node (nd xs i)) _ (checkTest (nd xs i)) xs n i (by omega) hx) (id) ?_;refine Zk hK ?_;clear hK K;refine Zcm ?_ ?_
  ·intro h48
   try replace h48:=Znb h48
   refine Zrs [2] (zb (hR3 _ _ (hRL2 _ _ (hR2 _ _ (hQ _ _ ?_)))));refine Zob ⟨1,[]⟩ ?_;rw[z1t,qc (by omega),hgood,qc qh,qe (z3l (i:=i) (by omega) h48)];exact⟨rfl,by trivial⟩
  intro h48
  try replace h48:=Znb h48
  refine z7 (za (hN3 _ _ (Zrg [0,37,38,39] (za (hL2 _ _ ?_)))));rw[iS i];refine⟨i+1,⟨⟨by omega,fun q hq=> ?_⟩,by omega⟩,id,(Zg id)⟩
  by_cases e:q=i
  ·subst e;exact h48
  exact hi2 q (by omega)
 intro h40;obtain⟨hi1,hi2⟩:=hi;refine zk (hEL2 _ _ _ (hX2 _ _ (Zrs [2] (zb (hQ _ _ ?_)))));refine Zob ⟨1,[]⟩ ?_;rw[z1t,qc (by omega),hgood,qc qh,z1q fun q hq=>hi2 q (by omega),qc qh];exact⟨rfl,by trivial⟩
end
section
def RosXm.exE:=aj9 @zd @zf @zo @zg @zm @zi z58 @zn (aj3 z3g z3w ec19)
def RosXm.axE:=aj9 @zd @zf @zo @zg @zm @zi z58 @zn (aj4 z3g z3w ec19 @z21)
open RosWm (gxE)
open RosXm (axE exE)
open D0 (oxE sdE)
def refCheck_spec (xs:List Nd)(n:Nat)(hn:xs.length=n)(hx:n<=1000000):
  zj prog 83 [.slc false 0 0 0 n] ⟨1,[(0,rI 62 3 n (nds xs))]⟩
   (fun s H1=>s= .int .i64 (z1t xs)/\H1=⟨1,[]⟩):=by
 refine Zf false 82 [.tmp 2] func83 ntmps83 results83 fun w0 own0 β0 Q hQ hQn=> ?_;refine Zrs [0] (z6 ?_);refine Zrs [0,8] ?_;refine Zcn ?_ ?_
 ·intro h8;refine Zrs [2] (zb (hQ _ _ ?_));refine Zob ⟨1,[]⟩ ?_;rw[z1t,qe (by omega)];exact⟨rfl,by trivial⟩
 intro h8;refine z7 (z6 (Zrs [0,3] ?_));refine z8 fun Q0 hN0 hX0 hR0 hE0=> ?_;refine zl (σ:=Nat) (fun i=>i<=n/\∀q,q<i->badN (nd xs q)=false) (fun i=>n-i) (fun i=>[(0,.slc false 0 0 0 n),(3,.int .i64 i)]) (fun _=>⟨1,[(0,rI 62 3 n (nds xs))]⟩) 0 ⟨ql _,fun q h=>by omega⟩ (ρ:=id) (Zg id) ?_;rintro i hi QL1 hL1 hRL1 hEL1;refine z6 (Zrs [0,3,12] ?_);refine Zcn ?_ ?_
 ·intro h12;obtain⟨hi1,hi2⟩:=hi;refine z7 (z6 ?_);refine z8 fun Q1 hN1 hX1 hR1 hE1=> ?_;refine sg [0,3,46] rfl ?_;intro K hK
  have hk6:∀B:Bool,B=badN (nd xs i)->K [(0,.slc false 0 0 0 n),(3,.int .i64 i),(46,.bool B)] ⟨1,[(0,rI 62 3 n (nds xs))]⟩:=by
   intro B hB;subst hB;refine hK _ _ ?_;clear hK K;refine Zcm ?_ ?_
   ·intro h46;refine Zrs [2] (zb (hR1 _ _ (hRL1 _ _ (hR0 _ _ (hQ _ _ ?_)))));refine Zob ⟨1,[]⟩ ?_;rw[z1t,qc (by omega),qe (z3l (i:=i) (by omega) h46)];exact⟨rfl,by trivial⟩
   intro h46;refine z7 (za (hN1 _ _ (Zrg [0,3] (za (hL1 _ _ ?_)))));rw[iS i];refine⟨i+1,⟨⟨by omega,fun q hq=> ?_⟩,by omega⟩,id,(Zg id)⟩
   by_cases e:q=i
   ·subst e;exact h46
   exact hi2 q (by omega)
  iterate 20 (refine Zo Zl ?_)
  refine z13 ?_;refine z1b rfl rfl ?_;refine Zgr ?_;refine z15 ?_ ?_
  ·intro hg20
   first
    |(simp at hg20;done)
    |skip
     try replace hg20:=Znb hg20
     refine Zo id ?_;refine Zc1 (z5f (nd xs i).key) (id) ?_;refine Zo Zl ?_
     try with_reducible refine qi (by simp_all;done) ?_
     refine Zad ?_;iterate 7 (refine Zo Zl ?_)
     refine z13 ?_;refine z1b rfl rfl ?_;refine Zgr ?_;refine z15 ?_ ?_
     ·intro hg29
      first
       |(simp at hg29;done)
       |skip
        try replace hg29:=Znb hg29
        refine Zo id ?_;refine Zc1 (refValidWord_spec (nd xs i).word) (id) ?_;refine Zo Zl ?_
        try with_reducible refine qi (by intro h;simp only[qt,qj,qk,qC,qn,qr,qm,qg,qD,qH,Qi,ne_eq,QB,QA,qO,qF] at h;rcases hg29 with(h1|h1)|h1<;>first|omega|(rw[h.2] at h1;cases h1)) ?_
        refine Zad ?_;refine Zo Zl ?_;refine zr ?_;refine Zpr ?_;refine hk6 _ ?_;clear hk6;simp_all[badN]
     intro hg29;refine⟨.bool false,?_⟩
     first
      |(simp at hg29;done)
      |skip
       try replace hg29:=Znb hg29
       refine Zo Zl ?_
       try with_reducible refine qi (by intro h;simp only[qt,qj,qk,qC,qn,qr,qm,qg,qD,qH,Qi,ne_eq,QB,QA,qO,qF] at h;rcases hg29 with(h1|h1)|h1<;>first|omega|(rw[h.2] at h1;cases h1)) ?_
       refine Zad ?_;refine Zo Zl ?_;refine zr ?_;refine Zpr ?_;refine hk6 _ ?_;clear hk6;simp_all[badN]
  intro hg20;refine⟨.bool false,?_⟩
  first
   |(simp at hg20;done)
   |skip
    try replace hg20:=Znb hg20
    refine Zo Zl ?_
    try with_reducible refine qi (by simp_all;done) ?_
    refine Zad ?_;iterate 7 (refine Zo Zl ?_)
    refine z13 ?_;refine z1b rfl rfl ?_;refine Zgr ?_;refine z15 ?_ ?_
    ·intro hg29
     first
      |(simp at hg29;done)
      |skip
       try replace hg29:=Znb hg29
       refine Zo id ?_;refine Zc1 (refValidWord_spec (nd xs i).word) (id) ?_;refine Zo Zl ?_
       try with_reducible refine qi (by intro h;simp only[qt,qj,qk,qC,qn,qr,qm,qg,qD,qH,Qi,ne_eq,QB,QA,qO,qF] at h;rcases hg29 with(h1|h1)|h1<;>first|omega|(rw[h.2] at h1;cases h1)) ?_
       refine Zad ?_;refine Zo Zl ?_;refine zr ?_;refine Zpr ?_;refine hk6 _ ?_;clear hk6;simp_all[badN]
    intro hg29;refine⟨.bool false,?_⟩
    first
     |(simp at hg29;done)
     |skip
      try replace hg29:=Znb hg29
      refine Zo Zl ?_
      try with_reducible refine qi (by intro h;simp only[qt,qj,qk,qC,qn,qr,qm,qg,qD,qH,Qi,ne_eq,QB,QA,qO,qF] at h;rcases hg29 with(h1|h1)|h1<;>first|omega|(rw[h.2] at h1;cases h1)) ?_
      refine Zad ?_;refine Zo Zl ?_;refine zr ?_;refine Zpr ?_;refine hk6 _ ?_;clear hk6;simp_all[badN]
 intro h12;obtain⟨hi1,hi2⟩:=hi;have hgood:anyB xs.length (fun i=>badN (nd xs i))=false:=z1q fun q hq=>hi2 q (by omega);refine zk (hEL1 _ _ _ (hX0 _ _ (z6 (Zrs [0,4] ?_))));refine z8 fun Q2 hN2 hX2 hR2 hE2=> ?_;refine zl (σ:=Nat) (fun i=>i<=n/\∀q,q<i->(anyB q fun k=>twinN (nd xs k) (nd xs q))=false) (fun i=>n-i) (fun i=>[(0,.slc false 0 0 0 n),(4,.int .i64 i)]) (fun _=>⟨1,[(0,rI 62 3 n (nds xs))]⟩) 0 ⟨ql _,fun q h=>by omega⟩ (ρ:=id) (Zg id) ?_;rintro i hi QL2 hL2 hRL2 hEL2;refine z6 (Zrs [0,4,50] ?_);refine Zcn ?_ ?_
 ·intro h50;obtain⟨hi1,hi2⟩:=hi;refine z7 (z6 ?_);refine z8 fun Q3 hN3 hX3 hR3 hE3=> ?_;refine Zrs [0,4,5] ?_;refine z8 fun Q4 hN4 hX4 hR4 hE4=> ?_;refine zl (σ:=Nat) (fun k=>k<=i/\∀q,q<k->twinN (nd xs q) (nd xs i)=false) (fun k=>i-k) (fun k=>[(0,.slc false 0 0 0 n),(4,.int .i64 i),(5,.int .i64 k)]) (fun _=>⟨1,[(0,rI 62 3 n (nds xs))]⟩) 0 ⟨ql _,fun q h=>by omega⟩ (ρ:=id) (Zg id) ?_;rintro k hk QL3 hL3 hRL3 hEL3;refine z6 (Zrs [0,4,5,55] ?_);refine Zcn ?_ ?_
  ·intro h55;obtain⟨hk1,hk2⟩:=hk;refine z7 (z6 ?_);refine z8 fun Q5 hN5 hX5 hR5 hE5=> ?_;refine z6 (Zrq [0,4,5,81] [0,1,2,3,4,5,6,7,8,9,10,11,12,13,14,15,16,17,18,19,20,21,22,23] ?_);refine Zcm ?_ ?_
   ·intro h81;have hT:twinN (nd xs k) (nd xs i)=true:=by rw[twinN_comm];simpa [twinN] using h81
    refine Zrs [2] (zb (hR5 _ _ (hRL3 _ _ (hR4 _ _ (hR3 _ _ (hRL2 _ _ (hR2 _ _ (hQ _ _ ?_))))))));refine Zob ⟨1,[]⟩ ?_;rw[z1t,qc (by omega),hgood,qc qh,qe (z3l (i:=i) (by omega) (z3l (i:=k) (by omega) hT))];exact⟨rfl,by trivial⟩
   intro h81;have hT:twinN (nd xs k) (nd xs i)=false:=by rw[twinN_comm];simpa [twinN] using h81
   refine z7 (za (hN5 _ _ (Zrg [0,4,5] (za (hL3 _ _ ?_)))));rw[iS k];refine⟨k+1,⟨⟨by omega,fun q hq=> ?_⟩,by omega⟩,id,(Zg id)⟩
   by_cases e:q=k
   ·subst e;exact hT
   exact hk2 q (by omega)
  intro h55;obtain⟨hk1,hk2⟩:=hk;refine zk (hEL3 _ _ _ (hX4 _ _ (za (hN3 _ _ (Zrg [0,4] (za (hL2 _ _ ?_)))))));rw[iS i];refine⟨i+1,⟨⟨by omega,fun q hq=> ?_⟩,by omega⟩,id,(Zg id)⟩
  by_cases e:q=i
  ·subst e;exact z1q fun k hk=>hk2 k (by omega)
  exact hi2 q (by omega)
 intro h50;obtain⟨hi1,hi2⟩:=hi;refine zk (hEL2 _ _ _ (hX2 _ _ (Zrs [2] (zb (hQ _ _ ?_)))));refine Zob ⟨1,[]⟩ ?_;rw[z1t,qc (by omega),hgood,qc qh,z1q fun q hq=>hi2 q (by omega),qc qh];exact⟨rfl,by trivial⟩
end
section
def z10:z1o prog 35=⟨true,.int .i64,1,8,[]⟩:=by kernel_rfl
def zx:z2m prog 22=1:=by kernel_rfl
def app_ndsL (xs ys:List Nd):app (nds xs) xs.length (nds ys)=nds (xs++ys):=app_nds xs ys
def rowsOf_nd' (a:Int)(k:ByteArray)(w:Int):z3y 3 1 [SV.int .i64 a,SV.str k,SV.int .u32 w]=nds [⟨a,k,w⟩]:=rowsOf_nd a k w
def take_nd {xs:List Nd}{j:Nat}(h:j<xs.length):xs.take (j+1)=xs.take j++[nd xs j]:=by
 rw[z4z h,jp h]
def filter_step {xs:List Nd}{j:Nat}(h:j<xs.length)(p:Nd->Bool):(xs.take (j+1)).filter p=(xs.take j).filter p++(if p (nd xs j) then [nd xs j] else []):=by
 rw[take_nd h,jr]
 congr 1
 simp only[J2,List.filter_nil]
def findI (xs:List Nd)(v:Int):Int:=idxB xs.length fun i=>decide ((nd xs i).id=v)
def z3s (xs:List Nd)(v:Int):Nd:=if findI xs v<0 then noNd else nd xs (findI xs v).toNat
noncomputable def idsBox (m:Nat):Nat×(Nat->Sk.Obj):=uQ (.row ⟨false,true,22,1,1,fun _=>[.slc false 2 0 0 m]⟩)
def RosYm.exE:=aj9 @zd @zf @zo @zh @z10 @zg @zm @zi (aj9 z58 @zn z3g z3w ec19 @z1a.eq_1 @zu.eq_1 @ints.eq_1 @idsBox.eq_1)
def RosYm.gxE:=aj9 z3g ec16 z3w @capsv_ren @capsv_lt ec19 @z1a.eq_1 @zu.eq_1 (aj @ints.eq_1 @idsBox.eq_1)
def RosYm.axE:=aj9 @zd @zf @zo @zh @z10 @zg @zm @zi (aj9 z58 @zn z3g z3w ec19 @z1a.eq_1 @zu.eq_1 @idsBox.eq_1 (aj @z1p @z21))
def RosYm.oxE:= @zi
open RosYm (gxE axE oxE exE)
open D0 (sdE)
def find_spec (xs:List Nd)(v:Int)(n:Nat)(hn:xs.length=n)(hx:n<=1000000):
  zj prog 37 [.slc false 0 0 0 n,.int .i64 v] ⟨1,[(0,rI 62 3 n (nds xs))]⟩
   (fun s H1=>s= .tup [.agg (z3s xs v).sv,.bool (decide (0<=findI xs v))]/\H1=⟨1,[]⟩):=by
 subst hn;refine Zf false 17 [.cell 4 62,.tmp 5] func37 ntmps37 results37 fun w0 own0 β0 Q hQ hQn=> ?_;refine Zrs [0,3,4] ?_;refine sg [0,4,6] rfl ?_;intro K hK;iterate 2 (refine Zo Zl ?_)
 refine Zd Zl (indexFunc_spec 78 (.num v) _ (findTest v) xs xs.length xs.length (qd _) hx) (id) ?_;have hI:idxB xs.length (fun i=>decide ((nd xs i).id=v))=findI xs v:=rfl;rw[hI];refine Zkl hK ?_;clear hK K;refine z6 (Zrs [0,4,6,11] ?_);refine Zcn ?_ ?_
 ·intro h11;refine Zrs [4,5] (zb (hQ _ _ ?_));refine Zob ⟨1,[]⟩ ?_;rw[z3s,qe h11,qG (by omega)]
  first|trivial|exact⟨rfl,trivial⟩
 intro h11
 have hlt:findI xs v<xs.length:=by
  rcases z3j xs.length (fun i=>decide ((nd xs i).id=v)) with⟨h,_⟩|⟨j,h,h1,_⟩
  ·rw[findI,h];omega
  rw[findI,h];omega
 refine z7 (Zrs [4,5] (zb (hQ _ _ ?_)));refine Zob ⟨1,[]⟩ ?_;rw[z3s,qc (by omega),qB h11]
 first|trivial|exact⟨rfl,trivial⟩
def refFind_spec (xs:List Nd)(v:Int)(n:Nat)(hn:xs.length=n)(hx:n<=1000000):
  zj prog 51 [.slc false 0 0 0 n,.int .i64 v] ⟨1,[(0,rI 62 3 n (nds xs))]⟩
   (fun s H1=>s= .tup [.agg (z3s xs v).sv,.bool (decide (0<=findI xs v))]/\H1=⟨1,[]⟩):=by
 subst hn;refine Zf false 25 [.cell 4 62,.tmp 5] func51 ntmps51 results51 fun w0 own0 β0 Q hQ hQn=> ?_;refine Zrs [0,1,4] (z6 ?_);refine Zrs [0,1,4,6] ?_;refine z8 fun Q0 hN0 hX0 hR0 hE0=> ?_;refine zl (σ:=Nat) (fun i=>i<=xs.length/\∀q,q<i->decide ((nd xs q).id=v)=false) (fun i=>xs.length-i) (fun i=>[(0,.slc false 0 0 0 xs.length),(1,.int .i64 v),(4,.ptr 1 0 0 0),(6,.int .i64 i)]) (fun _=>⟨2,[(1,rV 62 3 1 (fun _=>noNd.sv)),(0,rI 62 3 xs.length (nds xs))]⟩) 0 ⟨ql _,fun q h=>by omega⟩ (ρ:=id) (have xE:=@noNd.eq_1;Zgx id) ?_;rintro i hi QL1 hL1 hRL1 hEL1;refine z6 (Zrs [0,1,4,6,10] ?_);refine Zcn ?_ ?_
 ·intro h10;obtain⟨hi1,hi2⟩:=hi;refine z7 (z6 ?_);refine z8 fun Q1 hN1 hX1 hR1 hE1=> ?_;refine Zrs [0,1,4,6,19] ?_;refine Zcm ?_ ?_
  ·intro h19
   try replace h19:=Znb h19
   refine Zrs [4,5] (zb (hR1 _ _ (hRL1 _ _ (hR0 _ _ (hQ _ _ ?_)))));refine Zob ⟨1,[]⟩ ?_;have hI:findI xs v=i:=idxB_at (p:=fun i=>decide ((nd xs i).id=v)) (by simpa using h19) (by omega) hi2;rw[z3s,qc (by omega),qB (by omega),hI]
   first|trivial|exact⟨rfl,trivial⟩
  intro h19
  try replace h19:=Znb h19
  refine z7 (za (hN1 _ _ (Zrg [0,1,4,6] (za (hL1 _ _ ?_)))));rw[iS i];refine⟨i+1,⟨⟨by omega,fun q hq=> ?_⟩,by omega⟩,id,(have xE:=@noNd.eq_1;Zgx id)⟩
  by_cases e:q=i
  ·subst e;simpa using h19
  exact hi2 q (by omega)
 intro h10;obtain⟨hi1,hi2⟩:=hi;refine zk (hEL1 _ _ _ (hX0 _ _ (Zrs [4,5] (zb (hQ _ _ ?_)))));refine Zob ⟨1,[]⟩ ?_;have hI:findI xs v= -1:=z64 fun q hq=>hi2 q (by omega);rw[z3s,qe (by omega),qG (by omega)];trivial
def refIs_spec (xs:List Nd)(n:Nat)(hn:xs.length=n)(hx:n<=1000000):
  zj prog 43 [.slc false 0 0 0 n] ⟨1,[(0,rI 62 3 n (nds xs))]⟩
   (fun s H1=>s= .bool (z1t xs==0)/\H1=⟨1,[]⟩):=by
 refine Zf false 6 [.tmp 2] func43 ntmps43 results43 fun w0 own0 β0 Q hQ hQn=> ?_;refine Zrs [0] ?_;refine sg [2] rfl ?_;intro K hK;refine Zo Zl ?_;refine Zd Zl (refCheck_spec xs n hn hx) (id) ?_;refine Zkl hK ?_;clear hK K;refine zb (hQ _ _ ?_);exact Zoc ⟨1,[]⟩
def hasI (ids:List Int)(v:Int):Bool:=anyB ids.length fun i=>decide (nth ids i=v)
def refHas_spec (ids:List Int)(v:Int)(m:Nat)(hm:ids.length=m)(hx:m<=1000000):
  zj prog 34 [.slc false 0 0 0 m,.int .i64 v] ⟨1,[(0,rI 3 1 m (ints ids))]⟩
   (fun s H1=>s= .bool (hasI ids v)/\H1=⟨1,[]⟩):=by
 refine Zf false 18 [.tmp 4] func34 ntmps34 results34 fun w0 own0 β0 Q hQ hQn=> ?_;refine Zrs [0,1] (z6 ?_);refine Zrs [0,1,5] ?_;refine z8 fun Q0 hN0 hX0 hR0 hE0=> ?_;refine zl (σ:=Nat) (fun i=>i<=m/\∀q,q<i->decide (nth ids q=v)=false) (fun i=>m-i) (fun i=>[(0,.slc false 0 0 0 m),(1,.int .i64 v),(5,.int .i64 i)]) (fun _=>⟨1,[(0,rI 3 1 m (ints ids))]⟩) 0 ⟨ql _,fun q h=>by omega⟩ (ρ:=id) (Zg id) ?_;rintro i hi QL1 hL1 hRL1 hEL1;refine z6 (Zrs [0,1,5,9] ?_);refine Zcn ?_ ?_
 ·intro h9;obtain⟨hi1,hi2⟩:=hi;refine z7 (z6 ?_);refine z8 fun Q1 hN1 hX1 hR1 hE1=> ?_;refine Zrs [0,1,5,17] ?_;refine Zcm ?_ ?_
  ·intro h17
   try replace h17:=Znb h17
   refine Zrs [4] (zb (hR1 _ _ (hRL1 _ _ (hR0 _ _ (hQ _ _ ?_)))));refine Zob ⟨1,[]⟩ ?_;rw[hasI,z3l (i:=i) (by omega) (by simpa using h17)]
   first|trivial|exact⟨rfl,trivial⟩
  intro h17
  try replace h17:=Znb h17
  refine z7 (za (hN1 _ _ (Zrg [0,1,5] (za (hL1 _ _ ?_)))));rw[iS i];refine⟨i+1,⟨⟨by omega,fun q hq=> ?_⟩,by omega⟩,id,(Zg id)⟩
  by_cases e:q=i
  ·subst e;simpa using h17
  exact hi2 q (by omega)
 intro h9;obtain⟨hi1,hi2⟩:=hi;refine zk (hEL1 _ _ _ (hX0 _ _ (Zrs [4] (zb (hQ _ _ ?_)))));refine Zob ⟨1,[]⟩ ?_;rw[hasI,z1q fun q hq=>hi2 q (by omega)]
 first|trivial|exact⟨rfl,trivial⟩
def index_spec (ids:List Int)(v:Int)(m:Nat)(hm:ids.length=m)(hx:m<=1000000):
  zj prog 121 [.slc false 0 0 0 m,.int .i64 v] ⟨1,[(0,rI 3 1 m (ints ids))]⟩
   (fun s H1=>s= .int .i64 (idxB m fun i=>decide (nth ids i=v))/\H1=⟨1,[]⟩):=by
 refine Zf false 19 [.tmp 4] func121 ntmps121 results121 fun w0 own0 β0 Q hQ hQn=> ?_;refine Zrs [0,1] (z6 ?_);refine Zrs [0,1,7,8] ?_;refine z8 fun Q0 hN0 hX0 hR0 hE0=> ?_;refine zl (σ:=Nat) (fun i=>i<=m/\∀q,q<i->decide (nth ids q=v)=false) (fun i=>m-i) (fun i=>[(0,.slc false 0 0 0 m),(1,.int .i64 v),(7,.int .i64 m),(8,.int .i64 i)]) (fun _=>⟨1,[(0,rI 3 1 m (ints ids))]⟩) 0 ⟨ql _,fun q h=>by omega⟩ (ρ:=id) (Zg id) ?_;rintro i hi QL1 hL1 hRL1 hEL1;refine Zrs [0,1,7,8,9] (z6 ?_);refine Zcn ?_ ?_
 ·intro h9;obtain⟨hi1,hi2⟩:=hi;refine z7 (z6 ?_);refine z8 fun Q1 hN1 hX1 hR1 hE1=> ?_;refine Zrs [0,1,5,7,8] ?_;refine Zrs [0,1,5,7,8,16] ?_;refine Zcm ?_ ?_
  ·intro h16;have hT:decide (nth ids i=v)=true:=by simp at h16 ⊢;exact h16.symm
   refine Zrs [4] (zb (hR1 _ _ (hRL1 _ _ (hR0 _ _ (hQ _ _ ?_)))));refine Zob ⟨1,[]⟩ ?_;rw[idxB_at (j:=i) hT (by omega) hi2]
   first|trivial|exact⟨rfl,trivial⟩
  intro h16;have hT:decide (nth ids i=v)=false:=by simp at h16 ⊢;exact fun e=>h16 e.symm
  refine z7 (za (hN1 _ _ (Zrg [0,1,7,8] (za (hL1 _ _ ?_)))));rw[iS i];refine⟨i+1,⟨⟨by omega,fun q hq=> ?_⟩,by omega⟩,id,(Zg id)⟩
  by_cases e:q=i
  ·subst e;exact hT
  exact hi2 q (by omega)
 intro h9;obtain⟨hi1,hi2⟩:=hi;refine zk (hEL1 _ _ _ (hX0 _ _ (Zrs [4] (zb (hQ _ _ ?_)))));refine Zob ⟨1,[]⟩ ?_;rw[z64 fun q hq=>hi2 q (by omega)]
 first|trivial|exact⟨rfl,trivial⟩
end
end Go.Proofs
