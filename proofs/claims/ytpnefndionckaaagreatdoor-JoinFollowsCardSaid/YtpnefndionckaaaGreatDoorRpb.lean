/-
  Walks and plain facts, joined: part 2 of 18.
  Conditions: those that each statement names.
-/
import Derived.Test.YtpnefndionckaaaGreatDoorRpa
import Derived.MapKept
import Derived.Laws.StructEq
import Derived.WideKeyRuns
import Derived.Lib.AppendZerosOnto
import Derived.Deep.LoopGhost
set_option linter.unusedSimpArgs false
set_option linter.unusedVariables false
set_option linter.defProp false
set_option maxRecDepth 4000
namespace Go.Sk
open Go.RowKit
def z3a (f:Nat->List SV):Nat->List SV
 |0=>[]
 |n+1=>z3a f n++f n
def z4q {f:Nat->List SV}{sz:Nat}:∀{n:Nat},(∀i,i<n->(f i).length=sz)->(z3a f n).length=n*sz
 |0,_=>by simp[z3a]
 |n+1,h=>by
  rw[z3a,qX,z4q fun i hi=>h i (by omega),h n (by omega),qV];omega
def flatS_get {f:Nat->List SV}{sz:Nat}:∀{n:Nat},(∀i,i<n->(f i).length=sz)->∀i,i<n->∀j,j<sz->(f i)[j]? =(z3a f n)[i*sz+j]?
 |0,_,_,hi,_,_=>by omega
 |n+1,h,i,hi,j,hj=>by
  have hl:=z4q (f:=f) (sz:=sz) (n:=n) fun i hi=>h i (by omega);rw[z3a,Q8,hl]
  by_cases hin:i<n
  ·have:i*sz+j<n*sz:=by
    have h2:(i+1)*sz<=n*sz:=qT _ hin;rw[qV] at h2;omega
   rw[qe this];exact flatS_get (fun i hi=>h i (by omega)) i hin j hj
  ·have:i=n:=by omega
   subst this;rw[qc (by omega)]
   congr 1;omega
def flatS_mem {f:Nat->List SV}{sz:Nat}:∀{n:Nat},(∀i,i<n->(f i).length=sz)->∀(q:Nat) (s:SV),(z3a f n)[q]? =some s->∃i j,i<n/\j<sz/\q=i*sz+j/\(f i)[j]? =some s
 |0,_,q,s,hq=>by simp[z3a] at hq
 |n+1,h,q,s,hq=>by
  have hl:=z4q (f:=f) (sz:=sz) (n:=n) fun i hi=>h i (by omega);rw[z3a,Q8,hl] at hq
  split at hq
  ·obtain⟨i,j,h1,h2,h3,h4⟩:=flatS_mem (fun i hi=>h i (by omega)) q s hq;exact⟨i,j,by omega,h2,h3,h4⟩
  ·have hj:q-n*sz<sz:=by
    have:=(qZ.1 hq).1;rw[h n (by omega)] at this;exact this
   exact⟨n,q-n*sz,by omega,hj,by omega,hq⟩
def run_append_zero {P:Program}(w:World)(t ty e:TypeId)(i:TypeInfo)(ht:P.underlying t=some (.slice e))(hi:P.info? e=some i)(a:Option Addr)(n c c':Nat)(hn:n<=c):
  (Builtin.append_ #[t,t] ty #[.slice a n c,.slice none 0 c']).run P w= .ok (.slice a n c) w:=by
 cases a with
 |none=>simp[Builtin.append_,qE ht,sizeOf,typeInfo,hi,Builtin.lenOf,Builtin.firstCells,hn]
 |some a=>simp[Builtin.append_,qE ht,sizeOf,typeInfo,hi,Builtin.lenOf,Builtin.firstCells,hn,storeCells]
def OwnsRow (w:World)(e:TypeId)(sz:Nat)(v:Value)(n:Nat)(xs:List Value):Prop:=
 xs.length=n*sz/\((v= .slice none 0 0/\n=0)\/∃g cap bc cur,v= .slice (some ⟨g,0,none⟩) n cap/\w.heap[g]? =some (.cells cur e (0,0))/\n<=cap/\cap<=bc/\bc<=maxLen/\cur.size=bc*sz/\cur.toList.take (n*sz)=xs)
def OwnsRow.cells {w:World}{e:TypeId}{sz:Nat}{n:Nat}{xs:List Value}{g cap bc:Nat}{cur:Array Value}(hg:w.heap[g]? =some (.cells cur e (0,0)))(htake:cur.toList.take (n*sz)=xs)(j:Nat)(u:Value)(h:xs[j]? =some u):w.cell? ((⟨g,0,none⟩:Addr).add j)=some u:=by
 rw[z48,QE];rw[<-htake,Qb] at h
 split at h
 ·simp only[World.cell?,hg];simpa using h
 ·cases h
structure Appended (w w':World) (e:TypeId) (sz:Nat) (v v':Value) (n m:Nat) (cells:List Value):Prop where
 os:w'.os=w.os
 tape:w'.tape=w.tape
 output:w'.output=w.output
 size:w.heap.size<=w'.heap.size
 block:∀k,k<w.heap.size->some k≠v.ownBlock->w'.heap[k]? =w.heap[k]?
 drawn:w.drawn<=w'.drawn
 out:(v= .slice none 0 0/\m=0/\v'= .slice none 0 0)\/
  ∃g cap bc cur,v'= .slice (some ⟨g,0,none⟩) (n+m) cap/\w'.heap[g]? =some (.cells cur e (0,0))/\n+m<=cap/\cap<=bc/\bc<=maxLen/\cur.size=bc*sz/\cur.toList.take ((n+m)*sz)=cells/\(some g=v.ownBlock\/w.heap.size<=g)
def run_append_at {P : Program} (w : World) (t ty e : TypeId) (i : TypeInfo) (z : Value) (ht : P.underlying t = some (.slice e)) (hi : P.info? e = some i) (hz : i.zero = some z)
    (hzs:z.cells.size=i.size) (v:Value) (n:Nat) (xs:List Value) (hown:OwnsRow w e i.size v n xs)
    (a:Option Addr) (m c:Nat) (news:List Value) (hl:news.length=m*i.size) (hnews:∀b,a=some b->∀(j:Nat) (u:Value),news[j]? =some u->w.cell? (b.add j)=some u) (hna:a=none->m=0) (h1:∀u∈news,u.oneCell'=true)
    (h63:n+m<=maxLen) (hbytes:(n+m)*i.bytes<=140737488355328):
    ∃v' w',(Builtin.append_ #[t,t] ty #[v,.slice a m c]).run P w= .ok v' w'/\Appended w w' e i.size v v' n m (xs++news):=by
  have hsmall:n+m<=9223372036854775807:=by simp only[maxLen] at h63;omega
  have hlen:(xs++news).length=(n+m)*i.size:=by rw[qX,hown.1,hl,qV]
  cases a with
  |none=>
    have hm:=hna rfl;subst hm;have hn0:news=[]:=je (by simpa using hl);subst hn0;rcases hown.2 with⟨rfl,rfl⟩|⟨g,cap,bc,cur,rfl,hg,hnc,hcb,hcm,hcs,htake⟩
    · exact⟨_,w,run_append_zero w t ty e i ht hi none 0 0 c (qd _),⟨rfl,rfl,rfl,qd _,fun _ _ _=>rfl,qd _,.inl ⟨rfl,rfl,rfl⟩⟩⟩
    · exact⟨_,w,run_append_zero w t ty e i ht hi _ n cap c hnc,⟨rfl,rfl,rfl,qd _,fun _ _ _=>rfl,qd _,.inr ⟨g,cap,bc,cur,rfl,hg,hnc,hcb,hcm,hcs,by simpa using htake,.inl rfl⟩⟩⟩
  |some ad=>
    have hnews':=hnews ad rfl
    have grown : ∀ (old : Nat), old < n + m -> ∀ (v : Value),
        Appended w (w.drew.alloc (.cells (xs.toArray++news.toArray++Builtin.zeroCells z.cells (grownCap w (n+m) old e-(n+m))) e)) e i.size v (.slice (some ⟨w.heap.size,0,none⟩) (n+m) (grownCap w (n+m) old e)) n m (xs++news):=by
      intro old ho v;have hge:=grownCap_ge w (n+m) old e;have hcm:grownCap w (n+m) old e<=maxLen:=grownCap_le_maxLen w (n+m) old e h63;refine⟨rfl,rfl,rfl,by simp,fun k hk _=>heap_alloc_old w.drew _ hk,QH _,.inr ⟨w.heap.size,_,_,_,rfl,jS w.drew _,hge,qd _,hcm,?_,?_,.inr (qd _)⟩⟩
      · simp only[JV,JX,size_zeroCells,hzs,hown.1,hl,<-qV]
        congr 1
        omega
      · simp only[Array.toList_append,QF];rw[<-QF,<-hlen];exact List.take_left
    rcases hown.2 with⟨rfl,rfl⟩|⟨g,cap,bc,cur,rfl,hg,hnc,hcb,hcm,hcs,htake⟩
    · have hx:xs=[]:=je (by simpa using hown.1);subst hx
      by_cases hm:m=0
      · subst hm;have hn0:news=[]:=je (by simpa using hl);subst hn0;refine⟨.slice none 0 0,w,?_,⟨rfl,rfl,rfl,qd _,fun _ _ _=>rfl,qd _,.inl ⟨rfl,rfl,rfl⟩⟩⟩;simp[Builtin.append_,qE ht,sizeOf,typeInfo,hi,Builtin.lenOf,Builtin.firstCells,loadCells,loadCellsFrom]
      · have hr:=run_append_nil (P:=P) w t ty e i z ht hi hz ad m c news hl hnews' (by omega) (by omega) (by have hb:=hbytes;simp only[QE] at hb;omega);have hgr:=grown 0 (by omega) (.slice none 0 0);simp only[QE,jI,Array.empty_append] at hgr;exact⟨_,_,hr,by simpa only[QE,jI] using hgr⟩
    · by_cases hroom:n+m<=cap
      · have hfit:n*i.size+news.length<=cur.size:=by rw[hl,hcs,<-qV];exact qT _ (qR hroom hcb)
        have hr:=run_append_room (P:=P) w t ty e i ht hi g n cap cur hg ad m c news hl hnews' h1 hroom hfit;refine⟨_,_,hr,⟨rfl,rfl,rfl,by simp,fun k _ hk=>JK w g k _ (fun e=>hk (by simp[Value.ownBlock,e])),qd _,.inr ⟨g,cap,bc,_,rfl,setRow_heap w g cur _ e _ hg,hroom,hcb,hcm,?_,?_,.inl rfl⟩⟩⟩
        · simp only[JX,qX,qN,QO,QT];omega
        · rw[htake,<-hlen];exact List.take_left
      · have holds:∀(j:Nat) (u:Value),xs[j]? =some u->w.cell? ((⟨g,0,none⟩:Addr).add j)=some u:=OwnsRow.cells (cap:=cap) (bc:=bc) hg htake;have hr:=run_append_grow (P:=P) w t ty e i z ht hi hz ⟨g,0,none⟩ n cap xs hown.1 holds ad m c news hl hnews' (by omega) (by omega) (growslice_fits (by omega) hbytes);exact⟨_,_,hr,grown cap (by omega) _⟩
def app (f:Nat->List SV)(n:Nat)(g:Nat->List SV):Nat->List SV:=fun i=>if i<n then f i else g (i-n)
def srcF (f:Nat->List SV)(o:Nat):Nat->List SV:=fun i=>f (o+i)
def srcF_zero (f:Nat->List SV):srcF f 0=f:=by funext i;simp[srcF]
def srcK (H:AH)(sz:Nat)(x:SV)(k:Nat->(Nat->List SV)->Prop):Prop:=
 match x with
 |.nils=>k 0 (fun _=>[])
 |.slc _ id kk o m=>
  match find H.os id with
  |some (c,F)=>
   match F kk with
   |.row r=>(kk<c/\o+m<=r.n/\r.sz=sz)/\k m (srcF r.f o)
   |_=>False
  |none=>False
 |_=>False
def appendK (P:Program)(m0:Nat)(dr:Bool)(W:List Nat)(H:AH)(t t':TypeId)(s x:SV)(k:SV->AH->Prop):Prop:=
 match(z1o P t).kd with
 |.slice e=>
  (t'=t/\(z1o P t).ok=true/\(z1o P e).ok=true/\z2m P e≠0/\(z3d P e).map List.length=some (z2m P e))/\
  srcK H (z2m P e) x fun m g=>
   match s with
   |.nils=>(m<=1073741824/\(z1o P e).bytes<=1024)/\k (.slc true H.nxt 0 0 m) ⟨H.nxt+1,(H.nxt,uQ (.row ⟨true,false,e,z2m P e,m,g⟩))::H.os⟩
   |.slc true id 0 0 n=>
    match find H.os id with
    |some (c,F)=>
     match F 0 with
     |.row r=>(r.own=true/\(dr=true->W.contains id=true)/\c=1/\m0<=id/\n<=r.n/\r.sz=z2m P e/\r.e=e/\n+m<=1073741824/\(z1o P e).bytes<=1024)/\
       k (.slc true H.nxt 0 0 (n+m)) ⟨H.nxt+1,(H.nxt,uQ (.row ⟨true,false,e,z2m P e,n+m,app r.f n g⟩))::dropO H.os id⟩
     |_=>False
    |none=>False
   |.slc true id (j+1) 0 n=>
    match find H.os id with
    |some (c,F)=>
     match F (j+1) with
     |.row r=>(r.own=true/\(dr=true->W.contains id=true)/\j+1<c/\m0<=id/\n<=r.n/\r.sz=z2m P e/\r.e=e/\n+m<=1073741824/\(z1o P e).bytes<=1024)/\
       k (.slc true H.nxt 0 0 (n+m)) ⟨H.nxt+1,(H.nxt,uQ (.row ⟨true,false,e,z2m P e,n+m,app r.f n g⟩))::setO H.os id (j+1) .gone⟩
     |_=>False
    |none=>False
   |_=>False
 |_=>False
def St.extBut {X:Cx}{β:Env}{H:AH}{w w':World}(h:St X β H w)(h1:w'.os=w.os)(h2:w'.tape=w.tape)(h3:w'.output=w.output)(h4:w.heap.size<=w'.heap.size)(h8:w.drawn<=w'.drawn){B:Nat->Prop}
  (h5:∀b,b<w.heap.size->¬B b->w'.heap[b]? =w.heap[b]?) (h6:∀b,B b->X.w0.heap.size<=b) (h7:∀id k o L,look H.os id k=some o->β id k=some L->¬B L.blk):St X β H w' where
 os:=h1.trans h.os
 tape:=h2.trans h.tape
 output:=h3.trans h.output
 size:=qR h.size h4
 fix:=h.fix
 holds id k o ho:=(h.holds id k o ho).mono h4 fun L hL hl=>h5 _ hl (h7 _ _ _ _ ho hL)
 sep:=h.sep
 old b hb hn:=(h5 b (Qc hb h.size) (fun hB=>by have:=h6 b hB;omega)).trans (h.old b hb hn)
 mine:=h.mine
 keep:=h.keep
 m0:=h.m0
 lt:=h.lt
 tabs:=h.tabs
 drawn:=qR h.drawn h8
def rowVals (w:World)(L:Loc)(o:Nat)(cnt:Nat):List Value:=(List.range cnt).map fun q=>(w.cell? ⟨L.blk,o+q,none⟩).getD undef
def row_vals {β:Env}{w:World}{r:Row}{L:Loc}(h:r.cellsOk β w L)(hsz:L.sz=r.sz){o m:Nat}(hom:o+m<=r.n):
  z2u β (z3a (fun i=>r.f (o+i)) m) (rowVals w L (L.off+o*r.sz) (m*r.sz))/\
  (∀(j:Nat) (u:Value),(rowVals w L (L.off+o*r.sz) (m*r.sz))[j]? =some u->w.cell? ⟨L.blk,L.off+o*r.sz+j,none⟩=some u)/\
  (∀s∈z3a (fun i=>r.f (o+i)) m,s.scalar=true):=by
 have hlen:∀i,i<m->((fun i=>r.f (o+i)) i).length=r.sz:=fun i hi=>(h (o+i) (by omega)).1;have hfl:=z4q hlen
 have key:∀(q:Nat) (s:SV),(z3a (fun i=>r.f (o+i)) m)[q]? =some s->s.scalar=true/\∃v,w.cell? ⟨L.blk,L.off+o*r.sz+q,none⟩=some v/\den β s v:=fun q s hq=>by
  obtain⟨i,j,hi,hj,rfl,hs⟩:=flatS_mem hlen q s hq;obtain⟨h1,v,h2,h3⟩:=(h (o+i) (by omega)).2 j s hs;refine⟨h1,v,?_,h3⟩;rw[hsz,qV] at h2;rw[<-h2];congr 2;omega
 refine⟨?_,fun j u hj=> ?_,fun s hs=> ?_⟩
 ·have:=denL_mk (β:=β) _ (fun q=>(w.cell? ⟨L.blk,L.off+o*r.sz+q,none⟩).getD undef) (fun q s hq=>by
   obtain⟨_,v,h2,h3⟩:=key q s hq
   rw[h2];exact h3)
  rw[hfl] at this;exact this
 ·unfold rowVals at hj;rw[qQ] at hj
  have hlt:j<m*r.sz:=by
   rcases Qo j (m*r.sz) with h'|h'
   ·exact h'
   ·rw[qP (by simpa using h')] at hj;cases hj
  rw[jk hlt] at hj
  cases hj
  obtain⟨_,v,h2,_⟩:=key j _ (qJ (by rw[hfl];exact hlt));simp[h2]
 ·obtain⟨q,hq⟩:=Qr hs;exact(key q s hq).1
def rowVals_length (w:World)(L:Loc)(o cnt:Nat):(rowVals w L o cnt).length=cnt:=by simp[rowVals]
def srcK_ok {X:Cx}{β:Env}{H:AH}{w:World}(hS:St X β H w){sz:Nat}{x:SV}{vx:Value}{k:Nat->(Nat->List SV)->Prop}(h:srcK H sz x k)(hx:den β x vx):
  ∃m g a c news,k m g/\vx= .slice a m c/\(a=none->m=0)/\news.length=m*sz/\(∀b,a=some b->∀(j:Nat) (u:Value),news[j]? =some u->w.cell? (b.add j)=some u)/\
   z2u β (z3a g m) news/\SV.ltL H.nxt (z3a g m)/\(∀s∈z3a g m,s.scalar=true)/\(∀i,i<m->(g i).length=sz):=by
 unfold srcK at h
 split at h
 ·simp only[den] at hx;subst hx;exact⟨0,_,none,0,[],h,rfl,fun _=>rfl,by simp,fun b hb=>(by cases hb),rfl,trivial,fun s hs=>(by cases hs),fun i hi=>by omega⟩
 ·rename_i g id kk o m
  split at h
  ·rename_i c F hf
   split at h
   ·rename_i r hr;obtain⟨⟨hk,hom,hsz⟩,h⟩:=h;have hl:=zy hf hk;rw[hr] at hl;have hkg:k m (fun i=>r.f (o+i)):=h;simp only[den] at hx;obtain⟨a0,c0,rfl,hmc⟩:=z3z hx
    by_cases hm:m=0
    ·subst hm;exact⟨0,_,a0,c0,[],hkg,rfl,fun _=>rfl,by simp,fun b hb j u hj=>(by simp at hj),rfl,trivial,fun s hs=>(by cases hs),fun i hi=>by omega⟩
    ·obtain⟨L,c1,hb,he⟩:=z4v hx (by omega);simp only[j4] at he;obtain⟨rfl,_,rfl⟩:=he;rcases hS.holds _ _ _ hl with⟨_,hq⟩|⟨L',hq,h1,h2,h3,_⟩
     ·rw[hb] at hq;cases hq
     ·rw[hb] at hq
      cases hq
      obtain⟨q1,q2,q3⟩:=row_vals h3 h1 hom;subst hsz;refine⟨m,_,_,c0,_,hkg,rfl,fun hn=>(by cases hn),rowVals_length _ _ _ _,fun b hb' j u hj=> ?_,q1,?_,q3,fun i hi=>(h3 _ (by omega)).1⟩
      ·cases hb'
       rw[z48,h1];exact q2 j u hj
      ·refine SV.ltL_of_get fun q s hq=> ?_;obtain⟨i,j,hi,hj,rfl,hs⟩:=flatS_mem (fun i hi=>(h3 (o+i) (by omega)).1) q s hq;exact(hS.lt _ _ _ hl).2 (o+i) j s (by show o+i<r.n;omega) hs
   ·exact h.elim
  ·exact h.elim
 ·exact h.elim
def flatS_app (f g:Nat->List SV)(n:Nat):∀m,z3a (app f n g) (n+m)=z3a f n++z3a g m
 |0=>by
  have:∀n',n'<=n->z3a (app f n g) n'=z3a f n':=by
   intro n'
   induction n' with
   |zero=>intro _;rfl
   |succ q ih=>intro hq;simp only[z3a];rw[ih (by omega)];congr 1;unfold app;rw[qe (by omega)]
  simp[this n (qd _),z3a]
 |m+1=>by
  rw[<-jm];simp only[z3a];rw[flatS_app f g n m,QF]
  congr 2
  unfold app;rw[qc (by omega)]
  congr 1;omega
def appendK_ok {X : Cx} {β : Env} {H : AH} {w : World} (hS : St X β H w) {dr : Bool} {W : List Nat} {t t' ty : TypeId} {s x : SV} {vs vx : Value} {k : SV -> AH -> Prop} (h : appendK X.P X.m0 dr W H t t' s x k) (hs : den β s vs) (hx : den β x vx) :
    ∃v' w',(Builtin.append_ #[t,t'] ty #[vs,vx]).run X.P w= .ok v' w'/\Aft X β H w k v' w'/\(dr=true->Kp w (inW β H W) w'):=by
  unfold appendK at h
  split at h
  · rename_i e hkd;obtain⟨⟨rfl,hok,hoke,hsz,hzl⟩,h⟩:=h;obtain⟨m,g,a,c,news,h2,rfl,hna,hnl,hnews,hnd,hnlt,hnsc,hgl⟩:=srcK_ok hS h hx;clear h;have h:=h2;clear h2;obtain⟨inf,d,e1,e2,e3⟩:=z1k hok;rw[e3] at hkd;have:=z2z hkd;subst this;obtain⟨ei,de,e4,e5,e6⟩:=z1k hoke;have hei2:ei.size=z2m X.P e:=by unfold z2m;simp[e4]
    have hbyt:(z1o X.P e).bytes=ei.bytes:=by rw[e6]
    have hzz:∃zv,ei.zero=some zv/\zv.cells.size=ei.size:=by
      unfold z3d at hzl;simp only[e4,jC] at hzl
      cases hz0:ei.zero with
      |none=>simp[hz0] at hzl
      |some zv=>simp[hz0] at hzl;exact⟨zv,rfl,by omega⟩
    obtain⟨zv,hzv,hzs⟩:=hzz
    have hone:∀u∈news,u.oneCell'=true:=fun u hu=>by
      obtain⟨q,hq⟩:=Qr hu;have hlen:=z2k hnd;obtain⟨s',hs'⟩:∃s',(z3a g m)[q]? =some s':=⟨_,qJ (by have:=(qZ.1 hq).1;omega)⟩;obtain⟨u',hu',hd'⟩:=z4k hnd q s' hs';rw[hq] at hu';cases hu'
      exact den_scalar (hnsc s' (qW hs')) hd'
    --what follows,once the old row is known
    have main : ∀ (H1 : AH) (n : Nat) (f : Nat -> List SV) (xs : List Value), H1.nxt = H.nxt -> (∀ id k o, look H1.os id k = some o -> look H.os id k = some o) -> St X β H1 w -> OwnsRow w e ei.size vs n xs -> z2u β (z3a f n) xs -> SV.ltL H.nxt (z3a f n) -> (∀ s ∈ z3a f n, s.scalar = true) -> (∀ i, i < n -> (f i).length = z2m X.P e) ->
        (∀b,vs.ownBlock=some b->dr=true->inW β H W b)->(∀b,vs.ownBlock=some b->X.w0.heap.size<=b/\∀id k o L,look H1.os id k=some o->β id k=some L->L.blk≠b)->n+m<=1073741824->(z1o X.P e).bytes<=1024->
        k (.slc true H.nxt 0 0 (n+m)) ⟨H.nxt+1,(H.nxt,uQ (.row ⟨true,false,e,z2m X.P e,n+m,app f n g⟩))::H1.os⟩->
        ∃v' w',(Builtin.append_ #[t',t'] ty #[vs,.slice a m c]).run X.P w= .ok v' w'/\Aft X β H w k v' w'/\(dr=true->Kp w (inW β H W) w'):=by
      intro H1 n f xs hnxt hsub hS1 hown hfd hflt hfsc hfl hWb hblk hbig hby hk;rw[hbyt] at hby
      have hbytes:(n+m)*ei.bytes<=140737488355328:=by
        have:(n+m)*ei.bytes<=1073741824*1024:=j9 hbig hby;omega
      obtain⟨v',w',hr,hA⟩:=run_append_at (P:=X.P) w t' ty e ei zv e2 e4 hzv hzs vs n xs hown a m c news (by rw[hei2];exact hnl) hnews hna hone (by unfold maxLen;omega) hbytes;refine⟨v',w',hr,?_,fun hdr=>⟨hA.size,fun b hb hnb=>hA.block b hb fun he=>hnb (hWb b he.symm hdr)⟩⟩;have hS2:St X β H1 w':=hS1.extBut (B:=fun b=>vs.ownBlock=some b) hA.os hA.tape hA.output hA.size hA.drawn (fun b hb hnb=>hA.block b hb (fun he=>hnb he.symm)) (fun b hb=>(hblk b hb).1) (fun id k o L hl hb hc=>(hblk _ hc).2 id k o L hl hb rfl)
      have hlenA:∀i,i<n+m->(app f n g i).length=z2m X.P e:=fun i hi=>by
        unfold app
        split
        · exact hfl i (by assumption)
        · exact hgl _ (by omega)
      have hcs:(z3a (app f n g) (n+m)).length=(n+m)*z2m X.P e:=z4q hlenA;rcases hA.out with⟨rfl,rfl,rfl⟩|⟨gb,cap,bc,cur,rfl,hheap,hcap,hcb,hmax,hcsz,htake,hgb⟩
      · --nothing is appended to nil
        have hn0:n=0:=by
          rcases hown.2 with⟨_,h⟩|⟨_,_,_,_,h,_⟩
          · exact h
          · cases h
        subst hn0;have hag:=Env.agree_set β H.nxt (fun _=>none);refine⟨β.set H.nxt (fun _=>none),_,_,hk,?_,Qp _,?_,hag,QH _,sub_cons _ _ _ hsub⟩
        · simp only[den,z56,q9];refine .inl ⟨by unfold Env.set;rw[qe rfl],?_⟩;simp
        · rw[<-hnxt];refine St.new' hS2 (fun k L _ he=>by cases he) (fun k k' _ _ h h' _ _ _=>by omega) (fun k _=> .inl ⟨rfl,rfl⟩) (fun k _=>fun i j s hi _=> ?_);have hi':i<0+0:=hi;omega
      · have hag:=Env.agree_set β H.nxt (fun _=>some ⟨gb,0,z2m X.P e,bc⟩);refine⟨β.set H.nxt (fun _=>some ⟨gb,0,z2m X.P e,bc⟩),_,_,hk,?_,Qp _,?_,hag,QH _,sub_cons _ _ _ hsub⟩
        · simp only[den,z56,q9];exact .inr ⟨_,cap,by unfold Env.set;rw[qe rfl],trivial,rfl,hcap,hcb,rfl⟩
        · have hall:SV.ltL H.nxt (z3a (app f n g) (n+m)):=by
            rw[flatS_app]
            exact SV.ltL_of_get fun q s hq=>by
              rcases Qa.1 (qW hq) with hm|hm
              · obtain⟨q',hq'⟩:=Qr hm;exact SV.ltL_get hflt q' s hq'
              · obtain⟨q',hq'⟩:=Qr hm;exact SV.ltL_get hnlt q' s hq'
          have hdd:z2u β (z3a (app f n g) (n+m)) (xs++news):=by rw[flatS_app];exact denL_append hfd hnd
          have hscA:∀s∈z3a (app f n g) (n+m),s.scalar=true:=fun s hs=>by
            rw[flatS_app] at hs;rcases Qa.1 hs with hm|hm
            · exact hfsc s hm
            · exact hnsc s hm
          have hfA:∀i,i<n+m->(app f n g i).length=z2m X.P e/\∀j,j<z2m X.P e->(app f n g i)[j]? =(z3a (app f n g) (n+m))[i*z2m X.P e+j]? :=fun i hi=>⟨hlenA i hi,flatS_get hlenA i hi⟩;rw[<-hnxt];refine St.new' hS2 (fun k L _ he=> ?_) (fun k k' _ _ h h' _ _ _=>by omega) (fun k _=> ?_) (fun k _=>row_lt (SV.ltL_mono (by omega) _ hall) hfA)
          · cases he
            rcases hgb with hgb|hgb
            · exact hblk _ hgb.symm
            · refine⟨qR hS1.size hgb,fun id k o L hl hb he=> ?_⟩;have:=hS1.blk_lt hl hb;simp only at he;omega
          · rw[hnxt];refine row_holds (b:=gb) (cap:=bc) hheap (by rw[<-hei2];exact hcsz) (qR hcap hcb) hmax (fun j hj=> ?_) (z4y hag _ _ hall hdd) hscA hfA;have:j<((n+m)*ei.size):=by rw[hei2];exact hj
            rw[<-htake,Qb,qe this];simp
    --an own row,at any place of a family
    have fin : ∀ (id kk n : Nat) (r : Row) (os1 : List (Nat × Nat × (Nat -> Obj))), look H.os id kk = some (.row r) -> r.own = true -> (dr = true -> W.contains id = true) -> X.m0 <= id -> n <= r.n -> r.sz = z2m X.P e -> r.e = e -> n + m <= 1073741824 -> (z1o X.P e).bytes <= 1024 ->
        (∀id' k' o,look os1 id' k'=some o->look H.os id' k'=some o/\¬(id'=id/\k'=kk))->St X β ⟨H.nxt,os1⟩ w->z56 β true id kk 0 n vs->
        k (.slc true H.nxt 0 0 (n+m)) ⟨H.nxt+1,(H.nxt,uQ (.row ⟨true,false,e,z2m X.P e,n+m,app r.f n g⟩))::os1⟩->
        ∃v' w',(Builtin.append_ #[t',t'] ty #[vs,.slice a m c]).run X.P w= .ok v' w'/\Aft X β H w k v' w'/\(dr=true->Kp w (inW β H W) w'):=by
      intro id kk n r os1 hl hown hWid hm0 hrn hrsz hre hbig hby hos1 hSd hs hk;simp only[z56,q9] at hs;have hdsub:∀id' k o,look os1 id' k=some o->look H.os id' k=some o:=fun id' k o h=>(hos1 _ _ _ h).1;rcases hS.holds _ _ _ hl with⟨hn0,hq⟩|⟨L,hq,h1,h2,h3,h4⟩
      · --nil,in fact
        rcases hs with⟨_,rfl,_,rfl⟩|⟨L,_,hb,_⟩
        · refine main ⟨H.nxt,os1⟩ 0 r.f [] rfl hdsub hSd ⟨by simp,.inl ⟨rfl,rfl⟩⟩ rfl trivial (fun s hs=>by cases hs) (fun i hi=>by omega) (fun b hb=>by simp[Value.ownBlock] at hb) (fun b hb=>by simp[Value.ownBlock] at hb) hbig hby hk
        · rw[hq] at hb;cases hb
      · rcases hs with⟨hb,_⟩|⟨L',cs,hb,_,hoff,hncap,hcL,rfl⟩
        · rw[hq] at hb;cases hb
        · rw[hq] at hb
          cases hb
          obtain⟨_,hrc,hmax,cur,hcur,hcsz⟩:=h4 hown;obtain⟨q1,q2,q3⟩:=row_vals h3 h1 (o:=0) (m:=n) (by omega);have hfun:(fun i=>r.f (0+i))=r.f:=by funext i;rw[QE]
          rw[hfun] at q1 q3;refine main ⟨H.nxt,os1⟩ n r.f _ rfl hdsub hSd ⟨?_,.inr ⟨L.blk,cs,L.cap,cur,rfl,by rw[<-hre];exact hcur,hncap,hcL,hmax,by rw[hei2,<-hrsz];exact hcsz,?_⟩⟩ q1 ?_ q3 (fun i hi=>by rw[<-hrsz];exact(h3 i (by omega)).1) (fun b hb hdr=> ?_) (fun b hb=> ?_) hbig hby hk
          · rw[rowVals_length,hrsz,hei2]
          · --the first cells of the block are the row's values
            apply j2;intro q;rw[Qb,hei2,<-hrsz]
            by_cases hq2:q<n*r.sz
            · rw[qe hq2];have hlt:q<(rowVals w L (L.off+0*r.sz) (n*r.sz)).length:=by rw[rowVals_length];exact hq2
              have:=q2 q _ (qJ hlt);rw[qJ hlt,<-this];simp[World.cell?,hcur,hoff]
            · rw[qc hq2,qP (by rw[rowVals_length];omega)]
          · refine SV.ltL_of_get fun q s hq=> ?_;obtain⟨i,j,hi,hj,rfl,hs⟩:=flatS_mem (sz:=r.sz) (fun i hi=>(h3 i (by omega)).1) q s hq;exact(hS.lt _ _ _ hl).2 i j s (by show i<r.n;omega) hs
          · simp only[Value.ownBlock,Qx] at hb;subst hb;exact⟨id,kk,_,L,by simpa using hWid hdr,hl,hown,hq,rfl⟩
          · simp only[Value.ownBlock,Qx] at hb;subst hb;refine⟨?_,fun id' k' o L' hl2 hb2 he=> ?_⟩
            · rcases hS.mine _ _ _ _ hl hown hq with⟨h,_⟩|⟨_,h⟩
              · omega
              · exact h
            · obtain⟨hl3,hne⟩:=hos1 _ _ _ hl2;have:=hS.sep _ _ _ _ _ _ _ _ hl hl3 hown hq hb2 he.symm;exact hne ⟨this.1.symm,this.2.symm⟩
    split at h
    · --nil
      obtain⟨⟨hbig,hby⟩,hk⟩:=h;simp only[den] at hs;subst hs;refine main H 0 (fun _=>[]) [] rfl (fun _ _ _ h=>h) hS ⟨by simp,.inl ⟨rfl,rfl⟩⟩ rfl trivial (fun s hs=>by cases hs) (fun i hi=>by omega) (fun b hb=>by simp[Value.ownBlock] at hb) (fun b hb=>by simp[Value.ownBlock] at hb) (by omega) hby ?_;rw[QE];have:app (fun _=>[]) 0 g=g:=by funext i;simp[app]
      rw[this];exact hk
    · rename_i id n
      split at h
      · rename_i cc F hf
        split at h
        · rename_i r hr;obtain⟨⟨hown,hWid,hc1,hm0,hrn,hrsz,hre,hbig,hby⟩,hk⟩:=h;subst hc1;have hl:=zy hf (show(0:Nat)<1 by omega);rw[hr] at hl
          exact fin id 0 n r _ hl hown hWid hm0 hrn hrsz hre hbig hby (fun id' k o h=>by
            rw[look_dropO] at h
            split at h
            · cases h
            · rename_i hne;exact⟨h,fun hh=>hne hh.1⟩) (hS.drop id hm0) hs hk
        · exact h.elim
      · exact h.elim
    · rename_i id j n
      split at h
      · rename_i cc F hf
        split at h
        · rename_i r hr;obtain⟨⟨hown,hWid,hc1,hm0,hrn,hrsz,hre,hbig,hby⟩,hk⟩:=h;have hl:=zy hf hc1;rw[hr] at hl
          exact fin id (j+1) n r _ hl hown hWid hm0 hrn hrsz hre hbig hby (fun id' k o h=>by
            rw[z3c _ _ _ _ _ hl] at h
            split at h
            · cases h
            · rename_i hne;exact⟨h,hne⟩) (hS.lose id (j+1) hm0 hl) hs hk
        · exact h.elim
      · exact h.elim
    · exact h.elim
  · exact h.elim
def z69 (f:Nat->List SV)(o m:Nat)(g:Nat->List SV):Nat->List SV:=fun q=>if o<=q/\q<o+m then g (q-o) else f q
def setO_same {os:List (Nat×Nat×(Nat->Obj))}{id kk:Nat}{o:Obj}(h:look os id kk=some o)(id' k':Nat):look (setO os id kk o) id' k'=look os id' k':=by
 rw[z3c _ _ _ _ _ h]
 split
 ·rename_i he;rw[he.1,he.2,h];exact Obj.opt_of (z3o h)
 ·rfl
def over_ok {X:Cx}{β:Env}{H:AH}{w:World}(hS:St X β H w){id kk:Nat}{r:Row}(hl:look H.os id kk=some (.row r))(hown:r.own=true){L:Loc}(hb:β id kk=some L){o m:Nat}(hom:o+m<=r.n)(hn0:0<r.n){g:Nat->List SV}{vs:List Value}
  (hvs:vs.length=m*r.sz) (hgl:∀q,q<m->(g q).length=r.sz) (hgd:z2u β (z3a g m) vs) (hglt:SV.ltL H.nxt (z3a g m)) (hgs:∀s∈z3a g m,s.scalar=true):
  ∃w',(storeCells ⟨L.blk,L.off+o*L.sz,none⟩ vs).run X.P w= .ok () w'/\St X β ⟨H.nxt,setO H.os id kk (.row {r with f:=z69 r.f o m g})⟩ w'/\w.heap.size<=w'.heap.size/\∀b,b≠L.blk->w'.heap[b]? =w.heap[b]? :=by
 rcases hS.holds _ _ _ hl with⟨h0,_⟩|⟨L',hq,h1,h2,h3,h4⟩
 ·omega
 ·rw[hb] at hq
  cases hq
  obtain⟨hoff,hncap,hmax,cur,hcur,hcs⟩:=h4 hown;have hfit0:(o+m)*r.sz<=L.cap*r.sz:=qT _ (by omega);rw[qV] at hfit0
  have hst:=run_storeCells_at X.P L.blk (L.off+o*L.sz) r.e vs 0 cur w hcur (by rw[h1,hoff,hvs];simp;omega) (fun u hu=>by
   obtain⟨q,hq⟩:=Qr hu
   obtain⟨s,hs⟩:∃s,(z3a g m)[q]? =some s:=by
    have h5:q<vs.length:=(qZ.1 hq).1;have h6:=z2k hgd;exact⟨_,qJ (by omega)⟩
   obtain⟨u',hu',hd'⟩:=z4k hgd q s hs;rw[hq] at hu'
   cases hu'
   exact den_scalar (hgs s (qW hs)) hd')
  simp only[ja] at hst
  let p:=L.off+o*L.sz
  let cur':Array Value:=(cur.toList.take p++vs++cur.toList.drop (p+vs.length)).toArray
  have hspl:cur'.toList=spl cur.toList p vs:=rfl;have hofit:p+vs.length<=cur.toList.length:=by simp only[p,QT];rw[h1,hoff,hvs,hcs];omega
  have hcur':cur'.size=cur.size:=by
   have:=spl_length cur.toList p vs hofit;rw[<-hspl] at this;simpa using this
  have hget:∀q:Nat,cur'[q]? =if p<=q/\q<p+vs.length then vs[q-p]? else cur[q]? :=fun q=>by
   have:=spl_get cur.toList p vs q hofit;rw[<-hspl] at this;simpa using this
  have hheap:=setRow_heap w L.blk cur cur' r.e (0,0) hcur;refine⟨w.setRow L.blk cur',hst,?_,by simp[World.setRow],fun b hbne=>JK w L.blk b _ hbne⟩;refine St.upd hS hl hown hb (o':= .row {r with f:=z69 r.f o m g}) hown (z3c _ _ _ _ _ hl) ⟨rfl,rfl,rfl,rfl,by simp[World.setRow],fun b hbne=>JK w L.blk b _ hbne⟩ ?_ ?_
  ·refine .inr ⟨L,rfl,h1,by simpa [World.setRow] using h2,fun i hi=> ?_,fun _=>⟨hoff,hncap,hmax,cur',hheap,by rw[hcur'];exact hcs⟩⟩;have hcell:∀q:Nat,(w.setRow L.blk cur').cell? ⟨L.blk,q,none⟩=cur'[q]? :=fun q=>by simp[World.cell?,hheap]
   have hcell0:∀q:Nat,w.cell? ⟨L.blk,q,none⟩=cur[q]? :=fun q=>by simp[World.cell?,hcur]
   have hi':i<r.n:=hi
   by_cases hin:o<=i/\i<o+m
   ·have hio:i-o<m:=by omega
    have hov:z69 r.f o m g i=g (i-o):=by unfold z69;rw[qe hin]
    simp only[hov];refine⟨hgl _ hio,fun j s hs=> ?_⟩
    have hj:j<r.sz:=by
     have:=(qZ.1 hs).1;rw[hgl _ hio] at this;exact this
    have hs2:(z3a g m)[(i-o)*r.sz+j]? =some s:=by rw[<-flatS_get hgl (i-o) hio j hj];exact hs
    obtain⟨u,hu,hud⟩:=z4k hgd _ s hs2;refine⟨hgs s (qW hs2),u,?_,hud⟩;have e1:i*r.sz=o*r.sz+(i-o)*r.sz:=by rw[<-qV];congr 1;omega
    have e2:(i-o)*r.sz+r.sz<=m*r.sz:=by
     have:=qT r.sz (show i-o+1<=m by omega);rw[qV,ju] at this;exact this
    rw[hcell,hget,qe (by simp only[p];rw[h1,hvs];omega)];rw[<-hu];congr 1;simp only[p];rw[h1];omega
   ·have hov:z69 r.f o m g i=r.f i:=by unfold z69;rw[qc hin]
    simp only[hov];refine⟨(h3 i hi').1,fun j s hs=> ?_⟩;obtain⟨h5,u,hu,hud⟩:=(h3 i hi').2 j s hs;refine⟨h5,u,?_,hud⟩
    have hj:j<r.sz:=by
     have:=(qZ.1 hs).1;rw[(h3 i hi').1] at this;exact this
    rw[hcell,hget,qc ?_,<-hcell0]
    ·exact hu
    ·rintro⟨q1,q2⟩;simp only[p] at q1 q2;rw[h1] at q1 q2;rw[hvs] at q2
     by_cases hlt:i<o
     ·have:=qT r.sz (show i+1<=o by omega);rw[qV,ju] at this;omega
     ·have:=qT r.sz (show o+m<=i by omega);rw[qV] at this;omega
  ·intro i j s hi hs;have hs':(z69 r.f o m g i)[j]? =some s:=hs;unfold z69 at hs'
   split at hs'
   ·rename_i hin
    have hj:j<r.sz:=by
     have:=(qZ.1 hs').1;rw[hgl _ (by omega)] at this;exact this
    have hs2:(z3a g m)[(i-o)*r.sz+j]? =some s:=by rw[<-flatS_get hgl (i-o) (by omega) j hj];exact hs'
    exact SV.ltL_get hglt _ s hs2
   ·exact(hS.lt _ _ _ hl).2 i j s hi hs'
def over_none {X:Cx}{β:Env}{H:AH}{w:World}(hS:St X β H w){id kk:Nat}{r:Row}(hl:look H.os id kk=some (.row r)){o:Nat}{g:Nat->List SV}:St X β ⟨H.nxt,setO H.os id kk (.row {r with f:=z69 r.f o 0 g})⟩ w:=by
 have e:({r with f:=z69 r.f o 0 g}:Row)=r:=by
  have:z69 r.f o 0 g=r.f:=by funext q;unfold z69;rw[qc (by omega)]
  rw[this]
 rw[e];have hm:=setO_same hl;exact St.less hS rfl (fun id' k' o' h=>by rw[hm] at h;exact h) (fun id' k' o' _ h _=>by rw[hm];exact h)
def copyK (P:Program)(H:AH)(dr:Bool)(W:List Nat)(t:TypeId)(sd ss:SV)(k:SV->AH->Prop):Prop:=
 match(z1o P t).kd with
 |.slice e=>
  ((z1o P t).ok=true/\z2m P e≠0)/\
  srcK H (z2m P e) ss fun m g=>
   match sd with
   |.slc _ id kk o n=>
    match find H.os id with
    |some (c,F)=>
     match F kk with
     |.row r=>(r.own=true/\kk<c/\(dr=true->W.contains id=true)/\o+n<=r.n/\r.sz=z2m P e)/\
       k (.int .i64 (min m n:Nat)) ⟨H.nxt,setO H.os id kk (.row {r with f:=z69 r.f o (min m n) g})⟩
     |_=>False
    |none=>False
   |_=>False
 |_=>False
def flatS_take {g:Nat->List SV}{sz m:Nat}(h:∀i,i<m->(g i).length=sz):∀q,q<=m->z3a g q=(z3a g m).take (q*sz):=by
  induction m with
  | zero => intro q hq; have : q = 0 := by omega
            subst this;simp[z3a]
  |succ m ih=>
    intro q hq;have hm:=z4q (sz:=sz) (n:=m) fun i hi=>h i (by omega)
    by_cases e:q=m+1
    · subst e;rw[Qj];rw[z4q h];exact qd _
    · simp only[z3a];rw[List.take_append_of_le_length (by rw[hm];exact qT _ (by omega))];exact ih (fun i hi=>h i (by omega)) q (by omega)
def copyK_ok {X : Cx} {β : Env} {H : AH} {w : World} (hS : St X β H w) {dr : Bool} {W : List Nat} {t t' ty : TypeId} {sd ss : SV} {vd vs : Value} {k : SV -> AH -> Prop} (h : copyK X.P H dr W t sd ss k) (hd : den β sd vd) (hs : den β ss vs) :
    ∃v' w',(Builtin.copy_ #[t,t'] ty #[vd,vs]).run X.P w= .ok v' w'/\Aft X β H w k v' w'/\(dr=true->Kp w (inW β H W) w'):=by
  unfold copyK at h
  split at h
  · rename_i e hkd;obtain⟨⟨hok,hsz⟩,h⟩:=h;obtain⟨m,g,a,c,news,h2,rfl,hna,hnl,hnews,hnd,hnlt,hnsc,hgl⟩:=srcK_ok hS h hs;clear h;obtain⟨inf,d,e1,e2,e3⟩:=z1k hok;rw[e3] at hkd;have hk2:=z2z hkd;subst hk2;obtain⟨ei,hei,hei2⟩:=z4c hsz
    split at h2
    · rename_i gg id kk o n
      split at h2
      · rename_i cc F hf
        split at h2
        · rename_i r hr;obtain⟨⟨hown,hkk,hW,hon,hrsz⟩,hk⟩:=h2;have hl:=zy hf hkk;rw[hr] at hl;simp only[den] at hd;obtain⟨ad,cap,rfl,hnc⟩:=z3z hd;have hmin:Nat.min m n=min m n:=rfl
          --what is read
          have hread:(Builtin.firstCells ei.size (min m n) (.slice a m c)).run X.P w= .ok (news.take (min m n*ei.size)).toArray w:=by
            cases a with
            |none=>
              have hm0:=hna rfl;subst hm0;have:news=[]:=je (by rw[hnl];simp);subst this;simp[Builtin.firstCells]
            |some b=>
              have hlen:(news.take (min m n*ei.size)).length=min m n*ei.size:=by
                rw[qN,hnl,<-hei2];have:=qT ei.size (show min m n<=m by omega);omega
              have:=Js (P:=X.P) w b (news.take (min m n*ei.size)) (fun j v hj=>by
                rw[Qb] at hj
                split at hj
                · exact hnews b rfl j v hj
                · cases hj)
              rw[hlen] at this;simpa [Builtin.firstCells] using this
          have hsub:∀(i j:Nat),True:=fun _ _=>trivial
          by_cases h0:min m n=0
          · --nothing is written
            rw[h0] at hk hread;refine⟨goInt 0,w,?_,⟨β,_,_,hk,by simp only[den];rfl,trivial,over_none hS hl,Env.agree.refl _ _,qd _,fun id' k' o' _ hl' ho'=> ?_⟩,fun _=>Kp.refl _ _⟩
            · have hst:∀A:Addr,(storeCells A (#[]:Array Value).toList 0).run X.P w= .ok () w:=fun A=>by simp[storeCells]
              cases ad with
              |none=>simp[Builtin.copy_,qE e2,Builtin.lenOf,z23 hei,h0,hread,hmin]
              |some A=>simp[Builtin.copy_,qE e2,Builtin.lenOf,z23 hei,h0,hread,hmin,storeCells]
            · rw[setO_same (o:= .row {r with f:=z69 r.f o 0 g})] at hl'
              · exact⟨_,hl',ho'⟩
              · have e:({r with f:=z69 r.f o 0 g}:Row)=r:=by
                  have:z69 r.f o 0 g=r.f:=by funext q;unfold z69;rw[qc (by omega)]
                  rw[this]
                rw[e];exact hl
          · obtain⟨L,c1,hb,he⟩:=z4v hd (by omega);simp only[j4] at he;obtain⟨rfl,_,rfl⟩:=he;have hgl':∀q,q<min m n->(g q).length=r.sz:=fun q hq=>by rw[hrsz];exact hgl q (by omega)
            have htk:=flatS_take hgl (min m n) (by omega)
            obtain ⟨w', hst, hS', hsize, hoth⟩ := over_ok (vs := news.take (min m n * ei.size)) hS hl hown hb (o := o) (m := min m n) (by omega) (by omega) (by
                rw[qN,hnl,hrsz,hei2];have:=qT (z2m X.P e) (show min m n<=m by omega)
                omega) hgl' (by rw[htk,<-hei2];exact denL_take _ hnd) (by rw[htk];exact ltL_take _ hnlt) (fun s hs=>by rw[htk] at hs;exact hnsc s (List.mem_of_mem_take hs))
            refine⟨.int .i64 ((min m n:Nat):Int),w',?_,⟨β,_,_,hk,by simp only[den],trivial,hS',Env.agree.refl _ _,qd _,fun id' k' o' _ hl' ho'=> ?_⟩,fun hdr=>⟨hsize,fun b hb2 hnb=>hoth b fun he=>hnb ⟨id,kk,.row r,L,by simpa using hW hdr,hl,hown,hb,he.symm⟩⟩⟩
            · simp[Builtin.copy_,qE e2,Builtin.lenOf,z23 hei,hread,hmin,hst,goInt]
            · rw[z3c _ _ _ _ _ hl] at hl'
              split at hl'
              · rename_i he;exact⟨.row r,by rw[he.1,he.2];exact hl,hown⟩
              · exact⟨_,hl',ho'⟩
        · exact h2.elim
      · exact h2.elim
    · exact h2.elim
  · exact h.elim
def clearK (P:Program)(H:AH)(dr:Bool)(W:List Nat)(t:TypeId)(ss:SV)(k:SV->AH->Prop):Prop:=
 match(z1o P t).kd with
 |.slice e=>
  match z3d P e with
  |some z=>
   match ss with
   |.slc _ id kk o n=>
    match find H.os id with
    |some (c,F)=>
     match F kk with
     |.row r=>((z1o P t).ok=true/\z2m P e≠0/\z.length=z2m P e/\z.all SV.scalar=true/\r.own=true/\kk<c/\(dr=true->W.contains id=true)/\o+n<=r.n/\r.sz=z2m P e)/\
       k (.tup []) ⟨H.nxt,setO H.os id kk (.row {r with f:=z69 r.f o n (fun _=>z)})⟩
     |_=>False
    |none=>False
   |_=>False
  |none=>False
 |_=>False
def flatS_const (z:List SV):∀n,z3a (fun _=>z) n=replZ z n
 |0=>rfl
 |n+1=>by
  have h:∀n,replZ z n++z=z++replZ z n:=fun n=>by
   induction n with
   |zero=>simp[replZ]
   |succ n ih=>simp only[replZ];rw[QF,ih]
  simp only[z3a,replZ];rw[flatS_const z n,h]
def clearK_ok {X:Cx}{β:Env}{H:AH}{w:World}(hS:St X β H w){dr:Bool}{W:List Nat}{t ty:TypeId}{ss:SV}{vs:Value}{k:SV->AH->Prop}(h:clearK X.P H dr W t ss k)(hs:den β ss vs):
  ∃v' w',(Builtin.clear_ #[t] ty #[vs]).run X.P w= .ok v' w'/\Aft X β H w k v' w'/\(dr=true->Kp w (inW β H W) w'):=by
 unfold clearK at h
 split at h
 ·rename_i e hkd
  split at h
  ·rename_i z hz
   split at h
   ·rename_i gg id kk o n
    split at h
    ·rename_i cc F hf
     split at h
     ·rename_i r hr;obtain⟨⟨hok,hsz,hzl,hzs,hown,hkk,hW,hon,hrsz⟩,hk⟩:=h;have hl:=zy hf hkk;rw[hr] at hl;obtain⟨inf,d,e1,e2,e3⟩:=z1k hok;rw[e3] at hkd;have hk2:=z2z hkd;subst hk2;obtain⟨zv,hzv,hzz⟩:=zeroOf_run hz;simp only[den] at hs;obtain⟨ad,cap,rfl,hnc⟩:=z3z hs
      by_cases h0:n=0
      ·subst h0;refine⟨.tuple #[],w,?_,⟨β,_,_,hk,by simp only[den];exact⟨[],rfl,rfl⟩,trivial,over_none hS hl,Env.agree.refl _ _,qd _,fun id' k' o' _ hl' ho'=> ?_⟩,fun _=>Kp.refl _ _⟩
       ·cases ad<;>simp[Builtin.clear_,qE e2]
       ·have e:({r with f:=z69 r.f o 0 fun _=>z}:Row)=r:=by
         have:z69 r.f o 0 (fun _=>z)=r.f:=by funext q;unfold z69;rw[qc (by omega)]
         rw[this]
        rw[e,setO_same hl] at hl';exact⟨_,hl',ho'⟩
      ·obtain⟨L,c1,hb,he⟩:=z4v hs (by omega);simp only[j4] at he;obtain⟨rfl,_,rfl⟩:=he;have hzc:zv.cells.size=z.length:=by rw[hzz];simp
       have hcells:z3a (fun _=>z) n=(Builtin.zeroCells zv.cells n).toList.map z1z:=by
        rw[flatS_const,hzz,replZ_eq _ _ (by rw[<-hzz];omega)]
        congr 1
        simp[Builtin.zeroCells,List.getD,Jy,QY]
       have hden:z2u β (z3a (fun _=>z) n) (Builtin.zeroCells zv.cells n).toList:=by rw[hcells];exact z49 β _
       have hlt:SV.ltL H.nxt (z3a (fun _=>z) n):=by rw[hcells];exact z4u _ _
       obtain⟨w',hst,hS',hsize,hoth⟩:=over_ok hS hl hown hb (o:=o) (m:=n) (g:=fun _=>z) (vs:=(Builtin.zeroCells zv.cells n).toList) hon (by omega) (by simp[Builtin.zeroCells];rw[hzc,hzl,hrsz]) (fun _ _=>by rw[hzl,hrsz]) hden hlt (fun s hs=>by
        rw[flatS_const] at hs
        exact qu.1 hzs s (replZ_mem z n s hs))
       refine⟨.tuple #[],w',?_,⟨β,_,_,hk,by simp only[den];exact⟨[],rfl,rfl⟩,trivial,hS',Env.agree.refl _ _,qd _,fun id' k' o' _ hl' ho'=> ?_⟩,fun hdr=>⟨hsize,fun b hb2 hnb=>hoth b fun he=>hnb ⟨id,kk,.row r,L,by simpa using hW hdr,hl,hown,hb,he.symm⟩⟩⟩
       ·obtain⟨n',rfl⟩:∃n',n=n'+1:=⟨n-1,by omega⟩;simp[Builtin.clear_,qE e2,hzv w,hst]
       ·rw[z3c _ _ _ _ _ hl] at hl'
        split at hl'
        ·rename_i he;exact⟨.row r,by rw[he.1,he.2];exact hl,hown⟩
        ·exact⟨_,hl',ho'⟩
     ·exact h.elim
    ·exact h.elim
   ·exact h.elim
  ·exact h.elim
 ·exact h.elim
def z59.ofKd:Kd->Option z59
 |.int .i64=>some (.ints [])
 |.string=>some (.strs [])
 |_=>none
def z59.has:z59->SV->Option Bool
 |.ints l,.int .i64 n=>some (l.contains n)
 |.strs l,.str s=>some (l.any (· ==s))
 |_,_=>none
def z59.add:z59->SV->Option z59
 |.ints l,.int .i64 n=>some (.ints (if l.contains n then l else l++[n]))
 |.strs l,.str s=>some (.strs (if l.any (· ==s) then l else l++[s]))
 |_,_=>none
def z59.okKd:z59->Kd->Bool
 |.ints _,.int .i64=>true
 |.strs _,.string=>true
 |_,_=>false
def zeroB (P:Program)(t:TypeId):Bool:=match(P.info? t).bind (·.zero) with
 |some (.bool false)=>true
 |_=>false
def zeroS (P:Program)(t:TypeId):Option SV:=((P.info? t).bind (·.zero)).map ofConst
def zeroS_run {P:Program}{t:TypeId}{s:SV}(h:zeroS P t=some s):∃z,(∀w,(zeroValue t).run P w= .ok z w)/\s=ofConst z:=by
 unfold zeroS at h
 cases hi:P.info? t with
 |none=>simp[hi] at h
 |some i=>
  cases hz:i.zero with
  |none=>simp[hi,hz] at h
  |some z=>
   simp[hi,hz] at h;exact⟨z,fun w=>by simp[zeroValue,typeInfo,hi,hz],h.symm⟩
def KeyT (P:Program)(kt:TypeId):Prop:=
 P.underlying kt=some (.struct (P.fieldsOf kt))/\P.stoodInHeld kt=false/\∃f0 f1:Field,P.fieldsOf kt= #[f0,f1]/\f0.name≠ "_" /\f1.name≠ "_" /\f0.offset=0/\f1.offset=1/\
  P.underlying f0.type=some (.int .i64)/\P.underlying f1.type=some (.int .u32)
def plain_int {P:Program}{t:TypeId}{k:IntKind}(h:P.underlying t=some (.int k)):P.plainKey t=true:=by
 unfold Program.plainKey;rw[h]
def KeyT.chk {P:Program}{kt:TypeId}(h:KeyT P kt)(em:Bool)(a b:Int)(w:World):(Instr.checkKey em 10000 kt (.agg #[.int .i64 a,.int .u32 b])).run P w= .ok () w:=by
 obtain⟨h1,h2,f0,f1,h3,n0,n1,o0,o1,u0,u1⟩:=h;rw[h3] at h1;have p0:=JN w (plain_int u0) (xs:= #[.int .i64 a,.int .u32 b]) (off:=0) (v:= .int .i64 a) rfl;have p1:=JN w (plain_int u1) (xs:= #[.int .i64 a,.int .u32 b]) (off:=1) (v:= .int .u32 b) rfl;have c0:(Instr.checkKey em 9999 f0.type (.int .i64 a)).run P w= .ok () w:=jg u0 (by simp[MapKept.IsKey]) em 9998;have c1:(Instr.checkKey em 9999 f1.type (.int .u32 b)).run P w= .ok () w:=jg u1 (by simp[MapKept.IsKey]) em 9998;unfold Instr.checkKey;simp[qE h1,n0,n1,o0,o1,p0,p1,c0,c1]
def KeyT.eq {P:Program}{kt:TypeId}(h:KeyT P kt)(a b a' b':Int)(w:World):(Op.equal kt (.agg #[.int .i64 a,.int .u32 b]) (.agg #[.int .i64 a',.int .u32 b'])).run P w= .ok (a==a' && b==b') w:=by
 obtain⟨h1,h2,f0,f1,h3,n0,n1,o0,o1,u0,u1⟩:=h;have p0:=fun x y=>JN w (plain_int u0) (xs:= #[.int .i64 x,.int .u32 y]) (off:=0) (v:= .int .i64 x) rfl;have p1:=fun x y=>JN w (plain_int u1) (xs:= #[.int .i64 x,.int .u32 y]) (off:=1) (v:= .int .u32 y) rfl;have c0:=J9 w 9998 f0.type .i64 .i64 a a' u0;have c1:=J9 w 9998 f1.type .u32 .u32 b b' u1;have:=JS w 9999 kt #[.int .i64 a,.int .u32 b] #[.int .i64 a',.int .u32 b'] h1 h2;refine Eq.trans this ?_;rw[h3];simp only[Op.eqFields,qM,Sem.run_ite,n0,n1,o0,o1,p0,p1,ne_eq,JZ,q9,qA];rw[c0]
 cases a==a'
 ·simp
 ·simp only[qA,qS,qz,Ql,qM,p1];rw[c1]
  cases b==b'<;>simp
def prs_find {P:Program}{kt:TypeId}(h:KeyT P kt)(a b:Int):∀(l:List MapEntry) (i:Nat),(∀x∈l,∃a' b',x.key= .agg #[.int .i64 a',.int .u32 b'])->
  ((∀w,(Instr.findAsking kt (.agg #[.int .i64 a,.int .u32 b]) l i).run P w= .ok none w)/\∀x∈l,x.key≠ .agg #[.int .i64 a,.int .u32 b])\/
   ∃j e,(∀w,(Instr.findAsking kt (.agg #[.int .i64 a,.int .u32 b]) l i).run P w= .ok (some (i+j,e.val)) w)/\l[j]? =some e/\e.key= .agg #[.int .i64 a,.int .u32 b]
 |[],_,_=> .inl ⟨fun w=>by simp[Instr.findAsking],fun x hx=>by cases hx⟩
 |e::es,i,hl=>by
  obtain⟨a',b',he⟩:=hl e (.head _);have hq:=fun w=>h.eq a b a' b' w
  by_cases hc:a=a'/\b=b'
  ·obtain⟨rfl,rfl⟩:=hc;exact .inr ⟨0,e,fun w=>by simp[Instr.findAsking,he,hq],rfl,he⟩
  ·have hf:(a==a' && b==b')=false:=by
    rw[Bool.eq_false_iff];intro g;simp only[qj,qD] at g;exact hc g
   have hne:e.key≠ .agg #[.int .i64 a,.int .u32 b]:=fun g=>by
    rw[he] at g;simp only[Value.agg.injEq,Array.mk.injEq,Jn,J8,QQ,and_true] at g;exact hc ⟨g.1.symm,g.2.symm⟩
   rcases prs_find h a b es (i+1) (fun x hx=>hl x (.tail _ hx)) with⟨h1,h2⟩|⟨j,e',h1,h2,h3⟩
   ·exact .inl ⟨fun w=>by simp[Instr.findAsking,he,hq,hf,h1],fun x hx=>by
     cases hx with
     |head=>exact hne
     |tail _ hx=>exact h2 x hx⟩
   ·exact .inr ⟨j+1,e',fun w=>by simp[Instr.findAsking,he,hq,hf,h1];omega,by simpa using h2,h3⟩
def z34.ofKd (z:SV):Kd->Option z34
 |.int .i64=>some (.ints 0 (fun _=>false) (fun _=>z) z)
 |.struct=>some (.prs 0 (fun _ _=>false) (fun _ _=>z) z)
 |_=>none
def z34.get:z34->SV->Option (Bool×SV)
 |.ints _ h g _,.int .i64 a=>some (h a,g a)
 |.prs _ h g _,.agg [.int .i64 a,.int .u32 b]=>some (h a b,g a b)
 |_,_=>none
def z34.put:z34->SV->SV->Option z34
 |.ints n h g z,.int .i64 a,s=>some (.ints (if h a then n else n+1) (fun x=>x==a||h x) (fun x=>if x=a then s else g x) z)
 |.prs n h g z,.agg [.int .i64 a,.int .u32 b],s=>some (.prs (if h a b then n else n+1) (fun x y=>(x==a && y==b)||h x y) (fun x y=>if x=a/\y=b then s else g x y) z)
 |_,_,_=>none
def z34.okKd:z34->Kd->Bool
 |.ints ..,.int .i64=>true
 |.prs ..,.struct=>true
 |_,_=>false
def z34.okP (P:Program)(kt:TypeId):z34->Prop
 |.ints .. =>True
 |.prs .. =>KeyT P kt
def mmapK (P:Program)(H:AH)(t:TypeId)(k:SV->AH->Prop):Prop:=
 match(z1o P t).kd with
 |.map kt et=>
  match(z1o P et).kd with
  |.bool=>
   match z59.ofKd (z1o P kt).kd with
   |some ks=>(z1o P t).ok=true/\k (.mp H.nxt 0) ⟨H.nxt+1,(H.nxt,uQ (.blk true ks))::H.os⟩
   |none=>False
  |_=>
   match zeroS P et with
   |some z=>
    match z34.ofKd z (z1o P kt).kd with
    |some M=>(z1o P t).ok=true/\k (.mp H.nxt 0) ⟨H.nxt+1,(H.nxt,uQ (.mapo true M))::H.os⟩
    |none=>False
   |none=>False
 |_=>False
def ofKd_set {d:Kd}{ks:z59}(h:z59.ofKd d=some ks):IsSet ks (.map #[] 0):=by
 unfold z59.ofKd at h
 split at h
 ·cases h;exact⟨#[],0,rfl,rfl,fun e he=>by simp at he⟩
 ·cases h;exact⟨#[],0,rfl,rfl,fun e he=>by simp at he⟩
 ·cases h
def mmapK_ok {X:Cx}{β:Env}{H:AH}{w:World}(hS:St X β H w){t:TypeId}{r:Option Value}(hr:r=none\/∃kd n,r=some (.int kd n)){k:SV->AH->Prop}(h:mmapK X.P H t k):
  ∃v w',(Instr.makeMap t r).run X.P w= .ok v w'/\Aft X β H w k v w'/\Blw w.heap.size w w':=by
 have main:∀(o:Obj) (kt et:TypeId),(z1o X.P t).kd= .map kt et->(z1o X.P t).ok=true->(∀β',o.holds β' (w.alloc (.map #[] 0)) (some ⟨w.heap.size,0,0,0⟩))->o.lt (H.nxt+1)->k (.mp H.nxt 0) ⟨H.nxt+1,(H.nxt,uQ o)::H.os⟩->∃v w',(Instr.makeMap t r).run X.P w= .ok v w'/\Aft X β H w k v w'/\Blw w.heap.size w w':=by
  intro o kt et hkd hok hh hlt hk;obtain⟨inf,d,e1,e2,e3⟩:=z1k hok;rw[e3] at hkd;have:=kdOf_map hkd;subst this;refine⟨.map (some w.heap.size),w.alloc (.map #[] 0),?_,?_,(Blw.refl _ w).alloc (qd _) _⟩
  ·rcases hr with rfl|⟨kd,n,rfl⟩
   ·simp only[Instr.makeMap,qM,Qh,J0,qA]
    rfl
   ·simp[Instr.makeMap,qE e2,asInt,asIntOf,J0]
  ·have hag:=Env.agree_set β H.nxt (fun _=>some ⟨w.heap.size,0,0,0⟩);refine⟨β.set H.nxt (fun _=>some ⟨w.heap.size,0,0,0⟩),.mp H.nxt 0,_,hk,?_,Qp _,?_,hag,QH _,sub_cons _ _ _ fun _ _ _ h=>h⟩
   ·simp only[den];exact⟨_,by unfold Env.set;rw[qe rfl],rfl⟩
   ·exact St.new hS ((Blw.refl _ w).alloc (qd _) _) (fun k L _ he=>by cases he;exact qd _) (fun k k' _ _ h h' _ _ _=>by omega) (fun k _=>hh _) (fun k _=>hlt)
 unfold mmapK at h
 split at h
 ·rename_i kt et hkd
  split at h
  ·split at h
   ·rename_i ks hks;obtain⟨hok,hk⟩:=h;exact main (.blk true ks) kt et hkd hok (fun _=>⟨_,_,rfl,jS w _,ofKd_set hks⟩) trivial hk
   ·exact h.elim
  ·split at h
   ·rename_i z hz
    split at h
    ·rename_i M hM;obtain⟨hok,hk⟩:=h;obtain⟨z0,_,hz0⟩:=zeroS_run hz;unfold z34.ofKd at hM
     split at hM
     ·cases hM
      refine main (.mapo true (.ints 0 (fun _=>false) (fun _=>z) z)) kt et hkd hok (fun _=>⟨_,_,rfl,jS w _,#[],0,rfl,rfl,JL,fun k=> ?_,fun e he=>by simp at he,fun k _ v hv=> ?_⟩) ⟨?_,fun v=> ?_⟩ hk
      ·simp only[z34.has];split<;>simp
      ·simp only[z34.val];split<;>exact hv
      ·rw[hz0];exact ofConst_lt _ _
      ·simp only[z34.val];split<;>(rw[hz0];exact ofConst_lt _ _)
     ·cases hM
      refine main (.mapo true (.prs 0 (fun _ _=>false) (fun _ _=>z) z)) kt et hkd hok (fun _=>⟨_,_,rfl,jS w _,#[],0,rfl,rfl,JL,fun k=> ?_,fun e he=>by simp at he,fun k _ v hv=> ?_⟩) ⟨?_,fun v=> ?_⟩ hk
      ·simp only[z34.has];split<;>simp
      ·simp only[z34.val];split<;>exact hv
      ·rw[hz0];exact ofConst_lt _ _
      ·simp only[z34.val];split<;>(rw[hz0];exact ofConst_lt _ _)
     ·cases hM
    ·exact h.elim
   ·exact h.elim
 ·exact h.elim
def mputK (P:Program)(H:AH)(dr:Bool)(W:List Nat)(t:TypeId)(sm sk sv:SV)(k:SV->AH->Prop):Prop:=
 match sm with
 |.mp id kk=>
  match find H.os id,(z1o P t).kd with
  |some (c,F),.map kt _=>
   match F kk with
   |.blk own ks=>
    match z59.add ks sk,sv with
    |some ks',.bool b=>(b=true/\own=true/\kk<c/\(dr=true->W.contains id=true)/\(z1o P t).ok=true/\(z1o P kt).ok=true/\ks.okKd (z1o P kt).kd=true)/\
      k (.raw undef) ⟨H.nxt,setO H.os id kk (.blk own ks')⟩
    |_,_=>False
   |.mapo own M=>
    match z34.put M sk sv with
    |some M'=>(own=true/\kk<c/\(dr=true->W.contains id=true)/\(z1o P t).ok=true/\(z1o P kt).ok=true/\M.okKd (z1o P kt).kd=true/\M.okP P kt)/\
      k (.raw undef) ⟨H.nxt,setO H.os id kk (.mapo own M')⟩
    |none=>False
   |_=>False
  |_,_=>False
 |_=>False
def mlookK (P:Program)(H:AH)(t:TypeId)(sm sk:SV)(ok:Bool)(k:SV->AH->Prop):Prop:=
 match sm with
 |.mp id kk=>
  match find H.os id,(z1o P t).kd with
  |some (c,F),.map kt et=>
   match F kk with
   |.blk _ ks=>
    match z59.has ks sk with
    |some b=>(ok=false/\kk<c/\(z1o P t).ok=true/\(z1o P kt).ok=true/\ks.okKd (z1o P kt).kd=true/\zeroB P et=true)/\k (.bool b) H
    |none=>False
   |.mapo _ M=>
    match z34.get M sk with
    |some (b,s)=>(kk<c/\(z1o P t).ok=true/\(z1o P kt).ok=true/\M.okKd (z1o P kt).kd=true/\M.okP P kt/\zeroS P et=some M.z)/\k (if ok then .tup [s,.bool b] else s) H
    |none=>False
   |_=>False
  |_,_=>False
 |_=>False
def key_find {P : Program} {kt : TypeId} {ks : z59} {sk : SV} {b : Bool} (hh : z59.has ks sk = some b) (hok : (z1o P kt).ok = true) (hkd : ks.okKd (z1o P kt).kd = true) {β : Env} {vk : Value} (hk : den β sk vk)
    {es:Array MapEntry} (hes:es.toList.map (·.key)=ks.vals):
    (∃d,P.underlying kt=some d/\MapKept.IsKey d vk/\((b=false/\Instr.findNow d vk es.toList 0=some none)\/(b=true/\∃j e,Instr.findNow d vk es.toList 0=some (some (j,e.val))/\es[j]? =some e/\e.key=vk)))/\
    ((b=true->z59.add ks sk=some ks)/\(b=false->∃ks',z59.add ks sk=some ks'/\ks'.vals=ks.vals++[vk])):=by
  obtain⟨inf,d,e1,e2,e3⟩:=z1k hok;rw[e3] at hkd
  have key : ∀ (hisk : MapKept.IsKey d vk) (hall : ∀ x ∈ es.toList, MapKept.IsKey d x.key) (hb : b = true ↔ vk ∈ ks.vals),
      (b=false/\Instr.findNow d vk es.toList 0=some none)\/(b=true/\∃j e,Instr.findNow d vk es.toList 0=some (some (j,e.val))/\es[j]? =some e/\e.key=vk):=fun hisk hall hb=>by
    rcases MapKept.findNow_spec hisk es.toList 0 hall with⟨h1,h2⟩|⟨j,e,h1,h2,h3⟩
    · refine .inl ⟨?_,h1⟩
      cases b with
      |false=>rfl
      |true=>
        have:=hb.1 rfl;rw[<-hes] at this;obtain⟨x,hx,he⟩:=Qs.1 this;exact absurd he (h2 x hx)
    · refine .inr ⟨hb.2 ?_,j,e,by simpa using h1,by simpa using h2,h3⟩;rw[<-hes,<-h3];exact Qs.2 ⟨e,qW h2,rfl⟩
  cases ks with
  |ints l=>
    unfold z59.has at hh
    split at hh
    · rename_i l' n heq
      cases heq
      cases hh
      simp only[den] at hk;subst hk
      have hd:∃kd,d= .int kd:=by
        simp only[z59.okKd] at hkd
        cases d<;>simp[kdOf] at hkd
        exact⟨_,rfl⟩
      obtain⟨kd,rfl⟩:=hd
      have hkd2:kd= .i64:=by
        simp only[z59.okKd,kdOf] at hkd
        cases kd<;>simp at hkd
        rfl
      subst hkd2;refine⟨⟨_,e2,by simp[MapKept.IsKey],key (by simp[MapKept.IsKey]) (fun x hx=> ?_) ?_⟩,fun hb=> ?_,fun hb=> ?_⟩
      · have:x.key∈es.toList.map (·.key):=Qs.2 ⟨x,hx,rfl⟩;rw[hes] at this;simp only[z59.vals] at this;obtain⟨q,_,hq⟩:=Qs.1 this;rw[<-hq];simp[MapKept.IsKey]
      · simp[z59.vals]
      · simp only[z59.add,hb,q9]
      · simp only[z59.add,hb];exact⟨_,rfl,by simp[z59.vals]⟩
    · cases ‹z59.ints l=z59.strs _›
    · cases hh
  |strs l=>
    unfold z59.has at hh
    split at hh
    · cases ‹z59.strs l=z59.ints _›
    · rename_i l' s heq
      cases heq
      cases hh
      simp only[den] at hk;subst hk
      have hd:d= .string:=by
        simp only[z59.okKd] at hkd
        cases d<;>simp[kdOf] at hkd
        rfl
      subst hd;refine⟨⟨_,e2,by simp[MapKept.IsKey],key (by simp[MapKept.IsKey]) (fun x hx=> ?_) ?_⟩,fun hb=> ?_,fun hb=> ?_⟩
      · have:x.key∈es.toList.map (·.key):=Qs.2 ⟨x,hx,rfl⟩;rw[hes] at this;simp only[z59.vals] at this;obtain⟨q,_,hq⟩:=Qs.1 this;rw[<-hq];simp[MapKept.IsKey]
      · simp only[z59.vals,Jc,MapKept.bytes_beq,Qs,Value.string.injEq]
      · simp only[z59.add,hb,q9]
      · simp only[z59.add,hb];exact⟨_,rfl,by simp[z59.vals]⟩
    · cases hh
def add_has {ks:z59}{sk:SV}{ks':z59}(h:z59.add ks sk=some ks'):∃b,z59.has ks sk=some b:=by
 unfold z59.add at h
 split at h
 ·exact⟨_,rfl⟩
 ·exact⟨_,rfl⟩
 ·cases h
structure KOk (P:Program) (kt:TypeId) (M:z34) (vk:Value) (es:Array MapEntry):Prop where
 chk:∀(em:Bool) (w:World),(Instr.checkKey em 10000 kt vk).run P w= .ok () w
 stays:∀w:World,(Instr.keyThatStays vk vk).run P w= .ok vk w
 find:(M.has vk=false/\∀w:World,(Instr.findKey kt vk es.toList).run P w= .ok none w)\/(M.has vk=true/\∃j e,(∀w:World,(Instr.findKey kt vk es.toList).run P w= .ok (some (j,e.val)) w)/\es[j]? =some e/\e.key=vk)
def mapo_find {P:Program}{kt:TypeId}{M:z34}{sk:SV}{b:Bool}{s:SV}(hh:z34.get M sk=some (b,s))(hok:(z1o P kt).ok=true)(hkd:M.okKd (z1o P kt).kd=true)(hP:M.okP P kt){β:Env}{vk:Value}(hk:den β sk vk)
  {es:Array MapEntry} (hes:∀k,M.has k=true↔∃e∈es.toList,e.key=k):
  b=M.has vk/\s=M.val vk/\KOk P kt M vk es:=by
 obtain⟨inf,d,e1,e2,e3⟩:=z1k hok;rw[e3] at hkd;unfold z34.get at hh
 split at hh
 ·rename_i n h g z a
  cases hh
  simp only[den] at hk;subst hk
  have hd:d= .int .i64:=by
   simp only[z34.okKd] at hkd
   cases d<;>simp[kdOf] at hkd
   rename_i kd
   cases kd<;>simp at hkd
   rfl
  subst hd;have hisk:MapKept.IsKey (.int .i64) (.int .i64 a):=by simp[MapKept.IsKey]
  have hall:∀x∈es.toList,MapKept.IsKey (.int .i64) x.key:=fun x hx=>by
   have:=(hes x.key).2 ⟨x,hx,rfl⟩;simp only[z34.has] at this
   split at this
   ·rename_i a' hka;unfold keyI at hka
    split at hka
    ·rename_i a2 hka2;rw[hka2];simp[MapKept.IsKey]
    ·cases hka
   ·cases this
  refine⟨rfl,rfl,fun em w=>jg e2 hisk em 9999,fun w=>MapKept.run_keyThatStays hisk,?_⟩;rcases MapKept.findNow_spec hisk es.toList 0 hall with⟨h1,h2⟩|⟨j,e,h1,h2,h3⟩
  ·refine .inl ⟨?_,fun w=>jz e2 h1⟩
   cases hb:(z34.ints n h g z).has (.int .i64 a) with
   |false=>rfl
   |true=>
    obtain⟨x,hx,he⟩:=(hes _).1 hb;exact absurd he (h2 x hx)
  ·exact .inr ⟨(hes _).2 ⟨e,qW h2,h3⟩,j,e,fun w=>by have:=jz (P:=P) (w:=w) e2 h1;simpa using this,by simpa using h2,h3⟩
 ·rename_i n h g z a b
  cases hh
  have hk':vk= .agg #[.int .i64 a,.int .u32 b]:=by
   obtain⟨vs,hvs,rfl⟩:=hk;simp only[z2u,den] at hvs;obtain⟨v1,r1,rfl,⟨v2,r2,rfl,rfl,rfl⟩,rfl⟩:=hvs
   rfl
  subst hk'
  have hall:∀x∈es.toList,∃a' b',x.key= .agg #[.int .i64 a',.int .u32 b']:=fun x hx=>by
   have:=(hes x.key).2 ⟨x,hx,rfl⟩;simp only[z34.has] at this
   split at this
   ·rename_i a' b' hka;unfold keyP at hka
    split at hka
    ·rename_i a2 b2 hka2;exact⟨a2,b2,hka2⟩
    ·cases hka
   ·cases this
  have hfe:=fun w=>run_findKey_eq (P:=P) w (k:=kt) (by rw[hP.1]) (.agg #[.int .i64 a,.int .u32 b]) es.toList;refine⟨rfl,rfl,fun em w=>hP.chk em a b w,fun w=>by simp[Instr.keyThatStays,Instr.sameBits],?_⟩;rcases prs_find hP a b es.toList 0 hall with⟨h1,h2⟩|⟨j,e,h1,h2,h3⟩
  ·refine .inl ⟨?_,fun w=>(hfe w).trans (h1 w)⟩
   cases hb:(z34.prs n h g z).has (.agg #[.int .i64 a,.int .u32 b]) with
   |false=>rfl
   |true=>
    obtain⟨x,hx,he⟩:=(hes _).1 hb;exact absurd he (h2 x hx)
  ·exact .inr ⟨(hes _).2 ⟨e,qW h2,h3⟩,j,e,fun w=>(hfe w).trans (by simpa using h1 w),by simpa using h2,h3⟩
 ·cases hh
def mapo_put {P:Program}{kt:TypeId}{M M':z34}{sk sv:SV}(hp:z34.put M sk sv=some M')(hok:(z1o P kt).ok=true)(hkd:M.okKd (z1o P kt).kd=true)(hP:M.okP P kt){β:Env}{vk:Value}(hk:den β sk vk)
  {es:Array MapEntry} (hes:∀k,M.has k=true↔∃e∈es.toList,e.key=k):
  KOk P kt M vk es/\
   M'.n=(if M.has vk then M.n else M.n+1)/\M'.z=M.z/\∀x,(M'.has x=false->x≠vk/\M.has x=false)/\(M'.has x=true↔x=vk\/M.has x=true)/\(x=vk->M'.val x=sv)/\(x≠vk->M'.val x=M.val x):=by
 obtain⟨b,s,hg⟩:∃b s,z34.get M sk=some (b,s):=by
  unfold z34.put at hp
  split at hp
  ·exact⟨_,_,rfl⟩
  ·exact⟨_,_,rfl⟩
  ·cases hp
 obtain⟨e0,e1,h3⟩:=mapo_find hg hok hkd hP hk hes;clear e0 e1;refine⟨h3,?_⟩;unfold z34.put at hp
 split at hp
 ·rename_i n h g z a
  cases hp
  simp only[den] at hk;subst hk;have hko:∀x:Value,keyI x=none->x≠ .int .i64 a:=fun x hx e=>by subst e;cases hx
  have hks:∀(x:Value) (q:Int),keyI x=some q->x= .int .i64 q:=fun x q hx=>by
   unfold keyI at hx
   split at hx
   ·cases hx;rfl
   ·cases hx
  refine⟨rfl,rfl,fun x=> ?_⟩;simp only[z34.has,z34.val]
  cases hx:keyI x with
  |none=>
   refine⟨fun _=>⟨hko x hx,rfl⟩,⟨(fun h=>by cases h),fun h=> ?_⟩,fun h=>absurd h (hko x hx),fun _=>rfl⟩;rcases h with h|h
   ·exact absurd h (hko x hx)
   ·cases h
  |some q=>
   have:=hks x q hx;subst this;simp only[J8,QQ];refine⟨fun h=> ?_,?_,fun h=>qe h,fun h=>qc fun e=>h (by rw[e])⟩
   ·simpa using h
   ·simp
 ·rename_i n h g z a b
  cases hp
  have hk':vk= .agg #[.int .i64 a,.int .u32 b]:=by
   obtain⟨vs,hvs,rfl⟩:=hk;simp only[z2u,den] at hvs;obtain⟨v1,r1,rfl,⟨v2,r2,rfl,rfl,rfl⟩,rfl⟩:=hvs
   rfl
  subst hk';have hko:∀x:Value,keyP x=none->x≠ .agg #[.int .i64 a,.int .u32 b]:=fun x hx e=>by subst e;cases hx
  have hks:∀(x:Value) (q:Int×Int),keyP x=some q->x= .agg #[.int .i64 q.1,.int .u32 q.2]:=fun x q hx=>by
   unfold keyP at hx
   split at hx
   ·cases hx;rfl
   ·cases hx
  refine⟨rfl,rfl,fun x=> ?_⟩;simp only[z34.has,z34.val]
  cases hx:keyP x with
  |none=>
   refine⟨fun _=>⟨hko x hx,rfl⟩,⟨(fun h=>by cases h),fun h=> ?_⟩,fun h=>absurd h (hko x hx),fun _=>rfl⟩;rcases h with h|h
   ·exact absurd h (hko x hx)
   ·cases h
  |some q=>
   obtain⟨q1,q2⟩:=q;have:=hks x _ hx;subst this;simp only[Value.agg.injEq,Array.mk.injEq,Jn,J8,QQ,and_true];refine⟨fun h=> ?_,?_,fun h=>qe h,fun h=>qc fun e=>h (by rw[e.1,e.2])⟩
   ·simpa using h
   ·simp
 ·cases hp
def mputK_ok {X : Cx} {β : Env} {H : AH} {w : World} (hS : St X β H w) {dr : Bool} {W : List Nat} {t : TypeId} {sm sk sv : SV} {vm vk vv : Value} {k : SV -> AH -> Prop} (h : mputK X.P H dr W t sm sk sv k)
    (hm:den β sm vm) (hkd:den β sk vk) (hv:den β sv vv) (hlv:sv.lt H.nxt):
    ∃w',(Instr.mapUpdate t vm vk vv).run X.P w= .ok () w'/\Aft X β H w k undef w'/\(dr=true->Kp w (inW β H W) w'):=by
  unfold mputK at h
  split at h
  · rename_i id kk
    split at h
    · rename_i c F kt et hf hkd1
      split at h
      · rename_i own ks hr
        split at h
        · rename_i ks' b0 hadd;obtain⟨⟨rfl,rfl,hkk,hW,hok,hokt,hokd⟩,hk⟩:=h;have hl:=zy hf hkk;rw[hr] at hl;simp only[den] at hm hv;subst hv;obtain⟨L,hb,rfl⟩:=hm;obtain⟨L',bb,hq,hbk,es,clk,rfl,hes,hval⟩:=hS.holds _ _ _ hl;rw[hb] at hq
          cases hq
          obtain⟨inf,d0,e1,e2,e3⟩:=z1k hok;rw[e3] at hkd1;have:=kdOf_map hkd1;subst this;obtain⟨b,hhas⟩:=add_has hadd;obtain⟨⟨d,hd,hisk,hfind⟩,hadd1,hadd2⟩:=key_find hhas hokt hokd hkd hes
          have fin : ∀ o' : Go.Obj, IsSet ks' o' -> (Instr.mapUpdate t (.map (some L.blk)) vk (.bool true)).run X.P w = .ok () { w with heap := w.heap.setIfInBounds L.blk o' } ->
              ∃w',(Instr.mapUpdate t (.map (some L.blk)) vk (.bool true)).run X.P w= .ok () w'/\Aft X β H w k undef w'/\(dr=true->Kp w (inW β H W) w'):=fun o' hset hrun=>by
            obtain⟨hs1,hs2⟩:=MapKept.heap_set (o':=o') hbk;refine⟨_,hrun,⟨β,.raw undef,_,hk,rfl,trivial,?_,Env.agree.refl _ _,qd _,fun id' k' o1 _ hl' ho'=> ?_⟩,fun hdr=>⟨by simp,fun b' hb2 hnb=>hs2 b' fun he=>hnb ?_⟩⟩
            · refine St.upd hS hl rfl hb (o':= .blk true ks') rfl (z3c _ _ _ _ _ hl) ⟨rfl,rfl,rfl,rfl,by simp,fun b hbne=>hs2 b hbne⟩ ?_ trivial;exact⟨_,_,rfl,hs1,hset⟩
            · rw[z3c _ _ _ _ _ hl] at hl'
              split at hl'
              · rename_i he;exact⟨.blk true ks,by rw[he.1,he.2];exact hl,rfl⟩
              · exact⟨_,hl',ho'⟩
            · have hWc:=hW hdr;exact⟨id,kk,_,L,by simpa using hWc,hl,rfl,hb,he.symm⟩
          rcases hfind with⟨rfl,hfn⟩|⟨rfl,j,e,hfn,hj,hje⟩
          · obtain⟨ks2,h2,h3⟩:=hadd2 rfl;rw[hadd] at h2
            cases h2
            refine fin (.map (es.push ⟨vk,.bool true,clk⟩) (clk+1)) ⟨_,_,rfl,by simp[hes,h3],fun x hx=> ?_⟩ ?_
            · simp only[Jt,Qa,qU] at hx;rcases hx with hx|rfl
              · exact hval x hx
              · rfl
            · simp[Instr.mapUpdate,qE e2,QS hbk,jg hd hisk,jz hd hfn,j0 _ hbk,Result.andThen]
          · have h2:=hadd1 rfl;rw[hadd] at h2
            cases h2
            refine fin (.map (es.modify j (fun e'=>{e' with key:=vk,val:= .bool true})) clk) ⟨_,_,rfl,?_,fun x hx=> ?_⟩ ?_
            · rw[MapKept.modify_keys j _ fun e' he'=>by rw[hj] at he';cases he';exact hje.symm];exact hes
            · obtain⟨q,hq⟩:=Qr hx;rw[QG,j5] at hq
              split at hq
              · rw[q6] at hq;obtain⟨y,_,rfl⟩:=hq
                rfl
              · exact hval x (by rw[<-QG] at hq;exact qW hq)
            · simp[Instr.mapUpdate,qE e2,QS hbk,jg hd hisk,jz hd hfn,hj,hje,MapKept.run_keyThatStays hisk,j0 _ hbk,Result.andThen]
        · exact h.elim
      · rename_i own M hr
        split at h
        · rename_i M' hput;obtain⟨⟨rfl,hkk,hW,hok,hokt,hokd,hokP⟩,hk⟩:=h;have hl:=zy hf hkk;rw[hr] at hl;simp only[den] at hm;obtain⟨L,hb,rfl⟩:=hm;obtain⟨L',bb,hq,hbk,es,clk,rfl,hn,hnd,hhas,hval,hzero⟩:=hS.holds _ _ _ hl;rw[hb] at hq
          cases hq
          obtain⟨inf,d0,e1,e2,e3⟩:=z1k hok;rw[e3] at hkd1;have:=kdOf_map hkd1;subst this;obtain⟨hlz,hlval⟩:=(hS.lt _ _ _ hl).2;obtain⟨hK,q1,q2,q3⟩:=mapo_put hput hokt hokd hokP hkd hhas;have hfind:=hK.find
          have fin : ∀ o' : Go.Obj, IsMap M' β o' -> (Instr.mapUpdate t (.map (some L.blk)) vk vv).run X.P w = .ok () { w with heap := w.heap.setIfInBounds L.blk o' } ->
              ∃w',(Instr.mapUpdate t (.map (some L.blk)) vk vv).run X.P w= .ok () w'/\Aft X β H w k undef w'/\(dr=true->Kp w (inW β H W) w'):=fun o' hset hrun=>by
            obtain⟨hs1,hs2⟩:=MapKept.heap_set (o':=o') hbk;refine⟨_,hrun,⟨β,.raw undef,_,hk,rfl,trivial,?_,Env.agree.refl _ _,qd _,fun id' k' o1 _ hl' ho'=> ?_⟩,fun hdr=>⟨by simp,fun b' hb2 hnb=>hs2 b' fun he=>hnb ?_⟩⟩
            · refine St.upd hS hl rfl hb (o':= .mapo true M') rfl (z3c _ _ _ _ _ hl) ⟨rfl,rfl,rfl,rfl,by simp,fun b hbne=>hs2 b hbne⟩ ?_ ⟨by rw[q2];exact hlz,fun v=> ?_⟩
              · exact⟨_,_,rfl,hs1,hset⟩
              · by_cases e:v=vk
                · rw[(q3 v).2.2.1 e];exact hlv
                · rw[(q3 v).2.2.2 e];exact hlval v
            · rw[z3c _ _ _ _ _ hl] at hl'
              split at hl'
              · rename_i he;exact⟨.mapo true M,by rw[he.1,he.2];exact hl,rfl⟩
              · exact⟨_,hl',ho'⟩
            · have hWc:=hW hdr;exact⟨id,kk,_,L,by simpa using hWc,hl,rfl,hb,he.symm⟩
          have hz':∀k,M'.has k=false->∀v,den β M'.z v->den β (M'.val k) v:=fun k hk v hv=>by
            obtain⟨h1,h2⟩:=(q3 k).1 hk;rw[(q3 k).2.2.2 h1];rw[q2] at hv;exact hzero k h2 v hv
          rcases hfind with⟨hb0,hfn⟩|⟨hb0,j,e,hfn,hj,hje⟩
          · refine fin (.map (es.push ⟨vk,vv,clk⟩) (clk+1)) ⟨_,_,rfl,by rw[Array.size_push,hn,q1,hb0];rfl,?_,fun x=> ?_,fun x hx=> ?_,hz'⟩ ?_
            · rw[Jt,List.map_append,jM];refine⟨hnd,by simp,fun a ha b hb1 hab=> ?_⟩;obtain⟨y,h1,h2⟩:=Qs.1 ha;have hb2:b=vk:=by simpa using hb1
              have:=(hhas vk).2 ⟨y,h1,by rw[h2,hab,hb2]⟩;rw[hb0] at this;cases this
            · rw[(q3 x).2.1,Jt];simp only[Qa,qU,hhas]
              constructor
              · rintro(rfl|⟨y,h1,h2⟩)
                · exact⟨_,.inr rfl,rfl⟩
                · exact⟨y,.inl h1,h2⟩
              · rintro⟨y,h1|rfl,h2⟩
                · exact .inr ⟨y,h1,h2⟩
                · exact .inl h2.symm
            · simp only[Jt,Qa,qU] at hx;rcases hx with hx|rfl
              · rw[(q3 _).2.2.2]
                · exact hval x hx
                · intro hh;have:=(hhas vk).2 ⟨x,hx,hh⟩;rw[hb0] at this;cases this
              · rw[(q3 _).2.2.1 rfl];exact hv
            · simp[Instr.mapUpdate,qE e2,QS hbk,hK.chk,hfn,j0 _ hbk,Result.andThen]
          · have hkeys:=MapKept.modify_keys (es:=es) j (fun e'=>{e' with key:=vk,val:=vv}) fun e' he'=>by rw[hj] at he';cases he';exact hje.symm
            refine fin (.map (es.modify j (fun e'=>{e' with key:=vk,val:=vv})) clk) ⟨_,_,rfl,by rw[Array.size_modify,hn,q1,hb0];rfl,by rw[hkeys];exact hnd,fun x=> ?_,fun x hx=> ?_,hz'⟩ ?_
            · rw[(q3 x).2.1]
              have h1:(∃e∈(es.modify j (fun e'=>{e' with key:=vk,val:=vv})).toList,e.key=x)↔x∈es.toList.map (·.key):=by
                rw[<-hkeys,Qs]
              rw[h1,Qs]
              constructor
              · rintro(rfl|h2)
                · exact(hhas x).1 hb0
                · exact(hhas x).1 h2
              · intro h2;exact .inr ((hhas x).2 h2)
            · obtain⟨q,hq⟩:=Qr hx;rw[QG,j5] at hq
              split at hq
              · rw[q6] at hq;obtain⟨y,_,rfl⟩:=hq;rw[(q3 _).2.2.1 rfl];exact hv
              · rename_i hne;have hxm:x∈es.toList:=by rw[<-QG] at hq;exact qW hq
                rw[(q3 _).2.2.2]
                · exact hval x hxm
                · intro hxk;have g1:(es.toList.map (·.key))[j]? =some vk:=by rw[qQ,QG,hj];simp[hje]
                  have g2:(es.toList.map (·.key))[q]? =some vk:=by rw[qQ,QG,hq];simp[hxk]
                  obtain⟨g3,g4⟩:=qZ.1 g1;obtain⟨g5,g6⟩:=qZ.1 g2;rcases ji j q with h|h|h
                  · exact Qd.1 hnd j q g3 g5 h (g4.trans g6.symm)
                  · exact hne h
                  · exact Qd.1 hnd q j g5 g3 h (g6.trans g4.symm)
            · simp[Instr.mapUpdate,qE e2,QS hbk,hK.chk,hfn,hj,hje,hK.stays,j0 _ hbk,Result.andThen]
        · exact h.elim
      · exact h.elim
    · exact h.elim
  · exact h.elim
def zeroB_run {P:Program}{t:TypeId}(h:zeroB P t=true)(w:World):(zeroValue t).run P w= .ok (.bool false) w:=by
 unfold zeroB at h
 cases hi:P.info? t with
 |none=>simp[hi] at h
 |some i=>
  cases hz:i.zero with
  |none=>simp[hi,hz] at h
  |some z=>
   simp only[hi,jC,hz] at h
   split at h
   ·rename_i heq
    cases heq
    simp[zeroValue,typeInfo,hi,hz]
   ·cases h
def mlookK_ok {X : Cx} {β : Env} {H : AH} {w : World} (hS : St X β H w) {t : TypeId} {sm sk : SV} {vm vk : Value} {ok : Bool} {k : SV -> AH -> Prop} (h : mlookK X.P H t sm sk ok k)
    (hm:den β sm vm) (hkd:den β sk vk):
    ∃v,(Instr.lookup t vm vk ok).run X.P w= .ok v w/\Aft X β H w k v w:=by
  unfold mlookK at h
  split at h
  · rename_i id kk
    split at h
    · rename_i c F kt et hf hkd1
      split at h
      · rename_i own ks hr
        split at h
        · rename_i b hhas;obtain⟨⟨rfl,hkk,hok,hokt,hokd,hz⟩,hk⟩:=h;have hl:=zy hf hkk;rw[hr] at hl;simp only[den] at hm;obtain⟨L,hb,rfl⟩:=hm;obtain⟨L',bb,hq,hbk,es,clk,rfl,hes,hval⟩:=hS.holds _ _ _ hl;rw[hb] at hq
          cases hq
          obtain⟨inf,d0,e1,e2,e3⟩:=z1k hok;rw[e3] at hkd1;have:=kdOf_map hkd1;subst this;obtain⟨⟨d,hd,hisk,hfind⟩,_⟩:=key_find hhas hokt hokd hkd hes;refine⟨.bool b,?_,⟨β,.bool b,H,hk,rfl,trivial,hS,Env.agree.refl _ _,qd _,Sub.refl _⟩⟩;rcases hfind with⟨rfl,hfn⟩|⟨rfl,j,e,hfn,hj,hje⟩
          · simp[Instr.lookup,qE e2,QS hbk,jg hd hisk,jz hd hfn,zeroB_run hz,Result.andThen]
          · have hv : e.val = .bool true := hval e (by have : es.toList[j]? = some e := by simpa using hj
                                                       exact qW this)
            simp[Instr.lookup,qE e2,QS hbk,jg hd hisk,jz hd hfn,hv,Result.andThen]
        · exact h.elim
      · rename_i own M hr
        split at h
        · rename_i b s hget;obtain⟨⟨hkk,hok,hokt,hokd,hokP,hz⟩,hk⟩:=h;have hl:=zy hf hkk;rw[hr] at hl;simp only[den] at hm;obtain⟨L,hb,rfl⟩:=hm;obtain⟨L',bb,hq,hbk,es,clk,rfl,hn,hnd,hhas,hval,hzero⟩:=hS.holds _ _ _ hl;rw[hb] at hq
          cases hq
          obtain⟨inf,d0,e1,e2,e3⟩:=z1k hok;rw[e3] at hkd1;have:=kdOf_map hkd1;subst this;obtain⟨rfl,rfl,hK⟩:=mapo_find hget hokt hokd hokP hkd hhas;have hfind:=hK.find;obtain⟨z0,hz0,hz1⟩:=zeroS_run hz;have hlv:=(hS.lt _ _ _ hl).2.2 vk
          have fin:∀v,den β (M.val vk) v->(Instr.lookup t (.map (some L.blk)) vk ok).run X.P w= .ok (if ok then .tuple #[v,.bool (M.has vk)] else v) w->∃v,(Instr.lookup t (.map (some L.blk)) vk ok).run X.P w= .ok v w/\Aft X β H w k v w:=fun v hv hrun=>by
            refine⟨_,hrun,⟨β,_,H,hk,?_,?_,hS,Env.agree.refl _ _,qd _,Sub.refl _⟩⟩
            · cases ok
              · exact hv
              · exact⟨[v,.bool (M.has vk)],⟨v,_,hv,⟨_,_,rfl,rfl,rfl⟩,rfl⟩,rfl⟩
            · cases ok
              · exact hlv
              · exact⟨hlv,trivial,trivial⟩
          rcases hfind with⟨hb0,hfn⟩|⟨hb0,j,e,hfn,hj,hje⟩
          · refine fin z0 (hzero vk hb0 z0 (by rw[hz1];exact ofConst_den _ _)) ?_;rw[hb0]
            cases ok<;>simp[Instr.lookup,qE e2,QS hbk,hK.chk,hfn,hz0,Result.andThen]
          · have hem:e∈es.toList:=by
              have:es.toList[j]? =some e:=by simpa using hj
              exact qW this
            refine fin e.val (by rw[<-hje];exact hval e hem) ?_;rw[hb0]
            cases ok<;>simp[Instr.lookup,qE e2,QS hbk,hK.chk,hfn,Result.andThen]
        · exact h.elim
      · exact h.elim
    · exact h.elim
  · exact h.elim
end Go.Sk
namespace Go.Sk
open Go.RowKit Go.Lib
def growK (P:Program)(H:AH)(t t':TypeId)(s:SV)(n:Int)(k:SV->AH->Prop):Prop:=
 match s with
 |.nils=>
  match(z1o P t).kd,(z1o P t').kd with
  |.slice e,.int _=>((z1o P t).ok=true/\(z1o P t').ok=true/\(z1o P e).ok=true/\z2m P e≠0/\(z3d P e).map List.length=some (z2m P e)/\1<=n/\n<=1073741824/\(z1o P e).bytes<=1024)/\
    k (.slc true H.nxt 0 0 n.toNat) ⟨H.nxt+1,(H.nxt,uQ (.row ⟨true,false,e,z2m P e,0,fun _=>[]⟩))::H.os⟩
  |_,_=>False
 |_=>False
def growK_ok {X:Cx}{β:Env}{H:AH}{w:World}(hS:St X β H w){t t' ty:TypeId}{kx:IntKind}{s:SV}{n:Int}{vs:Value}{k:SV->AH->Prop}(h:growK X.P H t t' s n k)(hs:den β s vs):
  ∃v' w',(Builtin.append_ #[t,t'] ty #[vs,.int kx n]).run X.P w= .ok v' w'/\Aft X β H w k v' w'/\Blw w.heap.size w w':=by
 unfold growK at h
 split at h
 ·split at h
  ·rename_i e kn hkd hkd';obtain⟨⟨hok,hok',hoke,hsz,hzl,h1,hbig,hby⟩,hk⟩:=h;simp only[den] at hs;subst hs;obtain⟨inf,d,e1,e2,e3⟩:=z1k hok;rw[e3] at hkd;have:=z2z hkd;subst this;obtain⟨inf',d',f1,f2,f3⟩:=z1k hok';rw[f3] at hkd';have:=kdOf_int hkd';subst this;obtain⟨ei,de,e4,e5,e6⟩:=z1k hoke;have hei2:ei.size=z2m X.P e:=by unfold z2m;simp[e4]
   rw[e6] at hby;have hby':ei.bytes<=1024:=hby
   have hzz:∃zv,ei.zero=some zv/\zv.cells.size=ei.size:=by
    unfold z3d at hzl;simp only[e4,jC] at hzl
    cases hz0:ei.zero with
    |none=>simp[hz0] at hzl
    |some zv=>simp[hz0] at hzl;exact⟨zv,rfl,by omega⟩
   obtain⟨zv,hzv,hzs⟩:=hzz;obtain⟨m,rfl⟩:∃m:Nat,n=m:=⟨n.toNat,by omega⟩;have hmb:m*ei.bytes<=1073741824*1024:=j9 (by omega) hby';have hr:=run_append_grow_zeros (P:=X.P) w t t' ty e ei zv kx kn e2 f2 e4 hzv none 0 0 [] (run_firstCells_none w.drew ei.size 0 0 0) m (by omega) (by rw[hei2];omega) (by omega) (by omega) (by omega) (growslice_fits (by omega) (by rw[QE];omega));have hB:Blw w.heap.size w (w.drew.alloc (.cells (([]:List Value).toArray++Builtin.zeroCells zv.cells m++Builtin.zeroCells zv.cells (grownCap w (0+m) 0 e-(0+m))) e)):=(Blw.refl _ w).drew.alloc (qd _) _;refine⟨_,_,hr,?_,hB⟩;have hge:=grownCap_ge w (0+m) 0 e;have hle:=grownCap_le_maxLen w (0+m) 0 e (by unfold maxLen;omega)
   generalize hG:grownCap w (0+m) 0 e=G at hge hle hB ⊢
   have hag:=Env.agree_set β H.nxt (fun _=>some ⟨w.heap.size,0,z2m X.P e,G⟩);refine⟨β.set H.nxt (fun _=>some ⟨w.heap.size,0,z2m X.P e,G⟩),_,_,hk,?_,Qp _,?_,hag,QH _,sub_cons _ _ _ fun _ _ _ h=>h⟩
   ·simp only[den,z56,q9];refine .inr ⟨_,G,by unfold Env.set;rw[qe rfl],trivial,rfl,by simp;omega,qd _,?_⟩;simp
   ·refine St.new hS hB (fun k L _ he=>by cases he;exact qd _) (fun k k' _ _ h h' _ _ _=>by omega) (fun k _=> ?_) (fun k _=>fun i j s hi _=>absurd hi (qI _));refine row_holds (cs:=[]) (vs:=[]) (jS w.drew _) ?_ (ql _) hle (fun j hj=>by omega) (by trivial) (fun s hs=>by cases hs) (fun i hi=>absurd hi (qI _));simp only[JV,size_zeroCells,hzs];simp only[JX,JH,QE];rw[<-qV,hei2]
    congr 1;omega
  ·exact h.elim
 ·exact h.elim
def capK (P:Program)(t:TypeId)(s:SV)(H:AH)(k:SV->AH->Prop):Prop:=
 match s with
 |.nils=>((∃e,(z1o P t).kd= .slice e)/\(z1o P t).ok=true)/\k (.int .i64 0) H
 |_=>False
def capK_ok {X:Cx}{β:Env}{H:AH}{w:World}(hS:St X β H w){t ty:TypeId}{s:SV}{vs:Value}{k:SV->AH->Prop}(h:capK X.P t s H k)(hs:den β s vs):
  ∃v',(Builtin.cap_ #[t] ty #[vs]).run X.P w= .ok v' w/\Aft X β H w k v' w:=by
 unfold capK at h
 split at h
 ·obtain⟨⟨⟨e,hkd⟩,hok⟩,hk⟩:=h;simp only[den] at hs;subst hs;obtain⟨inf,d,e1,e2,e3⟩:=z1k hok;rw[e3] at hkd;have:=z2z hkd;subst this;exact⟨goInt 0,by simp[Builtin.cap_,qE e2],β,_,H,hk,rfl,trivial,hS,Env.agree.refl _ _,qd _,Sub.refl _⟩
 ·exact h.elim
end Go.Sk
namespace Go.Sk
open Go.RowKit
def Ent (P:Program)(f:FuncId):Prop:=∀as1 w,(callFunc f as1).run P w= .ok (.enter f as1) w
def Does (P:Program)(f:FuncId)(as1:Array Value)(w:World)(Q:Ending->World->Prop):Prop:=
 (Ent P f/\Calls P f as1 w Q)\/∃v w',(callFunc f as1).run P w= .ok (.value v) w'/\Q (.returned v) w'
def Does.mono {P:Program}{f:FuncId}{as1:Array Value}{w:World}{Q Q':Ending->World->Prop}(h:Does P f as1 w Q)(hq:∀e w',Q e w'->Q' e w'):Does P f as1 w Q':=by
 rcases h with⟨h1,h2⟩|⟨v,w',h1,h2⟩
 ·exact .inl ⟨h1,h2.mono hq⟩
 ·exact .inr ⟨v,w',h1,hq _ _ h2⟩
def Does.calls {P:Program}{f:FuncId}{as1:Array Value}{w:World}{Q:Ending->World->Prop}(he:Ent P f)(h:Does P f as1 w Q):Calls P f as1 w Q:=by
 rcases h with⟨_,h2⟩|⟨v,w',h1,_⟩
 ·exact h2
 ·rw[he] at h1;cases h1
def ASpec (P:Program)(f:FuncId)(args:List SV)(H:AH)(Wc:List Nat)(R:SV->AH->Prop):Prop:=
 ∀(X:Cx) (β:Env) (w:World) (vs:List Value),X.P=P->St X β H w->z2u β args vs->SV.ltL H.nxt args->
  Does P f vs.toArray w fun e w'=> ∃v,e= .returned v/\Aft X β H w R v w'/\Kp w (inW β H Wc) w'
def callK (P:Program)(f:FuncId)(args:List SV)(H:AH)(dr:Bool)(W:List Nat)(k:SV->AH->Prop):Prop:=
 ∃Wc R,ASpec P f args H Wc R/\(dr=true->∀id,id∈Wc->id∈W)/\∀s H',R s H'->k s H'
def Kp.mono {w w':World}{B B':Nat->Prop}(h:Kp w B w')(hb:∀b,B b->B' b):Kp w B' w':=⟨h.1,fun b hl hn=>h.2 b hl fun hB=>hn (hb b hB)⟩
def Kp.of_below {w w':World}{B:Nat->Prop}(h:Blw w.heap.size w w'):Kp w B w':=⟨h.size,fun b hl _=>h.block b hl⟩
def inW.mono {β:Env}{H:AH}{W W':List Nat}(h:∀id,id∈W->id∈W'){b:Nat}(hb:inW β H W b):inW β H W' b:=by
 obtain⟨id,k,o,L,h1,h2⟩:=hb;exact⟨id,k,o,L,h _ h1,h2⟩
def eop (P:Program)(m0:Nat)(dr:Bool)(W:List Nat)(H:AH)(fr:Fr)(op:Op)(k:SV->AH->Prop):Prop:=
 match op with
 |.alloc e=>allocK P H e k
 |.box e x=>z5k fr true x fun s=>boxK H e s k
 |.buildSlice t len ps=>partsK fr true ps.toList fun ss=>bsliceK P H t len ss k
 |.store t x y=>z5k fr true x fun sa=>z5k fr true y fun sv=>storeK P H dr W t sa sv k
 |.makeSlice t l c=>z5k fr true l fun sl=>z5k fr true c fun sc=>mkK P H t sl sc k
 |.makeMap t r=>match r with
  |none=>mmapK P H t k
  |some x=>z5k fr true x fun sx=>match sx with
   |.int _ _=>mmapK P H t k
   |_=>False
 |.mapUpdate t m y x=>z5k fr true m fun sm=>z5k fr true y fun sy=>z5k fr true x fun sx=>mputK P H dr W t sm sy sx k
 |.insert t m y x=>z5k fr true m fun sm=>z5k fr true y fun sy=>z5k fr true x fun sx=>mputK P H dr W t sm sy sx k
 |.lookup t m y ok=>z5k fr true m fun sm=>z5k fr true y fun sy=>mlookK P H t sm sy ok k
 |.call c=>
  match c.callee,c.args,c.argTypes with
  |.builtin .append,⟨[x,y]⟩,⟨[t,t']⟩=>z5k fr true x fun sx=>z5k fr true y fun sy=>
   match sy with
   |.int _ n=>growK P H t t' sx n k
   |_=>appendK P m0 dr W H t t' sx sy k
  |.builtin .cap,⟨[x]⟩,⟨[t]⟩=>z5k fr true x fun sx=>capK P t sx H k
  |.builtin .copy,⟨[x,y]⟩,⟨[t,_]⟩=>z5k fr true x fun sx=>z5k fr true y fun sy=>copyK P H dr W t sx sy k
  |.builtin .clear,⟨[x]⟩,⟨[t]⟩=>z5k fr true x fun sx=>clearK P H dr W t sx k
  |.value f,args,_=>z5k fr true f fun sf=>opdsK fr true args.toList fun as1=>
   match sf with
   |.fn fid cap=>callK P fid (as1++cap) H dr W k
   |_=>False
  |_,_,_=>False
 |_=>False
def EPost (X:Cx)(β:Env)(H:AH)(w:World)(W:List Nat)(dr:Bool)(d:Option Tmp)(a:Act)(k:SV->AH->Prop)(a':Act)(w':World):Prop:=
 ∃v,a'=a.put d v/\Aft X β H w k v w'/\(dr=true->Kp w (inW β H W) w')
def eop_ok {X:Cx}{β:Env}{H:AH}{w:World}(hS:St X β H w){W:List Nat}{dr:Bool}{fr:Fr}{a:Act}(hF:FrOk X β H.nxt fr a){o:Oper}{k:SV->AH->Prop}(h:eop X.P X.m0 dr W H fr o.op k){Q:Exit->Act->World->Prop}:
  o.wp X.P a w (EPost X β H w W dr o.dst a k) Q:=by
 have val:∀(e:Sem Value) (v:Value) (w':World),execOp a.eval o=(do pure (.value (<-e)))->e.run X.P w= .ok v w'->Aft X β H w k v w'->(dr=true->Kp w (inW β H W) w')->o.wp X.P a w (EPost X β H w W dr o.dst a k) Q:=fun e v w' he hr hA hK=>by
  unfold Oper.wp;rw[he];simp only[qM,hr,qA,Qh,Oper.upon];exact⟨v,rfl,hA,hK⟩
 unfold eop at h
 split at h
 ·rename_i e hop;obtain⟨v,w',hr,hA,hB⟩:=allocK_ok hS h;exact val _ v w' (by simp only[execOp,hop]) hr hA fun _=> .of_below hB
 ·rename_i e x hop;obtain⟨s,h1,hx⟩:=z1i hF h;obtain⟨v,w',hr,hA,hB⟩:=boxK_ok hS h1 (hx rfl).1 (hx rfl).2;exact val _ v w' (by simp only[execOp,hop]) hr hA fun _=> .of_below hB
 ·rename_i t len ps hop;obtain⟨ss,h1,he,hs⟩:=partsK_ok hF h;obtain⟨v,w',hr,hA,hB⟩:=bsliceK_ok (pv:=(ps.toList.map fun p=>(p.1,a.eval p.2))) hS h1 (by rw[he,j8];rfl) (by rw[j8];exact(hs rfl).1) (hs rfl).2;refine val _ v w' ?_ hr hA fun _=> .of_below hB;simp only[execOp,hop]
  have:(ps.map fun x=>(x.1,a.eval x.2))=(ps.toList.map fun p=>(p.1,a.eval p.2)).toArray:=by
   rw[<-jo]
  rw[<-this]
 ·rename_i t x y hop;obtain⟨sa,h1,hx⟩:=z1i hF h;obtain⟨sv,h2,hy⟩:=z1i hF h1;obtain⟨w',hr,hA,hK⟩:=storeK_ok hS h2 (hx rfl).1 (hy rfl).1 (hy rfl).2;unfold Oper.wp;simp only[execOp,hop,qM,hr,qA,Qh,Oper.upon];exact⟨undef,rfl,hA,hK⟩
 ·rename_i t l c hop;obtain⟨sl,h1,hl⟩:=z1i hF h;obtain⟨sc,h2,hc⟩:=z1i hF h1;obtain⟨v,w',hr,hA,hB⟩:=mkK_ok hS h2 (hl rfl).1 (hc rfl).1;exact val _ v w' (by simp only[execOp,hop]) hr hA fun _=> .of_below hB
 ·rename_i t r hop
  split at h
  ·obtain⟨v,w',hr,hA,hB⟩:=mmapK_ok hS (.inl rfl) h;exact val _ v w' (by simp only[execOp,hop,Option.map_none]) hr hA fun _=> .of_below hB
  ·rename_i x;obtain⟨sx,h1,hx⟩:=z1i hF h
   split at h1
   ·rename_i kd n;have hxe:=(hx rfl).1;simp only[den] at hxe;obtain⟨v,w',hr,hA,hB⟩:=mmapK_ok (r:=some (a.eval x)) hS (.inr ⟨kd,n,by rw[hxe]⟩) h1;exact val _ v w' (by simp only[execOp,hop,jj]) hr hA fun _=> .of_below hB
   ·exact h1.elim
 ·rename_i t m y x hop;obtain⟨sm,h1,hm⟩:=z1i hF h;obtain⟨sy,h2,hy⟩:=z1i hF h1;obtain⟨sx,h3,hx⟩:=z1i hF h2;obtain⟨w',hr,hA,hK⟩:=mputK_ok hS h3 (hm rfl).1 (hy rfl).1 (hx rfl).1 (hx rfl).2;unfold Oper.wp;simp only[execOp,hop,qM,hr,qA,Qh,Oper.upon];exact⟨undef,rfl,hA,hK⟩
 ·rename_i t m y x hop;obtain⟨sm,h1,hm⟩:=z1i hF h;obtain⟨sy,h2,hy⟩:=z1i hF h1;obtain⟨sx,h3,hx⟩:=z1i hF h2;obtain⟨w',hr,hA,hK⟩:=mputK_ok hS h3 (hm rfl).1 (hy rfl).1 (hx rfl).1 (hx rfl).2;unfold Oper.wp;simp only[execOp,hop,qM,hr,qA,Qh,Oper.upon];exact⟨undef,rfl,hA,hK⟩
 ·rename_i t m y b hop;obtain⟨sm,h1,hm⟩:=z1i hF h;obtain⟨sy,h2,hy⟩:=z1i hF h1;obtain⟨v,hr,hA⟩:=mlookK_ok hS h2 (hm rfl).1 (hy rfl).1;exact val _ v w (by simp only[execOp,hop]) hr hA fun _=>Kp.refl _ _
 ·rename_i c hop
  split at h
  ·rename_i x y t t' hc1 hc2 hc3;obtain⟨sx,h1,hx⟩:=z1i hF h;obtain⟨sy,h2,hy⟩:=z1i hF h1
   have fin:(∃v w',(Builtin.append_ #[t,t'] o.type #[a.eval x,a.eval y]).run X.P w= .ok v w'/\Aft X β H w k v w'/\(dr=true->Kp w (inW β H W) w'))->o.wp X.P a w (EPost X β H w W dr o.dst a k) Q:=by
    rintro⟨v,w',hr,hA,hK⟩;unfold Oper.wp;simp only[execOp,hop,resolve,hc1,hc2,hc3,qM,Qh,qA,invoke,builtin,jo,q8,QU,hr,Oper.upon];exact⟨v,rfl,hA,hK⟩
   split at h2
   ·rename_i kx n;have hye:=(hy rfl).1;simp only[den] at hye;obtain⟨v,w',hr,hA,hB⟩:=growK_ok (ty:=o.type) (kx:=kx) hS h2 (hx rfl).1;exact fin ⟨v,w',by rw[hye];exact hr,hA,fun _=> .of_below hB⟩
   ·exact fin (appendK_ok (ty:=o.type) hS h2 (hx rfl).1 (hy rfl).1)
  ·rename_i x t hc1 hc2 hc3;obtain⟨sx,h1,hx⟩:=z1i hF h;obtain⟨v,hr,hA⟩:=capK_ok (ty:=o.type) hS h1 (hx rfl).1;unfold Oper.wp;simp only[execOp,hop,resolve,hc1,hc2,hc3,qM,Qh,qA,invoke,builtin,jo,q8,QU,hr,Oper.upon];exact⟨v,rfl,hA,fun _=>Kp.refl _ _⟩
  ·rename_i x y t t' hc1 hc2 hc3;obtain⟨sx,h1,hx⟩:=z1i hF h;obtain⟨sy,h2,hy⟩:=z1i hF h1;obtain⟨v,w',hr,hA,hK⟩:=copyK_ok (t':=t') (ty:=o.type) hS h2 (hx rfl).1 (hy rfl).1;unfold Oper.wp;simp only[execOp,hop,resolve,hc1,hc2,hc3,qM,Qh,qA,invoke,builtin,jo,q8,QU,hr,Oper.upon];exact⟨v,rfl,hA,hK⟩
  ·rename_i x t hc1 hc2 hc3;obtain⟨sx,h1,hx⟩:=z1i hF h;obtain⟨v,w',hr,hA,hK⟩:=clearK_ok (ty:=o.type) hS h1 (hx rfl).1;unfold Oper.wp;simp only[execOp,hop,resolve,hc1,hc2,hc3,qM,Qh,qA,invoke,builtin,jo,q8,QU,hr,Oper.upon];exact⟨v,rfl,hA,hK⟩
  ·rename_i f args hc1;obtain⟨sf,h1,hf⟩:=z1i hF h;obtain⟨as1,h2,ha⟩:=opdsK_ok hF h1
   split at h2
   ·rename_i fid cap;obtain⟨Wc,R,hsp,hW,hR⟩:=h2;have hfd:=(hf rfl).1;have hfl:=(hf rfl).2;simp only[den,SV.lt] at hfd hfl;obtain⟨cvs,hcv,hfe⟩:=hfd
    have hargs:c.args.map a.eval++cvs.toArray=((c.args.toList.map a.eval)++cvs).toArray:=by
     apply Array.ext';simp
    have hC:=hsp X β w ((c.args.toList.map a.eval)++cvs) rfl hS (denL_append (ha rfl).1 hcv) (SV.ltL_of_get fun j s hs=>by
     rcases Qa.1 (qW hs) with hm|hm
     ·obtain⟨q,hq⟩:=Qr hm;exact SV.ltL_get (ha rfl).2 q s hq
     ·obtain⟨q,hq⟩:=Qr hm
      exact SV.ltL_get hfl q s hq)
    unfold Oper.wp
    have hex:(execOp a.eval o).run X.P w=(callFunc fid ((c.args.toList.map a.eval)++cvs).toArray).run X.P w:=by
     simp only[execOp,hop,resolve,hc1,qM,hfe,Deferred.ofValue,Qh,qA,invoke,Array.empty_append];rw[hargs]
    rw[hex];rcases hC with⟨hent,hC⟩|⟨v,w',hrun,hp⟩
    ·rw[hent];simp only[Oper.upon];refine hC.mono fun e w' ⟨v,he,hA,hK⟩=> ?_;subst he;obtain⟨β',s,H',hr,q⟩:=hA;exact⟨v,rfl,⟨β',s,H',hR _ _ hr,q⟩,fun hdr=>hK.mono fun b hb=>hb.mono (hW hdr)⟩
    ·rw[hrun];simp only[Oper.upon];obtain⟨v',he,hA,hK⟩:=hp
     cases he
     obtain⟨β',s,H',hr,q⟩:=hA;exact⟨v,rfl,⟨β',s,H',hR _ _ hr,q⟩,fun hdr=>hK.mono fun b hb=>hb.mono (hW hdr)⟩
   ·exact h2.elim
  ·exact h.elim
 ·exact h.elim
def isQ:Op->Bool
 |.move _| .assign _| .pick .. | .load .. | .nilCheck _| .binOp .. | .unOp .. | .convert .. | .fieldAddr .. | .field .. | .indexAddr .. | .index .. | .slice .. | .extract .. | .makeFunc .. | .build .. | .makeInterface .. =>true
 |.call {callee:= .builtin .len,..}| .call {callee:= .builtin .max,..}| .call {callee:= .builtin .min,..}=>true
 |_=>false
def grdK (ops:Array Oper)(fr:Fr)(g:Nat×Bool)(k:Bool->Prop):Prop:=
 match ops[g.1]? with
 |some o=>
  match o.dst with
  |some t=>
   match get fr t with
   |some (.bool b)=>k (b==g.2)
   |some (.gd g' (.bool b))=>k (g' && (b==g.2))
   |_=>False
  |none=>False
 |none=>False
def stp (P:Program)(wr:Bool)(m0:Nat)(dr:Bool)(W Wq:List Nat)(ops:Array Oper)(o:Oper)(fr:Fr)(H:AH)(K:Fr->AH->Prop):Prop:=
 match o.guard with
 |none=>if isQ o.op then qop P wr dr H Wq fr true o.op (fun s=>K (put o.dst s fr) H) else eop P m0 dr W H fr o.op (fun s H'=>K (put o.dst s fr) H')
 |some g=>grdK ops fr g fun G=>
  if isQ o.op then qop P wr dr H Wq fr G o.op (fun s=>K (put o.dst (.gd G s) fr) H)
  else(G=true->eop P m0 dr W H fr o.op (fun s H'=>K (put o.dst s fr) H'))/\(G=false->∃s,K (put o.dst (.gd false s) fr) H)
def runL (P:Program)(wr:Bool)(m0:Nat)(ops:Array Oper):List Oper->Fr->AH->(Fr->AH->Prop)->Prop
 |[],fr,H,K=>K fr H
 |o::l,fr,H,K=>stp P wr m0 false [] [] ops o fr H (fun fr' H'=>runL P wr m0 ops l fr' H' K)
def At (X:Cx)(K:Fr->AH->Prop)(a:Act)(w:World):Prop:=∃β fr H,K fr H/\FrOk X β H.nxt fr a/\St X β H w
def grdK_ok {X:Cx}{β:Env}{m:Nat}{fr:Fr}{a:Act}(hF:FrOk X β m fr a){ops:Array Oper}{g:Nat×Bool}{k:Bool->Prop}(h:grdK ops fr g k):
  ∃G,k G/\∀o:Oper,o.guard=some g->Region.wanted o (yielded ops a.tmps)=G:=by
 obtain⟨j,want⟩:=g;unfold grdK at h
 split at h
 ·rename_i oj hoj
  split at h
  ·rename_i t ht
   split at h
   ·rename_i b hg;refine⟨_,h,fun o ho=> ?_⟩;obtain⟨_,v,hv,hd⟩:=hF.get _ _ hg;simp only[den] at hd;subst hd;simp only[Region.wanted,ho,yielded,hoj,jC,ht,hv]
    cases b<;>cases want<;>rfl
   ·rename_i g' b hg;refine⟨_,h,fun o ho=> ?_⟩;obtain⟨_,v,hv,hd⟩:=hF.get _ _ hg;simp only[den] at hd
    cases g' with
    |true=>
     have:=hd.1 rfl;subst this;simp only[Region.wanted,ho,yielded,hoj,jC,ht,hv]
     cases b<;>cases want<;>rfl
    |false=>
     have:=hd.2 rfl;subst this;simp only[Region.wanted,ho,yielded,hoj,jC,ht,hv,undef]
     rfl
   ·exact h.elim
  ·exact h.elim
 ·exact h.elim
def stp_ok {X:Cx}{β:Env}{H:AH}{w:World}(hS:St X β H w){W:List Nat}{dr:Bool}{fr:Fr}{a:Act}(hF:FrOk X β H.nxt fr a){ops:Array Oper}{o:Oper}(hd:∀t,o.dst=some t->t<X.n){K:Fr->AH->Prop}
  (h:stp X.P X.wrap X.m0 dr W [] ops o fr H K) {Q:Exit->Act->World->Prop}:
  if Region.wanted o (yielded ops a.tmps) then o.wp X.P a w (At X K) Q else At X K (a.put o.dst undef) w:=by
 have quiet:∀(G:Bool) (k:SV->Prop),qop X.P X.wrap dr H [] fr G o.op k->∃s,k s/\(G=true->s.lt H.nxt/\∃v,den β s v/\(execOp a.eval o).run X.P w= .ok (.value v) w):=fun G k hq=>by
  obtain⟨s,hk,hg⟩:=qop_ok (C:=fun w'=>w'=w) hS hF (fun _ w' hw'=>by rw[hw'];exact Kp.refl _ _) hq
  exact⟨s,hk,fun hG=>by
   obtain⟨h1,v,h2,h3⟩:=hg hG
   exact⟨h1,v,h2,h3 w rfl⟩⟩
 have eff:∀(k:SV->AH->Prop),(∀s H',k s H'->K (put o.dst s fr) H')->eop X.P X.m0 dr W H fr o.op k->o.wp X.P a w (At X K) Q:=fun k hk he=>by
  refine Ja (fun a' w' hp=> ?_) (eop_ok (Q:=Q) hS hF he);obtain⟨v,rfl,⟨β',s,H',h1,h2,h3,h4,h5,h6,_⟩,_⟩:=hp;exact⟨β',_,H',hk _ _ h1,(hF.agree h6 h5).put hd h3 h2,h4⟩
 unfold stp at h
 split at h
 ·rename_i hg;rw[qe (by simp[Region.wanted,hg])]
  split at h
  ·obtain⟨s,hk,hs⟩:=quiet _ _ h;obtain⟨h1,v,h2,h3⟩:=hs rfl;unfold Oper.wp;rw[h3];exact⟨β,_,H,hk,hF.put hd h1 h2,hS⟩
  ·exact eff _ (fun s H' hk=>hk) h
 ·rename_i g hg;obtain⟨G,hG,hw⟩:=grdK_ok hF h;have hwo:=hw o hg
  split at hG
  ·obtain⟨s,hk,hs⟩:=quiet _ _ hG
   cases G with
   |true=>
    rw[qe hwo];obtain⟨h1,v,h2,h3⟩:=hs rfl;unfold Oper.wp;rw[h3];exact⟨β,_,H,hk,hF.put hd (by simp only[SV.lt];exact fun _=>h1) (by simp only[den];exact⟨fun _=>h2,fun hh=>by cases hh⟩),hS⟩
   |false=>
    rw[qc (by rw[hwo];exact qh)];exact⟨β,_,H,hk,hF.put hd (by simp only[SV.lt];exact fun hh=>by cases hh) (by simp[den]),hS⟩
  ·cases G with
   |true=>
    rw[qe hwo];exact eff _ (fun s H' hk=>hk) (hG.1 rfl)
   |false=>
    rw[qc (by rw[hwo];exact qh)];obtain⟨s,hs⟩:=hG.2 rfl;exact⟨β,_,H,hs,hF.put hd (by simp only[SV.lt];exact fun hh=>by cases hh) (by simp[den]),hS⟩
def dstOk (n:Nat)(l:List Oper):Bool:=l.all fun o=>match o.dst with|some t=>decide (t<n)|none=>true
def dstOk_spec {n:Nat}{l:List Oper}(h:dstOk n l=true){o:Oper}(ho:o∈l):∀t,o.dst=some t->t<n:=fun t ht=>by
 have:=qu.1 h o ho;simp only[ht,qm] at this;exact this
def runL_ok {X:Cx}{ops:Array Oper}{K:Fr->AH->Prop}{Q:Exit->Act->World->Prop}(hQ:∀a w,At X K a w->Q .normal a w):∀(l:List Oper),dstOk X.n l=true->∀{β:Env} {H:AH} {w:World} {fr:Fr} {a:Act},St X β H w->FrOk X β H.nxt fr a->runL X.P X.wrap X.m0 ops l fr H K->wpList X.P ops Q l a w
 |[],_,β,H,w,fr,a,hS,hF,h=>wpList_nil (hQ _ _ ⟨β,fr,H,h,hF,hS⟩)
 |o::l,hd,β,H,w,fr,a,hS,hF,h=>by
  have hd':dstOk X.n l=true:=by simp only[dstOk,JT,qj] at hd ⊢;exact hd.2
  refine wpList_step fun K' hK'=> ?_;have:=stp_ok (Q:=Q) hS hF (dstOk_spec hd (qo ..)) h;have next:∀a w,At X (fun fr' H'=>runL X.P X.wrap X.m0 ops l fr' H' K) a w->K' a w:=fun a w ⟨β',fr',H',hr,hF',hS'⟩=>hK' _ _ (runL_ok hQ l hd' hS' hF' hr)
  split at this
  ·rename_i hw;rw[qe hw];exact Ja next this
  ·rename_i hw;rw[qc hw];exact next _ _ this
section
def getD_down {listed:Array Bool}{i:Nat}(h:listed.getD i true=false):listed.getD i false=false:=by
 rcases Qo i listed.size with h'|h'
 ·simp[h'] at h ⊢;exact h
 ·simp[QL h'] at h
section
variable {P:Program} {ops:Array Oper} {Q:Exit->Act->World->Prop}
def Closed (ops:Array Oper)(listed:Array Bool):Prop:=
 ∀(j:Nat) (oj:Oper),ops[j]? =some oj->listed.getD j false=true->∀e∈oj.after,Region.binds .any e=true->listed.getD e.on false=true
def Closed.set {listed:Array Bool}(h:Closed ops listed){i:Nat}(hi:i∈Region.ready .any ops listed):Closed ops (listed.setIfInBounds i true):=by
 obtain⟨_,oi,hoi,hall⟩:=JR.1 hi;intro j oj hj hl e he hb
 by_cases hij:i=j
 ·subst hij;have:oj=oi:=jJ (hj.symm.trans hoi);subst this;exact getD_set_true (hall e he hb)
 ·rw[getD_set_ne false hij] at hl;exact getD_set_true (h j oj hj hl e he hb)
def afterOk (ops:Array Oper)(A:List (List Nat)):Bool:=
 (List.range ops.size).all fun j=>
  match ops[j]? with
  |some o=>(A.getD j []).all fun i=>o.after.any fun e=>Region.binds .any e && decide (e.on<j) && (e.on==i||(A.getD e.on []).contains i)
  |none=>true
def afterOk_listed {A:List (List Nat)}(hA:afterOk ops A=true){listed:Array Bool}(hc:Closed ops listed):
  ∀(n j:Nat),j<n->∀o,ops[j]? =some o->(∀e∈o.after,Region.binds .any e=true->listed.getD e.on false=true)->∀i,i∈A.getD j []->listed.getD i false=true
 |0,_,h,_,_,_,_,_=>by omega
 |n+1,j,hj,o,ho,hall,i,hi=>by
  have hjs:j<ops.size:=(q7.1 ho).1;have h1:=qu.1 hA j (Qu.2 hjs);simp only[ho] at h1;have h2:=qu.1 h1 i hi;obtain⟨e,he,hb⟩:=Array.any_eq_true'.1 h2;simp only[qj,qt,qm,qD] at hb;obtain⟨⟨hb1,hlt⟩,h3⟩:=hb;have hl:=hall e he hb1;rcases h3 with h3|h3
  ·rw[<-h3];exact hl
  ·have hes:e.on<ops.size:=by omega
   have hoe:ops[e.on]? =some ops[e.on]:=Jl hes;exact afterOk_listed hA hc n e.on (by omega) _ hoe (fun e' he' hb'=>hc _ _ hoe hl e' he' hb') i (by simpa using h3)
def wpAnyG (P:Program)(ops:Array Oper)(Q:Exit->Act->World->Prop)(S:Nat->World->World->Prop)(isq:Nat->Bool):Nat->Array Bool->Act->World->Prop
 |0,listed,a,w=>Region.ready .any ops listed=[]/\Q .normal a w
 |fuel+1,listed,a,w=>
  (Region.ready .any ops listed=[]->Q .normal a w)/\
  ∀i∈Region.ready .any ops listed,wpOp P ops Q i (fun a' w'=>((isq i=true->w'=w)/\S i w w')/\wpAnyG P ops Q S isq fuel (listed.setIfInBounds i true) a' w') a w
def wpAny_of_G {S:Nat->World->World->Prop}{isq:Nat->Bool}:∀(fuel:Nat) (listed:Array Bool) (a:Act) (w:World),wpAnyG P ops Q S isq fuel listed a w->wpAny P .any ops Q fuel listed a w
 |0,_,_,_,h=>h
 |fuel+1,_,_,_,h=>⟨h.1,fun i hi=>wpOp_mono (fun a' w' h'=>wpAny_of_G fuel _ a' w' h'.2) (h.2 i hi)⟩
def wpAnyG_first {S : Nat -> World -> World -> Prop} {T : World -> Prop} {isq : Nat -> Bool} {i : Nat} {oi : Oper} {v : Value} (hi : ops[i]? = some oi) (hq : isq i = true) (hsel : ∀ (j : Nat) (o : Oper) cs b, ops[j]? = some o -> o.op ≠ .select cs b)
    (hQ:∀c a w,Q (.panic c) (a.put oi.dst v) w->Q (.panic c) a w)
    (hkeep:∀listed,Closed ops listed->listed.getD i true=false->∀j∈Region.ready .any ops listed,j≠i->∀w1 w2,T w1->(isq j=true->w2=w1)->S j w1 w2->T w2) (hS:∀w,S i w w):
    ∀(fuel:Nat) (listed:Array Bool) (a:Act) (w:World),Closed ops listed->
      (∀(j:Nat) (oj:Oper),ops[j]? =some oj->j≠i->listed.getD j true=false->(∀e∈oj.after,Region.binds .any e=true->e.on≠i)->oi.apart ops oj=true)->
      i∈Region.ready .any ops listed->YieldsIf P ops T oi v a->T w->
      wpAnyG P ops Q S isq fuel (listed.setIfInBounds i true) (a.put oi.dst v) w->wpAnyG P ops Q S isq (fuel+1) listed a w:=by
  intro fuel
  induction fuel with
  |zero=>
    intro listed a w _ _ hr hy hT H;refine⟨fun h=>(by rw[h] at hr;cases hr),fun j hj=> ?_⟩
    by_cases hji:j=i
    · subst hji;exact hy.wpOp hi hT ⟨⟨fun _=>rfl,hS w⟩,H⟩
    · have:=ready_mono hj hji;rw[H.1] at this
      cases this
  |succ fuel ih=>
    intro listed a w hcl hfree hr hy hT H;refine⟨fun h=>(by rw[h] at hr;cases hr),fun j hj=> ?_⟩
    by_cases hji:j=i
    · subst hji;exact hy.wpOp hi hT ⟨⟨fun _=>rfl,hS w⟩,H⟩
    · have h1:=H.2 j (ready_mono hj hji);obtain⟨hjun,oj,hoj,hall⟩:=JR.1 hj;have hiun:=(JR.1 hr).1
      have hnot:∀e∈oj.after,Region.binds .any e=true->e.on≠i:=fun e he hb heq=>by
        have h2:=hall e he hb;rw[heq] at h2;rcases Qo i listed.size with h'|h'
        · simp[h'] at hiun h2;rw[hiun] at h2;cases h2
        · simp[QL h'] at h2
      have h2:=wpOp_putIf hoj (hfree j oj hoj hji hjun hnot) (fun cs b=>hsel i oi cs b hi) (fun cs b=>hsel j oj cs b hoj) hQ hy h1
      have hfree' : ∀ (k : Nat) (ok : Oper), ops[k]? = some ok -> k ≠ i -> (listed.setIfInBounds j true).getD k true = false ->
          (∀e∈ok.after,Region.binds .any e=true->e.on≠i)->oi.apart ops ok=true:=fun k ok hk hki hun hno=>by
        refine hfree k ok hk hki ?_ hno
        by_cases hjk:j=k
        · subst hjk;exact hjun
        · rw[getD_set_ne true hjk] at hun;exact hun
      refine wpOp_mono (fun a' w' h3=>⟨h3.2.1,ih (listed.setIfInBounds j true) a' w' (hcl.set hj) hfree' (ready_mono hr (Qt hji)) h3.1 (hkeep listed hcl hiun j hj hji w w' hT h3.2.1.1 h3.2.1.2) ?_⟩) h2;rw[Array.setIfInBounds_comm _ _ hji];exact h3.2.2
end
def runO (P:Program)(wr:Bool)(m0:Nat)(Wf Uq:List (List Nat))(ops:Array Oper):List (Nat×Oper)->Fr->AH->(Fr->AH->Prop)->Prop
 |[],fr,H,K=>K fr H
 |(i,o)::l,fr,H,K=>stp P wr m0 true (Wf.getD i []) (Uq.getD i []) ops o fr H (fun fr' H'=>runO P wr m0 Wf Uq ops l fr' H' K)
def isLoad:Op->Bool
 |.load .. =>true
 |_=>false
def sched (ops:Array Oper):List (Nat×Oper)->Array Bool->Bool->Bool
 |[],listed,_=>(Region.ready .any ops listed).isEmpty
 |(i,o)::l,listed,dirty=>
  (if isQ o.op then
   if dirty && isLoad o.op then Region.ready .any ops listed==[i]
   else(Region.ready .any ops listed).contains i && Region.free .any ops listed i
  else Region.ready .any ops listed==[i]) && sched ops l (listed.setIfInBounds i true) (dirty|| !isQ o.op)
def effOk (ops:Array Oper)(A Wf Uq:List (List Nat)):Bool:=
 (List.range ops.size).all fun j=>match ops[j]? with
  |some o=>isQ o.op||(List.range ops.size).all fun i=>(A.getD j []).contains i||(Wf.getD j []).all fun id=>(Uq.getD i []).contains id
  |none=>true
def z5j (ops:Array Oper)(j:Nat):Bool:=match ops[j]? with|some o=>isQ o.op|none=>false
def stp_quiet {X:Cx}{β:Env}{H:AH}{w:World}(hS:St X β H w){W Wq:List Nat}{dr:Bool}{fr:Fr}{a:Act}(hF:FrOk X β H.nxt fr a){ops:Array Oper}{o:Oper}(hd:∀t,o.dst=some t->t<X.n){K:Fr->AH->Prop}(hq:isQ o.op=true)
  {C:World->Prop} (hC:((∃t x,o.op= .load t x)\/dr=false)->∀w',C w'->Kp w (inW β H Wq) w') (h:stp X.P X.wrap X.m0 dr W Wq ops o fr H K):
  ∃v fr',YieldsIf X.P ops C o v a/\K fr' H/\FrOk X β H.nxt fr' (a.put o.dst v):=by
 unfold stp at h
 split at h
 ·rename_i hg;rw[qe hq] at h;obtain⟨s,hk,hs⟩:=qop_ok hS hF hC h;obtain⟨h1,v,h2,h3⟩:=hs rfl;exact⟨v,_,.inl ⟨by simp[Region.wanted,hg],h3⟩,hk,hF.put hd h1 h2⟩
 ·rename_i g hg;obtain⟨G,hG,hw⟩:=grdK_ok hF h;have hwo:=hw o hg;rw[qe hq] at hG;obtain⟨s,hk,hs⟩:=qop_ok hS hF hC hG
  cases G with
  |true=>
   obtain⟨h1,v,h2,h3⟩:=hs rfl;exact⟨v,_,.inl ⟨hwo,h3⟩,hk,hF.put hd (by simp only[SV.lt];exact fun _=>h1) (by simp only[den];exact⟨fun _=>h2,fun hh=>by cases hh⟩)⟩
  |false=>
   exact⟨undef,_,.inr ⟨hwo,rfl⟩,hk,hF.put hd (by simp only[SV.lt];exact fun hh=>by cases hh) (by simp[den])⟩
def stp_eff {X:Cx}{β:Env}{H:AH}{w:World}(hS:St X β H w){W Wq:List Nat}{dr:Bool}{fr:Fr}{a:Act}(hF:FrOk X β H.nxt fr a){ops:Array Oper}{o:Oper}(hd:∀t,o.dst=some t->t<X.n){K:Fr->AH->Prop}(hq:isQ o.op=false)
  (h:stp X.P X.wrap X.m0 dr W Wq ops o fr H K) {Q:Exit->Act->World->Prop}:
  if Region.wanted o (yielded ops a.tmps) then o.wp X.P a w (fun a' w'=> ∃β' fr' H',K fr' H'/\FrOk X β' H'.nxt fr' a'/\St X β' H' w'/\Env.agree H.nxt β β'/\H.nxt<=H'.nxt/\Sub H H'/\(dr=true->Kp w (inW β H W) w')) Q
  else∃fr',K fr' H/\FrOk X β H.nxt fr' (a.put o.dst undef):=by
 have eff:∀(k:SV->AH->Prop),(∀s H',k s H'->K (put o.dst s fr) H')->eop X.P X.m0 dr W H fr o.op k->o.wp X.P a w (fun a' w'=> ∃β' fr' H',K fr' H'/\FrOk X β' H'.nxt fr' a'/\St X β' H' w'/\Env.agree H.nxt β β'/\H.nxt<=H'.nxt/\Sub H H'/\(dr=true->Kp w (inW β H W) w')) Q:=fun k hk he=>by
  refine Ja (fun a' w' hp=> ?_) (eop_ok (Q:=Q) hS hF he);obtain⟨v,rfl,⟨β',s,H',h1,h2,h3,h4,h5,h6,h7⟩,h8⟩:=hp;exact⟨β',_,H',hk _ _ h1,(hF.agree h6 h5).put hd h3 h2,h4,h5,h6,h7,h8⟩
 unfold stp at h
 split at h
 ·rename_i hg;rw[qe (by simp[Region.wanted,hg])];rw[qc (by rw[hq];exact qh)] at h;exact eff _ (fun s H' hk=>hk) h
 ·rename_i g hg;obtain⟨G,hG,hw⟩:=grdK_ok hF h;have hwo:=hw o hg;rw[qc (by rw[hq];exact qh)] at hG
  cases G with
  |true=>
   rw[qe hwo];exact eff _ (fun s H' hk=>hk) (hG.1 rfl)
  |false=>
   rw[qc (by rw[hwo];exact qh)];obtain⟨s,hs⟩:=hG.2 rfl;exact⟨_,hs,hF.put hd (by simp only[SV.lt];exact fun hh=>by cases hh) (by simp[den])⟩
def Kp.trans {a b c:World}{B:Nat->Prop}(h:Kp a B b)(h':Kp b B c):Kp a B c:=
 ⟨qR h.1 h'.1,fun k hk hn=>(h'.2 k (Qc hk h.1) hn).trans (h.2 k hk hn)⟩
def runO_ok {X:Cx}{ops:Array Oper}{K:Fr->AH->Prop}{Q:Exit->Act->World->Prop}(hQ:∀a w,At X K a w->Q .normal a w)(hQp:∀c a w,¬Q (.panic c) a w){A Wf Uq:List (List Nat)}
  (hns:Region.noSelect ops=true) (hA:afterOk ops A=true) (hE:effOk ops A Wf Uq=true) {w1:World} {β1:Env} {H1:AH} (hWn:∀j,∀id∈Wf.getD j [],id<H1.nxt):
  ∀(l:List (Nat×Oper)) (listed:Array Bool) (dirty:Bool) {β:Env} {H:AH} {w:World} {fr:Fr} {a:Act},(∀x∈l,ops[x.1]? =some x.2)->dstOk X.n (l.map (·.2))=true->sched ops l listed dirty=true->Closed ops listed->
   St X β H w->FrOk X β H.nxt fr a->(dirty=false->w=w1/\β=β1/\H=H1)->Env.agree H1.nxt β1 β->H1.nxt<=H.nxt->Sub H1 H->
   runO X.P X.wrap X.m0 Wf Uq ops l fr H K->wpAnyG X.P ops Q (fun j w w'=>Kp w (inW β1 H1 (Wf.getD j [])) w') (z5j ops) l.length listed a w
 |[],listed,dirty,β,H,w,fr,a,_,_,hs,_,hS,hF,_,_,_,_,h=>⟨by simpa [sched] using hs,hQ _ _ ⟨β,fr,H,h,hF,hS⟩⟩
 |(i,o)::l,listed,dirty,β,H,w,fr,a,hl,hdst,hs,hcl,hS,hF,hnd,hag,hle,hsub,h=>by
  have hio:ops[i]? =some o:=hl _ (qo ..);have hl':∀x∈l,ops[x.1]? =some x.2:=fun x hx=>hl x (qp _ hx);have hdst':dstOk X.n (l.map (·.2))=true:=by simp only[q8,dstOk,JT,qj] at hdst ⊢;exact hdst.2
  have hdo:∀t,o.dst=some t->t<X.n:=dstOk_spec hdst (by simp);simp only[sched,qj] at hs;obtain⟨hs1,hs2⟩:=hs;simp only[runO] at h
  cases hq:isQ o.op with
  |true=>
   rw[hq] at hs1 hs2;simp only[q9,qS,jl] at hs1 hs2;have hisq:z5j ops i=true:=by unfold z5j;rw[hio];exact hq
   --the rest,once the operation has yielded
   have rest:∀v fr',i∈Region.ready .any ops listed->runO X.P X.wrap X.m0 Wf Uq ops l fr' H K->FrOk X β H.nxt fr' (a.put o.dst v)->wpAnyG X.P ops Q (fun j w w'=>Kp w (inW β1 H1 (Wf.getD j [])) w') (z5j ops) l.length (listed.setIfInBounds i true) (a.put o.dst v) w:=
    fun v fr' hr hk hF'=>runO_ok (w1:=w1) hQ hQp hns hA hE hWn l _ dirty hl' hdst' hs2 (hcl.set hr) hS hF' hnd hag hle hsub hk
   by_cases hforced:dirty=true/\isLoad o.op=true
   ·rw[qe hforced] at hs1;have hrd:Region.ready .any ops listed=[i]:=by simpa using hs1
    obtain⟨v,fr',hy,hk,hF'⟩:=stp_quiet (C:=fun w'=>w'=w) hS hF hdo hq (fun _ w' hw'=>by rw[hw'];exact Kp.refl _ _) h;refine⟨fun h0=>(by rw[hrd] at h0;cases h0),fun j hj=> ?_⟩;rw[hrd] at hj;have hji:j=i:=by simpa using hj
    subst hji;exact hy.wpOp hio rfl ⟨⟨fun _=>rfl,Kp.refl _ _⟩,rest v fr' (by rw[hrd];simp) hk hF'⟩
   ·rw[qc hforced] at hs1;simp only[qj] at hs1;obtain⟨hr,hfree⟩:=hs1;have hr':i∈Region.ready .any ops listed:=by simpa using hr
    have hiun:=(JR.1 hr').1
    by_cases hld:isLoad o.op=true
    ·--a load,before all effects
     have hdf:dirty=false:=by
      cases dirty with
      |false=>rfl
      |true=>simp[hld] at hforced
     obtain⟨rfl,rfl,rfl⟩:=hnd hdf;obtain⟨v,fr',hy,hk,hF'⟩:=stp_quiet (C:=Kp w (inW β H (Uq.getD i []))) hS hF hdo hq (fun _ w' hw'=>hw') h;refine wpAnyG_first (T:=Kp w (inW β H (Uq.getD i []))) hio hisq (jQ hns) (fun c a w hh=>absurd hh (hQp c _ w)) ?_ (fun _=>Kp.refl _ _) l.length listed a w hcl (Jd hio hfree) hr' hy (Kp.refl _ _) (rest v fr' hr' hk hF');intro listed' hcl' hun j hj hji w2 w3 hT hjq hSw
     by_cases hjq1:z5j ops j=true
     ·rw[hjq hjq1];exact hT
     ·--what changes the world here writes what the load does not read
      obtain⟨_,oj,hoj,hall⟩:=JR.1 hj;have hjs:j<ops.size:=(q7.1 hoj).1;have his:i<ops.size:=(q7.1 hio).1;have h1:=qu.1 hE j (Qu.2 hjs);simp only[hoj,qt] at h1;rcases h1 with h1|h1
      ·exact absurd (by unfold z5j;rw[hoj];exact h1) hjq1
      ·have h2:=qu.1 h1 i (Qu.2 his);simp only[qt] at h2;rcases h2 with h2|h2
       ·exfalso
        have h3:=afterOk_listed hA hcl' (j+1) j (Qp _) oj hoj hall i (by simpa using h2);rw[getD_down hun] at h3
        cases h3
       ·exact hT.trans (hSw.mono fun b hb=>hb.mono fun id hid=>by simpa using qu.1 h2 id hid)
    ·--no load:it yields in every world
     obtain⟨v,fr',hy,hk,hF'⟩:=stp_quiet (C:=fun _=>True) hS hF hdo hq (fun he=>by
      rcases he with⟨t,x,he⟩|he
      ·rw[he] at hld;exact absurd rfl hld
      ·cases he) h
     exact wpAnyG_first (T:=fun _=>True) hio hisq (jQ hns) (fun c a w hh=>absurd hh (hQp c _ w)) (fun _ _ _ _ _ _ _ _ _ _ _=>trivial) (fun _=>Kp.refl _ _) l.length listed a w hcl (Jd hio hfree) hr' hy trivial (rest v fr' hr' hk hF')
  |false=>
   rw[hq] at hs1 hs2;simp only[qz,Ql,j6,JF] at hs1 hs2;have hrd:Region.ready .any ops listed=[i]:=by simpa using hs1
   have hisq:z5j ops i=false:=by unfold z5j;rw[hio];exact hq
   have hcl2:=hcl.set (i:=i) (by rw[hrd];simp);refine⟨fun h0=>(by rw[hrd] at h0;cases h0),fun j hj=> ?_⟩;rw[hrd] at hj;have hji:j=i:=by simpa using hj
   subst hji;have he:=stp_eff (Q:=Q) hS hF hdo hq h;unfold wpOp;rw[hio];simp only
   split at he
   ·rename_i hw;rw[qe hw];refine .inl (Ja (fun a' w' hp=> ?_) he);obtain⟨β',fr',H',hk,hF',hS',hag',hle',hsub',hkp'⟩:=hp
    have hkp2:Kp w (inW β1 H1 (Wf.getD j [])) w':=(hkp' rfl).mono fun b hin=>by
     obtain⟨id,k,o',L,hm,hlk,how,hbb,hblk⟩:=hin;obtain⟨o0,q1,q2⟩:=hsub id k o' (hWn j id hm) hlk how;exact⟨id,k,o0,L,hm,q1,q2,by rw[<-hag id k (hWn j id hm)];exact hbb,hblk⟩
    exact⟨⟨fun hh=>(by rw[hisq] at hh;cases hh),hkp2⟩,runO_ok (w1:=w1) hQ hQp hns hA hE hWn l _ true hl' hdst' hs2 hcl2 hS' hF' (fun hh=>by cases hh) (hag.trans hag' hle) (qR hle hle') (hsub.trans hsub' hle) hk⟩
   ·rename_i hw;rw[qc hw];obtain⟨fr',hk,hF'⟩:=he;exact⟨⟨fun hh=>(by rw[hisq] at hh;cases hh),Kp.refl _ _⟩,runO_ok (w1:=w1) hQ hQp hns hA hE hWn l _ true hl' hdst' hs2 hcl2 hS hF' (fun hh=>by cases hh) hag hle hsub hk⟩
end
section
def lift (X:Cx)(Q:Exit->Fr->AH->Prop):Exit->Act->World->Prop
 |.panic _,_,_=>False
 |.outgrown,_,_=>False
 |e,a,w=>At X (Q e) a w
def Cw (X:Cx)(c:Code)(Q:Exit->Fr->AH->Prop)(fr:Fr)(H:AH):Prop:=
 ∀β a w,FrOk X β H.nxt fr a->St X β H w->c.wp X.P (lift X Q) a w
def thenK (K:Fr->AH->Prop)(Q:Exit->Fr->AH->Prop):Exit->Fr->AH->Prop
 |.normal,fr,H=>K fr H
 |e,fr,H=>Q e fr H
def inBlk (id:Nat)(Q:Exit->Fr->AH->Prop):Exit->Fr->AH->Prop
 |.exit id',fr,H=>if id'=id then Q .normal fr H else Q (.exit id') fr H
 |e,fr,H=>Q e fr H
section
variable {X:Cx} {Q:Exit->Fr->AH->Prop} {fr:Fr} {H:AH}
def Cw.mono {c:Code}{Q':Exit->Fr->AH->Prop}(h:Cw X c Q fr H)(hq:∀e fr H,Q e fr H->Q' e fr H):Cw X c Q' fr H:=fun β a w hF hS=>
 Jr (fun e a w h=>by
  cases e<;>first|exact h|(obtain⟨β,fr,H,h1,h2⟩:=h;exact⟨β,fr,H,hq _ _ _ h1,h2⟩)) (h β a w hF hS)
def Cw.seq {x y:Code}(h:∀K:Fr->AH->Prop,(∀fr H,Cw X y Q fr H->K fr H)->Cw X x (thenK K Q) fr H):Cw X (.seq x y) Q fr H:=fun β a w hF hS=>by
 refine wp_seq (Jr (fun e a w hh=> ?_) (h (fun fr H=>Cw X y Q fr H) (fun _ _ h=>h) β a w hF hS))
 cases e with
 |normal=>
  obtain⟨β',fr',H',h1,h2,h3⟩:=hh;exact h1 β' a w h2 h3
 |_=>exact hh
def Cw.skip (h:Q .normal fr H):Cw X .skip Q fr H:=fun β _ _ hF hS=>wp_skip ⟨β,fr,H,h,hF,hS⟩
def Cw.exit {id:Nat}(h:Q (.exit id) fr H):Cw X (.exit id) Q fr H:=fun β _ _ hF hS=>wp_exit ⟨β,fr,H,h,hF,hS⟩
def Cw.ret (h:Q .ret fr H):Cw X .ret Q fr H:=fun β _ _ hF hS=>wp_ret ⟨β,fr,H,h,hF,hS⟩
def Cw.block {id:Nat}{c:Code}(h:Cw X c (inBlk id Q) fr H):Cw X (.block id c) Q fr H:=fun β a w hF hS=>by
 refine wp_block (Jr (fun e a w hh=> ?_) (h β a w hF hS))
 cases e with
 |exit id'=>
  obtain⟨β',fr',H',h1,h2⟩:=hh;simp only[inBlk] at h1;simp only[Exit.inBlock]
  split at h1
  ·rename_i he;rw[qe he];exact⟨β',fr',H',h1,h2⟩
  ·rename_i he;rw[qc he];exact⟨β',fr',H',h1,h2⟩
 |_=>exact hh
def Cw.cond {t:Tmp}{x y:Code}{b:Bool}(hb:get fr t=some (.bool b))(h1:b=true->Cw X x Q fr H)(h2:b=false->Cw X y Q fr H):Cw X (.cond (.tmp t) x y) Q fr H:=fun β a w hF hS=>by
 obtain⟨_,v,hv,hd⟩:=hF.get _ _ hb;simp only[den] at hd;have he:a.eval (.tmp t)= .bool b:=by simp[Act.eval,QY,hv,hd]
 exact wp_cond_split he (fun h=>h1 h β a w hF hS) (fun h=>h2 h β a w hF hS)
def St.drew {β:Env}{w:World}(hS:St X β H w):St X β H w.drew:=hS.ext Blw.drew'
def Cw.regionDraw {id : Nat} {ops : Array Oper} (ord : List Nat) (A Wf Uq : List (List Nat)) (hm : X.P.follows .mixedOrders = true)
    (hd:dstOk X.n ops.toList=true) (hlen:ord.length=ops.size) (hlt:ord.all (fun i=>decide (i<ops.size))=true) (hns:Region.noSelect ops=true) (hA:afterOk ops A=true) (hE:effOk ops A Wf Uq=true) (hWn:Wf.all (fun l=>l.all fun i=>decide (i<H.nxt))=true)
    (hs:sched ops (ord.map fun i=>(i,ops.getD i default)) (Array.replicate ops.size false) false=true)
    (h:runO X.P X.wrap X.m0 Wf Uq ops (ord.map fun i=>(i,ops.getD i default)) fr H (Q .normal)):Cw X (.region id ops true) Q fr H:=fun β a w hF hS=>by
  refine JU hm (wpAny_of_G (S:=fun j w w'=>Kp w (inW β H (Wf.getD j [])) w') (isq:=z5j ops) _ _ _ _ ?_);have hall:∀i∈ord,i<ops.size:=fun i hi=>by simpa using qu.1 hlt i hi
  have hget:∀i∈ord,ops[i]? =some (ops.getD i default):=fun i hi=>by
    have:=hall i hi;simp[Array.getD,this]
  have := runO_ok (X := X) (ops := ops) (K := Q .normal) (Q := lift X Q) (fun _ _ h => h) (fun _ _ _ h => h) hns hA hE (w1 := w.drew) (β1 := β) (H1 := H) (fun j id hid => by
      rcases Qo j Wf.length with hj|hj
      · rw[List.getD,qJ hj] at hid;simpa using qu.1 (qu.1 hWn _ (qK hj)) id hid
      · rw[List.getD,qP hj] at hid
        cases hid)
    (ord.map fun i=>(i,ops.getD i default)) (Array.replicate ops.size false) false (a:=a) (fun x hx=>by
      obtain⟨i,hi,rfl⟩:=Qs.1 hx
      exact hget i hi) (by
      refine qu.2 fun o ho=> ?_;obtain⟨x,hx,rfl⟩:=Qs.1 ho;obtain⟨i,hi,rfl⟩:=Qs.1 hx;have h0:=hget i hi
      have h1:(ops.getD i default)∈ops.toList:=by
        have:=jG h0;simpa using this
      exact qu.1 hd _ h1) hs (fun j oj _ hl=>by
      exfalso
      rcases Qo j ops.size with h'|h'
      · simp[h'] at hl
      · simp[h'] at hl) hS.drew hF (fun _=>⟨rfl,rfl,rfl⟩) (Env.agree.refl _ _) (qd _) (Sub.refl _) h
  rw[qx,hlen] at this;exact this
end
end
section
mutual
def SV.ren (ρ:Nat->Nat):SV->SV
 |.ptr id k i j=> .ptr (ρ id) k i j
 |.slc g id k o n=> .slc g (ρ id) k o n
 |.mp id k=> .mp (ρ id) k
 |.fn f l=> .fn f (SV.renL ρ l)
 |.agg l=> .agg (SV.renL ρ l)
 |.tup l=> .tup (SV.renL ρ l)
 |.gd g s=> .gd g (SV.ren ρ s)
 |.ifc t s=> .ifc t (SV.ren ρ s)
 |s=>s
def SV.renL (ρ:Nat->Nat):List SV->List SV
 |[]=>[]
 |s::l=>SV.ren ρ s::SV.renL ρ l
end
def Env.via (β:Env)(ρ:Nat->Nat):Env:=fun id k=>β (ρ id) k
mutual
def z4p {β:Env}{ρ:Nat->Nat}:∀(s:SV) (v:Value),den β (s.ren ρ) v↔den (β.via ρ) s v
 |.int ..,_=>QK
 |.bool _,_=>QK
 |.str _,_=>QK
 |.nilp,_=>QK
 |.nils,_=>QK
 |.nilfn,_=>QK
 |.raw _,_=>QK
 |.ptr ..,_=>QK
 |.slc ..,_=>QK
 |.mp ..,_=>QK
 |.fn f l,v=>by
  simp only[SV.ren,den];exact⟨fun⟨vs,h,e⟩=>⟨vs,(denL_ren l vs).1 h,e⟩,fun⟨vs,h,e⟩=>⟨vs,(denL_ren l vs).2 h,e⟩⟩
 |.agg l,v=>by
  simp only[SV.ren,den];exact⟨fun⟨vs,h,e⟩=>⟨vs,(denL_ren l vs).1 h,e⟩,fun⟨vs,h,e⟩=>⟨vs,(denL_ren l vs).2 h,e⟩⟩
 |.tup l,v=>by
  simp only[SV.ren,den];exact⟨fun⟨vs,h,e⟩=>⟨vs,(denL_ren l vs).1 h,e⟩,fun⟨vs,h,e⟩=>⟨vs,(denL_ren l vs).2 h,e⟩⟩
 |.ifc t s,v=>by
  simp only[SV.ren,den];exact⟨fun⟨u,h,e⟩=>⟨u,(z4p s u).1 h,e⟩,fun⟨u,h,e⟩=>⟨u,(z4p s u).2 h,e⟩⟩
 |.gd g s,v=>by
  simp only[SV.ren,den];exact⟨fun⟨h,e⟩=>⟨fun hg=>(z4p s v).1 (h hg),e⟩,fun⟨h,e⟩=>⟨fun hg=>(z4p s v).2 (h hg),e⟩⟩
def denL_ren {β:Env}{ρ:Nat->Nat}:∀(l:List SV) (vs:List Value),z2u β (SV.renL ρ l) vs↔z2u (β.via ρ) l vs
 |[],_=>QK
 |s::l,vs=>by
  simp only[SV.renL,z2u];exact⟨fun⟨v,r,h1,h2,e⟩=>⟨v,r,(z4p s v).1 h1,(denL_ren l r).1 h2,e⟩,fun⟨v,r,h1,h2,e⟩=>⟨v,r,(z4p s v).2 h1,(denL_ren l r).2 h2,e⟩⟩
end
mutual
def lt_ren {ρ:Nat->Nat}{m m':Nat}(h:∀id,id<m->ρ id<m'):∀(s:SV),s.lt m->(s.ren ρ).lt m'
 |.int ..,_=>trivial
 |.bool _,_=>trivial
 |.str _,_=>trivial
 |.nilp,_=>trivial
 |.nils,_=>trivial
 |.nilfn,_=>trivial
 |.raw _,_=>trivial
 |.ptr ..,hl=>h _ hl
 |.slc ..,hl=>h _ hl
 |.mp ..,hl=>h _ hl
 |.fn _ l,hl=>ltL_ren h l hl
 |.agg l,hl=>ltL_ren h l hl
 |.tup l,hl=>ltL_ren h l hl
 |.gd _ s,hl=>fun hg=>lt_ren h s (hl hg)
 |.ifc _ s,hl=>lt_ren h s hl
def ltL_ren {ρ:Nat->Nat}{m m':Nat}(h:∀id,id<m->ρ id<m'):∀(l:List SV),SV.ltL m l->SV.ltL m' (SV.renL ρ l)
 |[],_=>trivial
 |s::l,hl=>⟨lt_ren h s hl.1,ltL_ren h l hl.2⟩
end
def renL_eq (ρ:Nat->Nat):∀l:List SV,SV.renL ρ l=l.map (SV.ren ρ)
 |[]=>rfl
 |s::l=>by simp[SV.renL,renL_eq ρ l]
def scalar_ren (ρ:Nat->Nat)(s:SV):(s.ren ρ).scalar=s.scalar:=by cases s<;>rfl
def z4a (ρ:Nat->Nat)(r r':Row):Prop:=
 (r'.own=true->r.own=true/\r'.e=r.e)/\r'.sz=r.sz/\r'.n<=r.n/\∀i,i<r'.n->r.f i=SV.renL ρ (r'.f i)
def mapGives (ρ:Nat->Nat):z34->z34->Prop
 |.ints n h g z,.ints n' h' g' z'=>n'=n/\(∀a,h' a=h a)/\(∀a,g a=(g' a).ren ρ)/\z=z'.ren ρ
 |.prs n h g z,.prs n' h' g' z'=>n'=n/\(∀a b,h' a b=h a b)/\(∀a b,g a b=(g' a b).ren ρ)/\z=z'.ren ρ
 |_,_=>False
def mapGives_all {ρ:Nat->Nat}{M M':z34}(h:mapGives ρ M M'):M'.n=M.n/\(∀v,M'.has v=M.has v)/\(∀v,M.val v=(M'.val v).ren ρ)/\M.z=M'.z.ren ρ:=by
 cases M<;>cases M'<;>simp only[mapGives] at h
 all_goals
  obtain⟨h1,h2,h3,h4⟩:=h;refine⟨h1,fun v=> ?_,fun v=> ?_,h4⟩<;>simp only[z34.has,z34.val]<;>split<;>first|exact h2 _|exact h2 _ _|exact h3 _|exact h3 _ _|exact h4|rfl
def z1e (ρ:Nat->Nat):Obj->Obj->Prop
 |.row r,.row r'=>z4a ρ r r'
 |.blk w p,.blk w' p'=>(w'=true->w=true)/\p=p'
 |.mapo w p,.mapo w' p'=>(w'=true->w=true)/\mapGives ρ p p'
 |_,_=>False
def z4t {ρ:Nat->Nat}{o o':Obj}(h:z1e ρ o o')(ho:o'.own=true):o.own=true:=by
 cases o<;>cases o'<;>simp only[z1e] at h
 ·exact(h.1 ho).1
 ·exact h.1 ho
 ·exact h.1 ho
def objGives_holds {ρ:Nat->Nat}{o o':Obj}(h:z1e ρ o o'){β:Env}{w:World}{q:Option Loc}(hh:o.holds β w q):o'.holds (β.via ρ) w q:=by
 cases o<;>cases o'<;>simp only[z1e] at h
 ·rename_i r r';obtain⟨h1,h2,h3,h4⟩:=h;rcases hh with⟨hn,hq⟩|⟨L,hq,e1,e2,e3,e4⟩
  ·exact .inl ⟨by omega,hq⟩
  ·refine .inr ⟨L,hq,by omega,e2,fun i hi=> ?_,fun ho=> ?_⟩
   ·have:=e3 i (by omega);rw[h4 i hi] at this;refine⟨by rw[renL_eq,qx] at this;omega,fun j s hs=> ?_⟩;have hj:(SV.renL ρ (r'.f i))[j]? =some (s.ren ρ):=by rw[renL_eq,qQ,hs];rfl
    obtain⟨c1,v,c2,c3⟩:=this.2 j _ hj;exact⟨by rw[<-scalar_ren ρ];exact c1,v,c2,(z4p s v).1 c3⟩
   ·obtain⟨a,b,c,cur,d,e⟩:=e4 (h1 ho).1;exact⟨a,by omega,c,cur,by rw[(h1 ho).2];exact d,by rw[h2];exact e⟩
 ·obtain⟨_,rfl⟩:=h;exact hh
 ·obtain⟨L,b,hq,hb,es,clk,e1,e2,e6,e3,e4,e5⟩:=hh;obtain⟨q1,q2,q3,q4⟩:=mapGives_all h.2;refine⟨L,b,hq,hb,es,clk,e1,e2.trans q1.symm,e6,fun k=>by rw[q2];exact e3 k,fun e he=> ?_,fun k hk v hv=> ?_⟩
  ·have:=e4 e he;rw[q3] at this;exact(z4p _ _).1 this
  ·have:=e5 k (by rw[<-q2];exact hk) v (by rw[q4];exact(z4p _ _).2 hv);rw[q3] at this;exact(z4p _ _).1 this
def z5o (ρ:Nat->Nat)(m:Nat)(os:List (Nat×Nat×(Nat->Obj))):List (Nat×Nat×(Nat->Obj))->Prop
 |[]=>True
 |(id,c',F')::l=>
  (match find os (ρ id) with
   |some (c,F)=>c'<=c/\∀k,k<c'->z1e ρ (F k) (F' k)/\(F' k).lt m
   |none=>False)/\id<m/\z5o ρ m os l
def z1j:∀{os:List (Nat×Nat×(Nat->Obj))} {id:Nat} {x:Nat×(Nat->Obj)},find os id=some x->(id,x)∈os
 |[],_,_,h=>by simp[find] at h
 |(i,y)::l,id,x,h=>by
  simp only[find] at h
  split at h
  ·rename_i he
   cases h;subst he
   exact qo ..
  ·exact qp _ (z1j h)
def z1h {os:List (Nat×Nat×(Nat->Obj))}{id k:Nat}{o:Obj}(h:look os id k=some o):∃c F,find os id=some (c,F)/\k<c/\o=F k:=by
 unfold look at h
 split at h
 ·rename_i c F hf
  split at h
  ·exact⟨c,F,hf,by assumption,(Obj.opt_some h).1⟩
  ·cases h
 ·cases h
def z5o.get {ρ:Nat->Nat}{m:Nat}{os:List (Nat×Nat×(Nat->Obj))}:∀{os':List (Nat×Nat×(Nat->Obj))},z5o ρ m os os'->∀id c' F',(id,c',F')∈os'->
  id<m/\∃c F,find os (ρ id)=some (c,F)/\c'<=c/\∀k,k<c'->z1e ρ (F k) (F' k)/\(F' k).lt m
 |[],_,_,_,_,hm=>by cases hm
 |(i,c1,F1)::l,h,id,c',F',hm=>by
  obtain⟨h1,h2,h3⟩:=h
  cases hm with
  |head=>
   refine⟨h2,?_⟩
   split at h1
   ·rename_i c F hf;exact⟨c,F,hf,h1.1,h1.2⟩
   ·exact h1.elim
  |tail _ hm=>exact z5o.get h3 id c' F' hm
def z5o.look {ρ:Nat->Nat}{m:Nat}{os os':List (Nat×Nat×(Nat->Obj))}(h:z5o ρ m os os'){id k:Nat}{o':Obj}(hl:look os' id k=some o'):
  id<m/\o'.lt m/\∃o,Sk.look os (ρ id) k=some o/\z1e ρ o o':=by
 have hgn:=z3o hl;obtain⟨c',F',hf,hk,rfl⟩:=z1h hl;obtain⟨h1,c,F,h2,h3,h4⟩:=h.get _ _ _ (z1j hf);have hgo:=(h4 k hk).1;refine⟨h1,(h4 k hk).2,F k,(zy h2 (by omega)).trans (Obj.opt_of fun e=> ?_),hgo⟩;rw[e] at hgo
 cases hF:F' k<;>rw[hF] at hgo<;>simp only[z1e] at hgo
def InjOn (ρ:Nat->Nat)(os':List (Nat×Nat×(Nat->Obj))):Prop:=
 ∀id k o id' k' o',look os' id k=some o->look os' id' k'=some o'->o.own=true->ρ id=ρ id'->id=id'
def injB (ρ:Nat->Nat)(os':List (Nat×Nat×(Nat->Obj))):Bool:=
 os'.all fun x=>os'.all fun y=> !(x.2.2 0).own||x.1==y.1|| !(ρ x.1==ρ y.1)
def ownU (os':List (Nat×Nat×(Nat->Obj))):Prop:=∀x∈os',∀k,(x.2.2 k).own=(x.2.2 0).own
def InjOn.of {ρ:Nat->Nat}{os':List (Nat×Nat×(Nat->Obj))}(h:injB ρ os'=true)(hu:ownU os'):InjOn ρ os':=fun id k o id' k' o' h1 h2 h3 h4=>by
 obtain⟨c,F,hf,hk,rfl⟩:=z1h h1;obtain⟨c',F',hf',hk',rfl⟩:=z1h h2;have q:=qu.1 (qu.1 h _ (z1j hf)) _ (z1j hf');simp only[qt,qn,qD,qH,ne_eq] at q;rcases q with(q|q)|q
 ·have:=hu _ (z1j hf) k;rw[h3] at this;simp only at this q;rw[q] at this;cases this
 ·exact q
 ·exact absurd h4 q
structure z4h (X:Cx) (ρ:Nat->Nat) (fr:Fr) (H:AH) (fr':Fr) (H':AH):Prop where
 fr:∀t s,get fr' t=some s->get fr t=some (s.ren ρ)/\s.lt H'.nxt
 os:z5o ρ H'.nxt H.os H'.os
 inj:InjOn ρ H'.os
 fix:∀id,id<X.m0->ρ id=id
 m0:X.m0<=H'.nxt
 keep:∀id k,id<X.m0->(∃o,look H.os id k=some o/\o.own=true)->∃o,look H'.os id k=some o/\o.own=true
 big:∀id k o,X.m0<=id->look H'.os id k=some o->o.own=true->X.m0<=ρ id
def z4h.frOk {X:Cx}{ρ:Nat->Nat}{fr fr':Fr}{H H':AH}(h:z4h X ρ fr H fr' H'){β:Env}{a:Act}(hF:FrOk X β H.nxt fr a):FrOk X (β.via ρ) H'.nxt fr' a:=
 ⟨hF.defers,hF.size,fun t s hs=>by
  obtain⟨h1,h2⟩:=h.fr t s hs;obtain⟨_,v,h3,h4⟩:=hF.get t _ h1
  exact⟨h2,v,h3,(z4p s v).1 h4⟩⟩
def z4h.st {X:Cx}{ρ:Nat->Nat}{fr fr':Fr}{H H':AH}(h:z4h X ρ fr H fr' H'){β:Env}{w:World}(hS:St X β H w):St X (β.via ρ) H' w where
 os:=hS.os
 tape:=hS.tape
 output:=hS.output
 size:=hS.size
 fix id k hl:=by
  show β (ρ id) k=_
  rw[h.fix id hl];exact hS.fix id k hl
 holds id k o hl:=by
  obtain⟨_,_,o0,h1,h2⟩:=h.os.look hl;exact objGives_holds h2 (hS.holds _ _ _ h1)
 sep id k id' k' o o' L L' hl hl' ho hb hb' he:=by
  obtain⟨_,_,o0,h1,h2⟩:=h.os.look hl;obtain⟨_,_,o1,h3,h4⟩:=h.os.look hl';have:=hS.sep _ _ _ _ _ _ _ _ h1 h3 (z4t h2 ho) hb hb' he;exact⟨h.inj _ _ _ _ _ _ hl hl' ho this.1,this.2⟩
 old b hb hn:=hS.old b hb fun id k o L hl ho hbb he=>by
  rcases hS.mine _ _ _ _ hl ho hbb with⟨h1,_⟩|⟨_,h2⟩
  ·obtain⟨o',q1,q2⟩:=h.keep id k h1 ⟨o,hl,ho⟩;refine hn id k o' L q1 q2 ?_ he
   show β (ρ id) k=_
   rw[h.fix id h1];exact hbb
  ·omega
 mine id k o L hl ho hb:=by
  obtain⟨hlt,_,o0,h1,h2⟩:=h.os.look hl;rcases hS.mine _ _ _ _ h1 (z4t h2 ho) hb with⟨q1,q2⟩|⟨q1,q2⟩
  ·by_cases hm:id<X.m0
   ·rw[h.fix id hm] at q2;exact .inl ⟨hm,q2⟩
   ·have:=h.big id k o (by omega) hl ho;omega
  ·by_cases hm:id<X.m0
   ·have:=h.fix id hm;omega
   ·exact .inr ⟨by omega,q2⟩
 keep id k ho:=by
  obtain⟨q1,o,q2,q3⟩:=hS.keep id k ho;exact⟨q1,h.keep id k q1 ⟨o,q2,q3⟩⟩
 m0:=h.m0
 lt id k o hl:=by
  obtain⟨h1,h2,_⟩:=h.os.look hl;exact⟨h1,h2⟩
 tabs:=hS.tabs
 drawn:=hS.drawn
def frGives (ρ:Nat->Nat)(m:Nat)(fr:Fr):Fr->Prop
 |[]=>True
 |(t,s)::l=>(get fr t=some (s.ren ρ)/\s.lt m)/\frGives ρ m fr l
def frGives_ok {ρ:Nat->Nat}{m:Nat}{fr:Fr}:∀{fr':Fr},frGives ρ m fr fr'->∀t s,get fr' t=some s->get fr t=some (s.ren ρ)/\s.lt m
 |[],_,_,_,h=>by simp[get] at h
 |(u,s0)::l,h,t,s,hs=>by
  simp only[get] at hs
  split at hs
  ·rename_i he
   cases hs;subst he
   exact h.1
  ·exact frGives_ok h.2 t s hs
def keepB (m0:Nat)(os os':List (Nat×Nat×(Nat->Obj))):Prop:=
 ∀x∈os,x.1<m0->(x.2.2 0).own=true->match find os' x.1 with
  |some (c,F)=>c=x.2.1/\∀k,(F k).own=true
  |none=>False
def bigB (m0:Nat)(ρ:Nat->Nat)(os':List (Nat×Nat×(Nat->Obj))):Bool:=os'.all fun x=>decide (x.1<m0)||decide (m0<=ρ x.1)|| !(x.2.2 0).own
def z4h.mk' {X:Cx}{fr:Fr}{H:AH}{fr':Fr}{H':AH}(ρ:Nat->Nat)(h1:frGives ρ H'.nxt fr fr')(h2:z5o ρ H'.nxt H.os H'.os)(h3:injB ρ H'.os=true)(h3u:ownU H'.os)(h4:(List.range X.m0).all (fun id=>ρ id==id)=true)
  (h5:X.m0<=H'.nxt) (h6:ownU H.os) (h7:keepB X.m0 H.os H'.os) (h8:bigB X.m0 ρ H'.os=true):z4h X ρ fr H fr' H' where
 fr:=frGives_ok h1
 os:=h2
 inj:= .of h3 h3u
 fix id hid:=by simpa using qu.1 h4 id (Qu.2 hid)
 m0:=h5
 keep id k hid ho:=by
  obtain⟨o,ho1,ho2⟩:=ho;obtain⟨c,F,hf,hk,rfl⟩:=z1h ho1;have:=h7 _ (z1j hf) hid (by have:=h6 _ (z1j hf) k;simp only at this;rw[<-this];exact ho2);simp only at this
  split at this
  ·rename_i c' F' hf';exact⟨F' k,(zy hf' (by omega)).trans (Obj.opt_of fun e=>by have:=this.2 k;rw[e] at this;cases this),this.2 k⟩
  ·exact this.elim
 big id k o h0 hl ho:=by
  obtain⟨c,F,hf,hk,rfl⟩:=z1h hl;have h9:=qu.1 h8 _ (z1j hf);have h10:=h3u _ (z1j hf) k;simp only[qt,qm,qn] at h9;simp only at h10;rw[<-h10,ho] at h9;rcases h9 with(h9|h9)|h9
  ·omega
  ·exact h9
  ·cases h9
section
variable {X:Cx} {Q:Exit->Fr->AH->Prop} {fr:Fr} {H:AH}
def Cw.weaken {c:Code}{fr':Fr}{H':AH}{ρ:Nat->Nat}(hg:z4h X ρ fr H fr' H')(h:Cw X c Q fr' H'):Cw X c Q fr H:=fun _ a w hF hS=>h _ a w (hg.frOk hF) (hg.st hS)
def Cw.loop {σ:Type}{c:Code}(I:σ->Prop)(μ:σ->Nat)(F:σ->Fr)(G:σ->AH)(s0:σ)(h0:I s0){ρ:Nat->Nat}(hg:z4h X ρ fr H (F s0) (G s0))
  (round:∀s,I s->Cw X c (thenK (fun fr' H'=> ∃s',I s'/\μ s'<μ s/\∃ρ,z4h X ρ fr' H' (F s') (G s')) Q) (F s) (G s)):Cw X (.loop c) Q fr H:=fun β a w hF hS=>by
 refine wp_loop_ghost (fun n a w=> ∃s β,I s/\μ s=n/\FrOk X β (G s).nxt (F s) a/\St X β (G s) w) (μ s0) ⟨s0,_,h0,rfl,hg.frOk hF,hg.st hS⟩ ?_;rintro n a w ⟨s,β,hI,rfl,hF,hS⟩;refine Jr (fun e a w hh=> ?_) (round s hI β a w hF hS)
 cases e with
 |normal=>
  obtain⟨β',fr',H',⟨s',h1,h2,ρ',h3⟩,h4,h5⟩:=hh;exact⟨μ s',h2,s',_,h1,rfl,h3.frOk h4,h3.st h5⟩
 |_=>exact hh
end
end
def Ent.of {P:Program}{f:FuncId}{fn:Func}(hf:P.funcs[f]? =some fn)(hn:(fn.name== "runtime.NumGoroutine")=false)(hb:fn.body.isNone=false):Ent P f:=fun as1 w=>by
 simp only[callFunc,qM,run_program,qA,hf,hn,hb,qz,Ql,Qh]
def OwnAll (H0:AH)(os:List (Nat×Nat×(Nat->Obj))):Prop:=∀x∈os,(∀k,(x.2.2 k).own=true)/\(H0.nxt<=x.1\/∃y∈H0.os,y.1=x.1/\y.2.1=x.2.1/\(y.2.2 0).own=true)
def zj (P:Program)(f:FuncId)(args:List SV)(H0:AH)(R:SV->AH->Prop):Prop:=
 ∀(X:Cx) (β:Env) (w:World) (vs:List Value),X.P=P->X.m0=H0.nxt->X.w0=w->X.β0=β->(X.own0=fun id k=> ∃o,look H0.os id k=some o/\o.own=true)->St X β H0 w->z2u β args vs->SV.ltL H0.nxt args->
  Does P f vs.toArray w fun e w'=> ∃v,e= .returned v/\∃β' s H',R s H'/\OwnAll H0 H'.os/\den β' s v/\s.lt H'.nxt/\St X β' H' w'
def resK (P:Program)(H:AH)(fr:Fr):List ResultVar->(List SV->Prop)->Prop
 |[],k=>k []
 |.tmp t::l,k=>z5k fr true (.tmp t) fun s=>resK P H fr l fun r=>k (s::r)
 |.cell t ty::l,k=>z5k fr true (.tmp t) fun s=>loadK P H [] true ty s fun s'=>resK P H fr l fun r=>k (s'::r)
def resF (tmps:Array Value):ResultVar->Sem Value
 |.tmp t=>pure (tmps.getD t undef)
 |.cell q t=>do loadVar t (<-asAddr (tmps.getD q undef))
def resK_ok {X:Cx}{β:Env}{H:AH}{w:World}(hS:St X β H w){fr:Fr}{a:Act}(hF:FrOk X β H.nxt fr a):∀{l:List ResultVar} {k:List SV->Prop},resK X.P H fr l k->
  ∃ss vs,k ss/\z2u β ss vs/\SV.ltL H.nxt ss/\(l.mapM (resF a.tmps)).run X.P w= .ok vs w
 |[],k,h=>⟨[],[],h,rfl,trivial,by simp⟩
 |.tmp t::l,k,h=>by
  obtain⟨s,h1,h2⟩:=z1i hF h;obtain⟨ss,vs,h3,h4,h5,h6⟩:=resK_ok hS hF h1;have he:a.eval (.tmp t)=a.tmps.getD t undef:=rfl;refine⟨s::ss,_::vs,h3,⟨_,_,(h2 rfl).1,h4,rfl⟩,⟨(h2 rfl).2,h5⟩,?_⟩;simp only[List.mapM_cons,qM,Qh,qA,h6,he,resF]
 |.cell q t::l,k,h=>by
  obtain⟨s,h1,h2⟩:=z1i hF h;obtain⟨s',h3,h4⟩:=loadK_ok hS h1 (fun _=>(h2 rfl).1);obtain⟨h5,v',h6,h7⟩:=h4 rfl;obtain⟨ss,vs,h8,h9,h10,h11⟩:=resK_ok hS hF h3;have he:a.eval (.tmp q)=a.tmps.getD q undef:=rfl;have hr:=h7 w (Kp.refl _ _);refine⟨s'::ss,v'::vs,h8,⟨_,_,h6,h9,rfl⟩,⟨h5,h10⟩,?_⟩
  --the slot holds an address
  have hp:∃ad,a.tmps.getD q undef= .pointer (some ad):=by
   have hd:=(h2 rfl).1;rw[he] at hd;unfold loadK at h1
   split at h1
   ·simp only[den] at hd;obtain⟨L,_,e⟩:=hd;exact⟨_,e⟩
   ·simp only[den] at hd;exact⟨_,hd⟩
   ·exact h1.elim
  obtain⟨ad,had⟩:=hp;rw[he,had] at hr;simp only[Instr.loadAt,Instr.sureAddr,qM,Qh,qA] at hr;simp only[List.mapM_cons,qM,Qh,qA,resF,had,asAddr,hr,h11]
def resV:List SV->SV
 |[s]=>s
 |l=> .tup l
def results_run {fn:Func}{tmps:Array Value}{P:Program}{w:World}{vs:List Value}(h:(fn.results.toList.mapM (resF tmps)).run P w= .ok vs w):
  (results fn tmps).run P w= .ok (match vs with|[v]=>v|vs=> .tuple vs.toArray) w:=by
 have he:results fn tmps=(do let vs<-fn.results.mapM (resF tmps);pure (if h:vs.size=1 then vs[0] else .tuple vs)):=by
  unfold results
  congr 1
 rw[he,Array.mapM_eq_mapM_toList];simp only[qM,Sem.run_map,h,qA,Qh]
 cases vs with
 |nil=>rfl
 |cons v l=>
  cases l with
  |nil=>rfl
  |cons u l=>rfl
def PostF (X:Cx)(H0:AH)(rs:List ResultVar)(R:SV->AH->Prop):Exit->Fr->AH->Prop
 |.normal,fr,H| .ret,fr,H=>resK X.P H fr rs fun ss=> ∃ρ s H',resV ss=s.ren ρ/\s.lt H'.nxt/\z4h X ρ [] H [] H'/\OwnAll H0 H'.os/\R s H'
 |_,_,_=>False
def argFr:Nat->List SV->Fr
 |_,[]=>[]
 |i,s::l=>(i,s)::argFr (i+1) l
def argFr_get:∀(l:List SV) (i t:Nat) (s:SV),get (argFr i l) t=some s->i<=t/\l[t-i]? =some s
 |[],_,_,_,h=>by simp[argFr,get] at h
 |s0::l,i,t,s,h=>by
  simp only[argFr,get] at h
  split at h
  ·rename_i he
   cases h;subst he
   simp
  ·rename_i he;obtain⟨h1,h2⟩:=argFr_get l (i+1) t s h;refine⟨by omega,?_⟩;rw[show t-i=(t-(i+1))+1 by omega];simpa using h2
def St.cast {X Y:Cx}{β:Env}{H:AH}{w:World}(h:St X β H w)(h1:Y.w0=X.w0)(h2:Y.own0=X.own0)(h3:Y.m0=X.m0)(h4:Y.β0=X.β0)(h5:Y.P=X.P):St Y β H w where
 os:=by rw[h1];exact h.os
 tape:=by rw[h1];exact h.tape
 output:=by rw[h1];exact h.output
 size:=by rw[h1];exact h.size
 fix:=by rw[h3,h4];exact h.fix
 holds:=h.holds
 sep:=h.sep
 old:=by rw[h1];exact h.old
 mine:=by rw[h1,h2,h3];exact h.mine
 keep:=by rw[h2,h3];exact h.keep
 m0:=by rw[h3];exact h.m0
 lt:=h.lt
 drawn:=by rw[h1];exact h.drawn
 tabs:=⟨fun g hg=>by
  rw[h5] at hg;have:=h.tabs.1 g hg;rw[h1,h2,h4];exact this,fun g hg=>by
  rw[h5] at hg;have:=h.tabs.2 g hg
  rw[h1,h2,h4];exact this⟩
def zj.of {P:Program}{f:FuncId}{fn:Func}{c:Code}{args:List SV}{H0:AH}{R:SV->AH->Prop}(wr:Bool)(hf:P.funcs[f]? =some fn)(hb:fn.body=some c)(hn:(fn.name== "runtime.NumGoroutine")=false)(ha:args.length<=fn.ntmps)
  (h:∀w0 own0 β0,Cw ⟨P,fn.ntmps,w0,own0,H0.nxt,β0,wr⟩ c (PostF ⟨P,fn.ntmps,w0,own0,H0.nxt,β0,wr⟩ H0 fn.results.toList R) (argFr 0 args) H0):zj P f args H0 R:=by
 intro X β w vs hP hm hw hβ ho hS hd hlt;refine .inl ⟨by rw[<-hP];exact Ent.of (hP ▸ hf) hn (by rw[hb];rfl),?_⟩;subst hP
 let Y:Cx:=⟨X.P,fn.ntmps,X.w0,X.own0,H0.nxt,X.β0,wr⟩
 have hlen:=z2k hd;refine calls_of_wp hf hb ?_;have hS':St Y β H0 w:=hS.cast rfl rfl hm.symm rfl rfl
 have hF:FrOk Y β H0.nxt (argFr 0 args) {tmps:=vs.toArray++Array.replicate (fn.ntmps-vs.toArray.size) undef,defers:=[]}:=by
  refine⟨rfl,by simp[Y];omega,fun t s hs=> ?_⟩;obtain⟨_,h1⟩:=argFr_get args 0 t s hs;simp only[J4] at h1;obtain⟨v,hv,hdv⟩:=z4k hd t s h1;have htl:t<vs.length:=(qZ.1 hv).1;refine⟨SV.ltL_get hlt t s h1,v,?_,hdv⟩;rw[Jf (by simpa using htl)];simpa using hv
 refine Jr (fun e a w' hh=> ?_) (h X.w0 X.own0 X.β0 β _ w hF hS')
 have fin:∀fr H,(∃β,PostF Y H0 fn.results.toList R .ret fr H/\FrOk Y β H.nxt fr a/\St Y β H w')->a.defers=[]/\∃v,(results fn a.tmps).run X.P w'= .ok v w'/\∃u,Ending.returned v= .returned u/\∃β' s H',R s H'/\OwnAll H0 H'.os/\den β' s u/\s.lt H'.nxt/\St X β' H' w':=fun fr H ⟨β1,hp,hF1,hS1⟩=>by
  obtain⟨ss,us,⟨ρ,s,H',h1,h2,h3,h4,h5⟩,h6,h7,h8⟩:=resK_ok hS1 hF1 hp;refine⟨hF1.defers,_,results_run h8,_,rfl,β1.via ρ,s,H',h5,h4,?_,h2,((h3.st hS1).cast (Y:=X) rfl rfl hm rfl rfl)⟩;rw[<-z4p,<-h1];have hl:=z2k h6
  match ss,us,h6,hl with
  |[s],[v],h6,_=>
   simp only[z2u] at h6;obtain⟨v',r,hv,hr,he⟩:=h6
   cases he
   exact hv
  |[],[],h6,_=>simp only[resV,den];exact⟨[],h6,rfl⟩
  |s::s'::ss,v::v'::us,h6,_=>simp only[resV,den];exact⟨_,h6,rfl⟩
 cases e with
 |normal=>
  obtain⟨β1,fr,H,hp,hF1,hS1⟩:=hh;exact fin fr H ⟨β1,hp,hF1,hS1⟩
 |ret=>
  obtain⟨β1,fr,H,hp,hF1,hS1⟩:=hh;exact fin fr H ⟨β1,hp,hF1,hS1⟩
 |exit id=>obtain⟨β1,fr,H,hp,_⟩:=hh;exact hp.elim
 |goto l=>obtain⟨β1,fr,H,hp,_⟩:=hh;exact hp.elim
 |panic ch=>exact hh.elim
 |outgrown=>exact hh.elim
end Go.Sk
