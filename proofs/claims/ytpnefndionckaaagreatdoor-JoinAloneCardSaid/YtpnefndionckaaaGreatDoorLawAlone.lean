/-
  JoinAlone: for every input the law returns true, and the input reads as before.
  Conditions: those that each statement names.
-/
import Derived.Test.YtpnefndionckaaaGreatDoorRmh
import Derived.Deep.Slices
import Derived.Lib.LaidTab
import Derived.Test.YtpnefndionckaaaGreatDoorRmj
import Derived.Test.YtpnefndionckaaaGreatDoorRmi
import Derived.Test.YtpnefndionckaaaGreatDoorRmc
import Derived.Test.YtpnefndionckaaaGreatDoorRmk
import Derived.Test.YtpnefndionckaaaGreatDoorRows
import Derived.Test.YtpnefndionckaaaGreatDoorCards
import Derived.Test.YtpnefndionckaaaGreatDoorTie
import Derived.WalkKit
import Derived.ProofKit
import Derived.OpenShut
import Derived.Deep.DeepHandedRow
set_option linter.unusedSimpArgs false
set_option linter.unusedVariables false
set_option linter.defProp false
set_option maxRecDepth 4000
set_option maxHeartbeats 8000000
namespace Go.Sk
open Go.RowKit Go.WideShapes Go.ChangeShapes
inductive FK where
 |i (k:IntKind)|s|b
def FK.is (P:Program)(t:TypeId):FK->Bool
 |.i k=>match P.underlying t with|some (.int k')=>k'==k|_=>false
 |.s=>match P.underlying t with|some .string=>true|_=>false
 |.b=>match P.underlying t with|some .bool=>true|_=>false
def FK.ok:FK->Value->Prop
 |.i k,v=> ∃z,v= .int k z/\(Lit.int k z).wf=true
 |.s,v=> ∃x:ByteArray,v= .string x/\x.size<=maxLen
 |.b,v=> ∃x,v= .bool x
def svOf:Value->SV
 |.int k z=> .int k z
 |.string x=> .str x
 |.bool x=> .bool x
 |v=> .raw v
theorem FK.den {β:Env}{k:FK}{v:Value}(h:k.ok v):den β (svOf v) v/\(svOf v).scalar=true/\∀m,(svOf v).lt m:=by
 cases k<;>simp only[FK.ok] at h
 ·obtain⟨z,rfl,_⟩:=h;exact⟨rfl,rfl,fun _=>trivial⟩
 ·obtain⟨z,rfl,_⟩:=h;exact⟨rfl,rfl,fun _=>trivial⟩
 ·obtain⟨z,rfl⟩:=h;exact⟨rfl,rfl,fun _=>trivial⟩
def okRow:List FK->List Value->Prop
 |[],[]=>True
 |k::ks,v::vs=>k.ok v/\okRow ks vs
 |_,_=>False
theorem okRow_len:∀{ks:List FK} {vs:List Value},okRow ks vs->vs.length=ks.length
 |[],[],_=>rfl
 |_::_,_::_,h=>by simp[okRow_len h.2]
 |[],_::_,h=>h.elim
 |_::_,[],h=>h.elim
theorem okRow_get:∀{ks:List FK} {vs:List Value},okRow ks vs->∀(j:Nat) (v:Value),vs[j]? =some v->∃k:FK,k.ok v
 |[],[],_,j,v,h=>by simp at h
 |k::_,_::_,h,j,v,hj=>by
  cases j with
  |zero=>simp at hj;subst hj;exact⟨k,h.1⟩
  |succ j=>simp at hj;exact okRow_get h.2 j v hj
 |[],_::_,h,_,_,_=>h.elim
 |_::_,[],h,_,_,_=>h.elim
def fldsB (P:Program)(fs:Array Field):Nat->List FK->Bool
 |i,[]=>i==fs.size
 |i,k::ks=>(match fs[i]? with|some f=>f.offset==i && P.cellsOf f.type==1 && k.is P f.type|none=>false) && fldsB P fs (i+1) ks
def flatB (P:Program)(t:TypeId)(ks:List FK):Bool:=
 P.cellsOf t==ks.length && (match P.underlying t with
  |some (.struct fs)=>fldsB P fs 0 ks
  |_=>match ks with|[k]=>k.is P t|_=>false)
section
variable {H:Type} {enc:TypeId×Value->H} {P:Program} {w:World} {base:Nat} {sp:Nat->Bool} {held:Bool}
theorem one_open {k:FK}{t:TypeId}{fuel:Nat}{cs:List Value}{x:DataW H×List MemPlace}(hk:k.is P t=true)(h:DataW.trod enc P w base sp held fuel t cs=some x):∃v,cs=[v]/\k.ok v:=by
 cases k<;>simp only[FK.is] at hk
 ·split at hk
  ·rename_i k' hu;obtain rfl:=eq_of_beq hk;obtain⟨n,rfl,_,hw⟩:=Jj hu h;exact⟨_,rfl,n,rfl,hw⟩
  ·cases hk
 ·split at hk
  ·rename_i hu;obtain⟨s,rfl,_,hs⟩:=jX hu h;exact⟨_,rfl,s,rfl,hs⟩
  ·cases hk
 ·split at hk
  ·rename_i hu;obtain⟨b,rfl,_⟩:=yB hu h;exact⟨_,rfl,b,rfl⟩
  ·cases hk
theorem flds_open {fs:Array Field}{n:Nat}{cs:List Value}{xs:List (DataW H×List MemPlace)}(hx:xs.length=fs.size)(hf:∀(i:Nat) (f:Field),fs[i]? =some f->DataW.trod enc P w base sp held n f.type ((cs.drop f.offset).take (P.cellsOf f.type))=xs[i]?):
  ∀(ks:List FK) (i:Nat),fldsB P fs i ks=true->i+ks.length=cs.length->okRow ks (cs.drop i)
 |[],i,_,hl=>by rw[jR (by simp at hl;omega)];trivial
 |k::ks,i,h,hl=>by
  simp only[fldsB,qh] at h;obtain⟨h1,h2⟩:=h;simp only[QK] at hl
  split at h1
  ·rename_i f hfi;simp only[qh,qv] at h1;obtain⟨⟨h3,h4⟩,h5⟩:=h1;have h6:=hf i f hfi;have hi:i<xs.length:=by rw[hx];exact(q9.1 hfi).1
   rw[h3,h4,qF hi] at h6;obtain⟨v,hv,hok⟩:=one_open h5 h6;rw[QB (by omega),jz,jO] at hv;rw[QB (by omega)];have:cs[i]=v:=by simpa using hv
   rw[this];exact⟨hok,flds_open hx hf ks (i+1) h2 (by omega)⟩
  ·cases h1
theorem flat_open {t:TypeId}{ks:List FK}{fuel:Nat}{cs:List Value}{x:DataW H×List MemPlace}(hb:flatB P t ks=true)(h:DataW.trod enc P w base sp held fuel t cs=some x):okRow ks cs:=by
 simp only[flatB,qh,qv] at hb;obtain⟨hc,hb⟩:=hb
 split at hb
 ·rename_i fs hu;obtain⟨xs,m,_,_,hl,hxl,hf⟩:=yj hu h;have:=flds_open hxl hf ks 0 hb (by omega);rwa [jN] at this
 ·split at hb
  ·rename_i k;obtain⟨v,rfl,hok⟩:=one_open hb h;exact⟨hok,trivial⟩
  ·cases hb
structure RwIn (w:World) (v:Value) (q:Option Loc) (ks:List FK) (rows:List (List Value)):Prop where
 len:rows.length<=maxLen
 ok:∀r∈rows,okRow ks r
 val:∃a c,v= .slice a rows.length c/\rows.length<=c/\(0<rows.length->∃L,q=some L/\a=some ⟨L.blk,L.off,none⟩)
 mem:(rows.length=0/\q=none)\/∃L,q=some L/\L.sz=ks.length/\L.blk<w.heap.size/\∀(i:Nat) (r:List Value),rows[i]? =some r->∀(j:Nat) (u:Value),r[j]? =some u->w.cell? ⟨L.blk,L.off+i*ks.length+j,none⟩=some u
theorem rows_open {t e:TypeId}{ks:List FK}{v:Value}{d:DataW H}{p:List MemPlace}(ht:P.underlying t=some (.slice e))(hb:flatB P e ks=true)(hk0:0<ks.length){b0:Nat}
  (hval:Value.okWide P w .any b0 t v) (h:DataW.Trod enc P w base sp held t v d p):∃q rows,RwIn w v q ks rows:=by
 obtain⟨n,hn⟩:=h;obtain⟨a0,l0,c0,rfl⟩:=okWide_slice ht hval;have hce:P.cellsOf e=ks.length:=by simp only[flatB,qh,qv] at hb;exact hb.1
 have hcs:(Value.slice a0 l0 c0).cells.toList=[Value.slice a0 l0 c0]:=rfl;rw[hcs] at hn;rcases Deep.open_slice ht hn with⟨hv,_⟩|⟨a,len,cap,m,n',D,Pl,hv,hbb,hlc,hcm,hmm,_,hel⟩
 ·cases hv
  exact⟨none,[],⟨by simp,by simp,⟨none,0,rfl,by simp,by simp⟩,.inl ⟨rfl,rfl⟩⟩⟩
 ·cases hv
  have hml:l0<=m:=by rw[hmm];split<;>omega
  obtain⟨R,hR⟩:=Deep.choose_lt (α:=List Value) (p:=fun i cs=>w.cells? base (a.add (i*P.cellsOf e)) (P.cellsOf e)=some cs/\DataW.trod enc P w base sp held n' e cs=some (D i,Pl i)) hel;have hrl:((List.range l0).map R).length=l0:=by simp
  have hget:∀i r,((List.range l0).map R)[i]? =some r->i<l0/\r=R i:=fun i r h=>by
   simp only[qG,qH] at h;obtain⟨k,h1,h2⟩:=h
   have hi:i<l0:=by
    rcases qZ i l0 with h|h
    ·exact h
    ·rw[qI (by simpa using h)] at h1;cases h1
   rw[jc hi] at h1
   cases h1
   exact⟨hi,h2.symm⟩
  have hok:∀i,i<m->okRow ks (R i):=fun i hi=>flat_open hb (hR i hi).2
  have hrow:∀r∈(List.range l0).map R,okRow ks r:=fun r hr=>by
   obtain⟨i,hi,rfl⟩:=Qy.1 hr;exact hok i (by have:=Qd.1 hi;omega)
  by_cases h0:l0=0
  ·subst h0;exact⟨none,[],⟨by simp,by simp,⟨some a,c0,rfl,by simp,by simp⟩,.inl ⟨rfl,rfl⟩⟩⟩
  ·have hcell:∀i,i<l0->∀(j:Nat) (u:Value),(R i)[j]? =some u->w.cell? ((a.add (i*ks.length)).add j)=some u:=fun i hi j u hj=>by
    obtain⟨h1,h2⟩:=hR i (by omega);obtain⟨_,hlen,hc⟩:=yn h1;have hjl:j<P.cellsOf e:=by rw[<-hlen];exact(q6.1 hj).1
    rw[<-hce,hc j hjl];exact hj
   have hr0:∃u,(R 0)[0]? =some u:=by
    have:=okRow_len (hok 0 (by omega));exact⟨_,qF (by omega)⟩
   obtain⟨u0,hu0⟩:=hr0;have hc0:=hcell 0 (by omega) 0 u0 hu0;have hsp:a.spot=none:=yz (by unfold Addr.add at hc0;simpa using hc0);obtain⟨b,o,s0⟩:=a;simp only at hsp;subst hsp
   have hblk:b<w.heap.size:=by
    rw[z4h,z4h] at hc0;unfold World.cell? at hc0;rcases qZ b w.heap.size with h|h
    ·exact h
    ·simp[q8 h] at hc0
   refine⟨some ⟨b,o,ks.length,0⟩,(List.range l0).map R,⟨by omega,hrow,⟨some ⟨b,o,none⟩,c0,by rw[hrl],by omega,fun _=>⟨_,rfl,rfl⟩⟩,.inr ⟨_,rfl,rfl,hblk,fun i r hr j u hj=> ?_⟩⟩⟩;obtain⟨hi,rfl⟩:=hget i r hr;have:=hcell i hi j u hj;rw[z4h,z4h] at this;exact this
end
theorem rows_in {β:Env}{w:World}{v:Value}{q:Option Loc}{ks:List FK}{rows:List (List Value)}(h:RwIn w v q ks rows){id:Nat}(hq:β id 0=q)(e:TypeId)(f:Nat->List SV)(hf:∀(i:Nat) (r:List Value),rows[i]? =some r->f i=r.map svOf):
  den β (.slc false id 0 0 rows.length) v/\(Obj.row ⟨false,false,e,ks.length,rows.length,f⟩).holds β w q:=by
 obtain⟨_,hok,⟨a,c,rfl,hc,hp⟩,hm⟩:=h;refine⟨?_,?_⟩
 ·simp only[den,z5c,qw,Qo];refine⟨a,c,rfl,hc,fun h=> ?_⟩;obtain⟨L,h1,h2⟩:=hp h;exact⟨L,hq.trans h1,by rw[h2];simp⟩
 ·rcases hm with hm|⟨L,h1,h2,h3,h4⟩
  ·exact .inl hm
  ·refine .inr ⟨L,h1,h2,h3,fun i hi=> ?_,fun h=>by cases h⟩;have hi':i<rows.length:=hi;have hr:=qF hi';have hfi:=hf i _ hr;have hoki:=hok _ (qN hi')
   show(f i).length=ks.length/\∀(j:Nat) (s:SV),(f i)[j]? =some s->_
   rw[hfi];refine⟨by rw[qA];exact okRow_len hoki,fun j s hs=> ?_⟩;rw[qG,qH] at hs;obtain⟨u,hu,rfl⟩:=hs;obtain⟨k,hk⟩:=okRow_get hoki j u hu;obtain⟨g1,g2,_⟩:=FK.den (β:=β) hk;refine⟨g2,u,?_,g1⟩;rw[h2];exact h4 i _ hr j u hu
def strData {H:Type}(ss:List ByteArray):DataW H:= .agg (ss.map fun s=> .lit (.string s.data.toList))
theorem cells_of_strs {H:Type}{enc:TypeId×Value->H}{P:Program}{w:World}{base:Nat}{sp:Nat->Bool}{held:Bool}{fuel:Nat}{t e:TypeId}{n:Nat}{cs:List Value}{ss:List ByteArray}{p:List MemPlace}
  (ht:P.underlying t=some (.array n e)) (he:P.underlying e=some .string) (hce:P.cellsOf e=1) (hct:P.cellsOf t=n)
  (h:DataW.trod enc P w base sp held fuel t cs=some (strData ss,p)):cs=ss.map Value.string:=by
 cases fuel with
 |zero=>simp[DataW.trod] at h
 |succ fuel=>
  simp only[DataW.trod,ht,hce,hct,jT] at h
  split at h
  ·rename_i hl;obtain⟨xs,hm,hx⟩:=qH.1 h
   have hxs:xs.map (·.1)=ss.map fun s=>(DataW.lit (.string s.data.toList):DataW H):=by
    have:=Qj Prod.fst hx;simpa [strData] using this
   have hxl:xs.length=n:=by simpa using Lib.mapM_length hm
   have hzl:ss.length=n:=by
    have:=Qj List.length hxs;simp at this;omega
   apply jp;intro i
   by_cases hi:i<n
   ·obtain⟨b,hb,hf⟩:=Lib.mapM_at hm i i (by simp[hi]);obtain⟨z,hc,rfl,_⟩:=jX he hf
    have h1:cs[i]? =some (.string z):=by
     have:=Qj (·[0]?) hc;simpa [Qc,QF] using this
    have h2:(xs.map (·.1))[i]? =some (DataW.lit (.string z.data.toList):DataW H):=by simp[hb]
    rw[hxs] at h2;simp only[qG,qH,j9,yu] at h2;obtain⟨z',hz',he'⟩:=h2
    have:z'=z:=by
     cases z' with
     |mk a=>cases z with
      |mk b=>congr 1;exact j4.1 he'
    subst this;simp[h1,hz']
   ·rw[qI (by omega),qI (by simp;omega)]
  ·cases h
end Go.Sk
namespace Go.Sk
open Go.RowKit Go.ChangeShapes Go.WideShapes
theorem LaidVars_at {P:Program}{w:World}{n:String}{d:DataW Unit}:∀{l:List (String×DataW Unit)} {ps:List MemPlace},DataW.LaidVars P w l ps->(n,d)∈l->
  ∃g t cs fuel p,P.globalNamed n=some g/\(P.globals[g]?).map (·.type)=some t/\w.var? P n=some cs/\DataW.trod (fun _=>()) P w 0 (fun _=>true) false fuel t cs.toList=some (d,p)
 |[],_,_,h=>by cases h
 |(m,e)::r,ps,⟨g,t,cs,fuel,p,q,h1,h2,h3,h4,h5,_⟩,h=>by
  cases h with
  |head=>exact⟨g,t,cs,fuel,p,h1,h2,h3,h4⟩
  |tail _ h=>exact LaidVars_at h5 h
theorem tabs_of_mem {P:Program}{W:World}{laid:List (String×DataW Unit)}{name:String}{g:Nat}{t e:TypeId}(hg:P.globalNamed name=some g)(hty:(P.globals[g]?).map (·.type)=some t)(ht:P.underlying t=some (.array 6 e))(he:P.underlying e=some .string)(hce:P.cellsOf e=1)(hct:P.cellsOf t=6)
  (hone:(List.range P.globals.size).all (fun i=> !tabG P i||i==g)=true) (hm:(name,strData letters)∈laid) (h:laidMet P laid W):∀i,tabG P i=true->i<W.heap.size/\TabAt W i:=by
 obtain⟨ps,h,_⟩:=h;obtain⟨g',t',cs,fuel,p,hg',ht',hvar,hd⟩:=LaidVars_at h hm;obtain rfl:=Qz (hg.symm.trans hg');obtain rfl:=Qz (hty.symm.trans ht');have hcs:=cells_of_strs ht he hce hct hd;intro i hi
 have hlt:i<P.globals.size:=by
  rcases qZ i P.globals.size with h|h
  ·exact h
  ·unfold tabG at hi;rw[q8 h] at hi;cases hi
 have h1:=qu.1 hone i (Qd.2 hlt);rw[hi] at h1;have:i=g:=by simpa using h1
 subst this
 have hat:TabAt W i:=fun j s hj=>by
  have:=Jb hg hvar j;rw[this,<-Qw,hcs,qG,hj]
  rfl
 refine⟨?_,hat⟩;have h0:=hat 0 _ (show letters[0]? =some _ from rfl);unfold World.cell? at h0;rcases qZ i W.heap.size with h|h
 ·exact h
 ·simp[q8 h] at h0
def byteData {H:Type}(ns:List Int):DataW H:= .agg (ns.map fun n=> .lit (.int .u8 n))
theorem cells_of_bytes {H:Type}{enc:TypeId×Value->H}{P:Program}{w:World}{base:Nat}{sp:Nat->Bool}{held:Bool}{fuel:Nat}{t e:TypeId}{n:Nat}{cs:List Value}{ss:List Int}{p:List MemPlace}
  (ht:P.underlying t=some (.array n e)) (he:P.underlying e=some (.int .u8)) (hce:P.cellsOf e=1) (hct:P.cellsOf t=n)
  (h:DataW.trod enc P w base sp held fuel t cs=some (byteData ss,p)):cs=ss.map (Value.int .u8 ·):=by
 cases fuel with
 |zero=>simp[DataW.trod] at h
 |succ fuel=>
  simp only[DataW.trod,ht,hce,hct,jT] at h
  split at h
  ·rename_i hl;obtain⟨xs,hm,hx⟩:=qH.1 h
   have hxs:xs.map (·.1)=ss.map fun s=>(DataW.lit (.int .u8 s):DataW H):=by
    have:=Qj Prod.fst hx;simpa [byteData] using this
   have hxl:xs.length=n:=by simpa using Lib.mapM_length hm
   have hzl:ss.length=n:=by
    have:=Qj List.length hxs;simp at this;omega
   apply jp;intro i
   by_cases hi:i<n
   ·obtain⟨b,hb,hf⟩:=Lib.mapM_at hm i i (by simp[hi]);obtain⟨z,hc,rfl,_⟩:=Jj he hf
    have h1:cs[i]? =some (.int .u8 z):=by
     have:=Qj (·[0]?) hc;simpa [Qc,QF] using this
    have h2:(xs.map (·.1))[i]? =some (DataW.lit (.int .u8 z):DataW H):=by simp[hb]
    rw[hxs] at h2;simp only[qG,qH,j9,Lit.int.injEq,QT] at h2;obtain⟨z',hz',rfl⟩:=h2;simp[h1,hz']
   ·rw[qI (by omega),qI (by simp;omega)]
  ·cases h
theorem tabsB_of_mem {P:Program}{W:World}{laid:List (String×DataW Unit)}{name:String}{g:Nat}{t e:TypeId}(hg:P.globalNamed name=some g)(hty:(P.globals[g]?).map (·.type)=some t)(ht:P.underlying t=some (.array 32 e))(he:P.underlying e=some (.int .u8))(hce:P.cellsOf e=1)(hct:P.cellsOf t=32)
  (hone:(List.range P.globals.size).all (fun i=> !tabBG P i||i==g)=true) (hm:(name,byteData db32)∈laid) (h:laidMet P laid W):∀i,tabBG P i=true->i<W.heap.size/\TabBAt W i:=by
 obtain⟨ps,h,_⟩:=h;obtain⟨g',t',cs,fuel,p,hg',ht',hvar,hd⟩:=LaidVars_at h hm;obtain rfl:=Qz (hg.symm.trans hg');obtain rfl:=Qz (hty.symm.trans ht');have hcs:=cells_of_bytes ht he hce hct hd;intro i hi
 have hlt:i<P.globals.size:=by
  rcases qZ i P.globals.size with h|h
  ·exact h
  ·unfold tabBG at hi;rw[q8 h] at hi;cases hi
 have h1:=qu.1 hone i (Qd.2 hlt);rw[hi] at h1;have:i=g:=by simpa using h1
 subst this
 have hat:TabBAt W i:=fun j s hj=>by
  have:=Jb hg hvar j;rw[this,<-Qw,hcs,qG,hj]
  rfl
 refine⟨?_,hat⟩;have h0:=hat 0 _ (show db32[0]? =some _ from rfl);unfold World.cell? at h0;rcases qZ i W.heap.size with h|h
 ·exact h
 ·simp[q8 h] at h0
end Go.Sk
namespace Go.Proofs
open Tryz
open Go.Sk
section
def Ex (fo:Fo)(E:Int->Bool):Prop:=
 (∀x∈fo.ns,busyF fo.cb x.id=false->z4c fo.ly x.id 0= !E x.id)/\∀q,q<fo.cb.length->(cbA fo.cb q).kind≠0->E (cbA fo.cb q).node=((cbA fo.cb q).kind==1)
theorem goneF_begin {L:List Ly}{p:Int}{c:Cb}(hi:(plI L c.node c.lvl).toNat<L.length)(id lv:Int):z4c (beginL L p c) id lv=z4c L id lv:=by
 rw[beginL,goneF_up hi]
 split
 ·rename_i e;rw[z4c,e]
 ·rfl
theorem cbA_set {C:List Cb}{p:Nat}(hp:p<C.length)(c:Cb)(q:Nat):cbA (C.set p c) q=if q=p then c else cbA C q:=by
 split
 ·rename_i e;subst e;exact z3m hp
 ·rename_i e;exact z5a (QD e)
theorem nxC_facts (c:Cb):(nxC c).node=c.node/\(nxC c).kind=c.kind/\(nxC c).lvl=if c.kind=1 then c.lvl+1 else c.lvl-1:=by
 refine⟨?_,?_,?_⟩<;>unfold nxC<;>split<;>rfl
section
variable {fo:Fo} {ls:Nat->List Int} {E:Int->Bool}
theorem FI.ex_start (h:FI fo ls){p kind id:Int}(he:z28 fo p kind id=0)(hx:Ex fo E):Ex (z15 fo p kind id) (fun v=>if v=id then kind==1 else E v)/\E id=(kind==2):=by
 obtain⟨x,s⟩:=h.sok he;have hf:=z1z.1 s.free;have hp:=s.pl;rw[z15,qf he];have hb:(begC fo.ht kind id).kind=kind:=rfl;have hbn:(begC fo.ht kind id).node=id:=rfl;have hbl:(begC fo.ht kind id).lvl=if kind=2 then fo.ht else 0:=rfl;have h0:=h.sh.h0;obtain⟨i,k,a⟩:=h.sh.place s.mm (lv:=(begC fo.ht kind id).lvl) (by rw[hbl];split<;>omega) (by rw[hbl];split<;>omega);have hI:=a.pI;rw[s.ide] at hI;have hi:(plI fo.ly (begC fo.ht kind id).node (begC fo.ht kind id).lvl).toNat<fo.ly.length:=by rw[hbn,hI,qz];exact a.hi
 refine⟨⟨fun y hy hbz=> ?_,fun q hq hk=> ?_⟩,?_⟩
 ·dsimp only at hy hbz ⊢;have hbz:=z1z.1 hbz
  have hne:y.id≠id:=fun e=>by
   have:=hbz p.toNat (by rw[qD];exact hp) (by rw[z3m hp,hb];have:=s.k;omega);rw[z3m hp,hbn] at this;exact this e.symm
  rw[goneF_begin hi,qb hne];refine hx.1 y hy (z1z.2 fun q hq hk=> ?_);have:=hbz q (by rw[qD];exact hq);rw[cbA_set hp] at this
  by_cases e:q=p.toNat
  ·subst e;exact absurd s.idle hk
  ·rw[qb e] at this;exact this hk
 ·dsimp only at hq hk ⊢;rw[qD] at hq;rw[cbA_set hp] at hk ⊢
  by_cases e:q=p.toNat
  ·rw[qf e,hbn,hb,qf rfl]
  ·rw[qb e] at hk ⊢;rw[qb (hf q hq hk)];exact hx.2 q hq hk
 ·have:=hx.1 x s.mm (by rw[s.ide];exact s.free);have hm:=memF_gone h.sh s.mm (jC 0) h0;rw[s.ide,s.mem] at hm;rw[s.ide] at this;rw[this] at hm;rw[hm,jB]
theorem FI.ex_step (h:FI fo ls){p:Int}(hs:z3w fo p=true)(hx:Ex fo E):Ex (z21 fo p) E:=by
 have hs0:=hs;unfold z3w at hs;rw[h.vf,qV,qh,qh,inC_iff,qU] at hs;obtain⟨⟨⟨p0,pl⟩,hk⟩,hs⟩:=hs;have hp:p.toNat<fo.cb.length:=by omega
 unfold z21;rw[h.vf,hs0];simp only[Qp,qw,Qo,Qi];obtain⟨x,i,k,hw,ha,hc1,hc2,hc3,hc4⟩:=h.stands hp hk;have hI:=ha.pI;rw[hw.id] at hI;have hcur:curI fo p=i:=by rw[curI,hI,qz]
 obtain⟨hnn,hnk,hnl⟩:=nxC_facts (cbA fo.cb p.toNat);have h0:=h.sh.h0
 by_cases he:endB fo p=true
 ·rw[qf he] at hs;rw[qf he];rw[endB,hcur,qv] at he;have hlow:=h.low p.toNat hp hk;have hgn:=ha.gone;rw[hw.id] at hgn;have hl0:=hw.l0;have hlh:=hw.lh
  have here:z4c fo.ly (cbA fo.cb p.toNat).node (cbA fo.cb p.toNat).lvl=((cbA fo.cb p.toNat).kind==2):=by
   rw[hgn];rcases hw.k with e|e
   ·have:=hc4.i2 (by rw[hc2,e]) (by omega);rw[hc1] at this;rw[this,e];rfl
   ·have:=hc4.r2 (by rw[hc2,e]) (by omega);rw[hc1] at this;rw[this,e];rfl
  by_cases ho:outB fo.ht (nxC (cbA fo.cb p.toNat))=true
  ·rw[qf ho];rw[outB,qr,qj,qj,hnl] at ho
   have hz:z4c fo.ly (cbA fo.cb p.toNat).node 0=((cbA fo.cb p.toNat).kind==2):=by
    by_cases e:(0:Int)=(cbA fo.cb p.toNat).lvl
    ·rw[e];exact here
    ·have:=hlow 0 (jC 0) h0;rcases hw.k with e1|e1
     ·rw[qf e1] at ho;rw[this.1 (by omega),e1];rfl
     ·rw[qb (by omega)] at ho;omega
   refine⟨fun y hy hbz=> ?_,fun q hq hkq=> ?_⟩
   ·dsimp only at hy hbz ⊢
    by_cases e:y.id=(cbA fo.cb p.toNat).node
    ·rw[e,hz,hx.2 p.toNat hp hk];rcases hw.k with e1|e1<;>rw[e1]<;>rfl
    ·refine hx.1 y hy (z1z.2 fun q hq hkq=> ?_);have:=z1z.1 hbz q (by rw[qD];exact hq);rw[cbA_set hp] at this
     by_cases e2:q=p.toNat
     ·subst e2;exact fun g=>e g.symm
     ·rw[qb e2] at this;exact this hkq
   ·dsimp only at hq hkq ⊢;rw[qD] at hq;rw[cbA_set hp] at hkq ⊢
    by_cases e2:q=p.toNat
    ·rw[qf e2] at hkq;exact absurd rfl hkq
    ·rw[qb e2] at hkq ⊢;exact hx.2 q hq hkq
  ·rw[qb ho];have ho:outB fo.ht (nxC (cbA fo.cb p.toNat))=false:=by simpa using ho
   rw[outB,qi,qg,qg] at ho;obtain⟨j,m,b⟩:=h.sh.place hw.mm (lv:=(nxC (cbA fo.cb p.toNat)).lvl) (by omega) (by omega);have hJ:=b.pI;rw[hw.id,<-hnn] at hJ;have hj:(plI fo.ly (nxC (cbA fo.cb p.toNat)).node (nxC (cbA fo.cb p.toNat)).lvl).toNat<fo.ly.length:=by rw[hJ,qz];exact b.hi
   have hcb:∀q,(cbA (fo.cb.set p.toNat (nxC (cbA fo.cb p.toNat))) q).kind=(cbA fo.cb q).kind/\(cbA (fo.cb.set p.toNat (nxC (cbA fo.cb p.toNat))) q).node=(cbA fo.cb q).node:=fun q=>by
    rw[cbA_set hp]
    split
    ·rename_i e;subst e;exact⟨hnk,hnn⟩
    ·exact⟨rfl,rfl⟩
   refine⟨fun y hy hbz=> ?_,fun q hq hkq=> ?_⟩
   ·dsimp only at hy hbz ⊢;rw[goneF_begin hj];refine hx.1 y hy (z1z.2 fun q hq hkq=> ?_);have:=z1z.1 hbz q (by rw[qD];exact hq);rw[(hcb q).1,(hcb q).2] at this;exact this hkq
   ·dsimp only at hq hkq ⊢;rw[qD] at hq;rw[(hcb q).1] at hkq;rw[(hcb q).1,(hcb q).2];exact hx.2 q hq hkq
 ·rw[qb he] at hs;rw[qb he];rw[hcur] at hs ⊢;have hinv:=h.inv i ha.hi
  have hq:goesB (lyA fo.ly i).ps p=true:=by
   rw[goesB,(h.sh.at_ i ha.hi).pn,qk,qi,qg,qg];omega
  have hr:stepR (lyA fo.ly i).cs (lyA fo.ly i).ps p=(z2a (lyA fo.ly i).cs p.toNat (pr (lyA fo.ly i).ps p.toNat),(lyA fo.ly i).ps.set p.toNat (z2d (lyA fo.ly i).cs (pr (lyA fo.ly i).ps p.toNat))):=by
   rw[stepOk,hinv.vb,qV] at hs;rw[stepR,hinv.vb,hs];rfl
  rw[stepOk,hinv.vb,qV,hq,qV] at hs;rw[hr];have t:=Tr.of (p:=p.toNat) hs;have hact:=step_act hs;obtain⟨l',hi,hl',hF,off⟩:=h.layer hp hk hI hact t;refine⟨fun y hy hbz=> ?_,hx.2⟩;dsimp only at hy hbz ⊢;have hne:=z1z.1 hbz p.toNat hp hk;rw[off y hy 0 (jC 0) h0 (.inl (QD hne))];exact hx.1 y hy hbz
theorem Ex.idle (hx:Ex fo E)(hi:∀q,q<fo.cb.length->(cbA fo.cb q).kind=0){x:Nd}(hm:x∈fo.ns):z4c fo.ly x.id 0= !E x.id:=
 hx.1 x hm (z1z.2 fun q hq hk=>absurd (hi q hq) hk)
theorem Ex.of (hi:∀q,q<fo.cb.length->(cbA fo.cb q).kind=0)(he:∀x∈fo.ns,z4c fo.ly x.id 0= !E x.id):Ex fo E:=
 ⟨fun x hm _=>he x hm,fun q hq hk=>absurd (hi q hq) hk⟩
theorem z2v (h:FI fo ls)(p:Int):(z21 fo p).ns=fo.ns/\(z21 fo p).ht=fo.ht/\(z21 fo p).cb.length=fo.cb.length/\(z21 fo p).ly.length=fo.ly.length:=by
 unfold z21;rw[h.vf];simp only[Qp,qw,Qo]
 split
 ·split
  ·split
   ·exact⟨rfl,rfl,qD,rfl⟩
   ·exact⟨rfl,rfl,qD,z5f ..⟩
  ·exact⟨rfl,rfl,rfl,z5f ..⟩
 ·exact⟨rfl,rfl,rfl,rfl⟩
theorem startFR_keeps {p kind id:Int}(he:z28 fo p kind id=0):(z15 fo p kind id).ns=fo.ns/\(z15 fo p kind id).ht=fo.ht/\(z15 fo p kind id).cb.length=fo.cb.length/\(z15 fo p kind id).ly.length=fo.ly.length:=by
 rw[z15,qf he];exact⟨rfl,rfl,qD,z5f ..⟩
theorem busyN_zero {C:List Cb}(h:z2c C=0)(p:Nat)(hp:p<C.length):(cbA C p).kind=0:=by
 have:=sumR_ge (f:=fun p=>((cbA C p).kind !=0).toNat) hp;unfold z2c at h;rw[h] at this
 by_cases e:(cbA C p).kind=0
 ·exact e
 ·rw[qU.2 e] at this;exact absurd this (by decide)
theorem busyN_pos {C:List Cb}(h:0<z2c C):∃p,p<C.length/\(cbA C p).kind≠0:=by
 rcases Classical.em (∃p,p<C.length/\(cbA C p).kind≠0) with g|g
 ·exact g
 ·have:z2c C=0:=by
   rw[z2c,sumR_congr (f:=fun _=>0),sumR_zero];intro i hi;have:(cbA C i).kind=0:=QH fun e=>g ⟨i,hi,e⟩;simp[this]
  omega
theorem FI.phi_busy (h:FI fo ls){M:Nat}(hM:z2c fo.cb<=M)(hb:0<z2c fo.cb):0<Phi fo ls (z2o fo M):=by
 obtain⟨p,hp,hk⟩:=busyN_pos hb;obtain⟨q,hq,_,hqs⟩:=h.can hp hk;obtain⟨ls',_,g⟩:=h.step hqs hM;omega
theorem stepsN_keeps (h:FI fo ls)(p:Int)(M:Nat):z2o (z21 fo p) M=z2o fo M:=by rw[z2o,z2o,(z2v h p).1]
theorem busyN_step (h:FI fo ls)(p:Int):z2c (z21 fo p).cb<=z2c fo.cb:=by
 unfold z21;rw[h.vf];simp only[Qp,qw,Qo]
 split
 ·rename_i hs;have hs:=hs;unfold z3w at hs;rw[h.vf,qV,qh,qh,inC_iff,qU] at hs;obtain⟨⟨⟨p0,pl⟩,hk⟩,hs⟩:=hs;have hp:p.toNat<fo.cb.length:=by omega
  have set_le:∀c:Cb,z2c (fo.cb.set p.toNat c)<=z2c fo.cb:=fun c=>by
   unfold z2c;rw[qD];refine sumR_le fun i hi=> ?_;rw[cbA_set hp]
   split
   ·rename_i e;subst e;rw[qU.2 hk];exact Bool.toNat_le _
   ·exact qc _
  split
  ·split
   ·exact set_le _
   ·exact set_le _
  ·exact qc _
 ·exact qc _
end
end
section
theorem adj_split {A B:List Nd}{x:Nd}(hd:∀i j,i<(A++x::B).length->j<(A++x::B).length->(nd (A++x::B) i).id=(nd (A++x::B) j).id->i=j):
  adjN (A++x::B) x.id=((A.getLast?.map (·.id)).getD 0,(B.head?.map (·.id)).getD 0):=by
 have hl:A.length<(A++x::B).length:=by simp
 have hx:nd (A++x::B) A.length=x:=by simp[nd,List.getD]
 have hi:idN (A++x::B) x.id=A.length:=by
  rw[idN];have:=findI_at hd hl;rw[hx] at this;rw[this];exact qz _
 rw[adjN,hi]
 congr 1
 ·rcases JU A with e|⟨A',y,e⟩
  ·subst e;simp
  ·rw[JT] at e;subst e;rw[qf (by simp)];simp[nd,List.getD,Qv]
 ·cases B with
  |nil=>simp
  |cons y B=>
   rw[qf (by simp)];simp[nd,List.getD,QI]
theorem take_last {α:Type}{P:α->Bool}:∀(n:Nat) {l:List α} {y:α},l.length=n->(l.filter P).getLast? =some y->∃k,∃h:k<l.length,l[k]=y/\P y=true/\∀q (hq:q<l.length),k<q->P l[q]=false
 |0,l,y,hn,h=>by
  have:l=[]:=jb hn;subst this;cases h
 |n+1,l',y,hn,h=>by
  obtain⟨l,z,e⟩:∃l z,l'=l++[z]:=by
   rcases JU l' with e|⟨l,z,e⟩
   ·subst e;cases hn
   ·exact⟨l,z,by rw[e,JT]⟩
  subst e;have ih:=take_last (P:=P) n (l:=l) (y:=y) (by simpa using hn);rw[QW] at h
  cases hz:P z with
  |true=>
   rw[show [z].filter P=[z] by simp[hz]] at h;have:z=y:=by simpa using h
   subst this;refine⟨l.length,by simp,by simp,hz,fun q hq hlt=> ?_⟩;simp at hq;omega
  |false=>
   rw[show [z].filter P=[] by simp[hz],QN] at h;obtain⟨k,hk,e,hp,hq⟩:=ih h;refine⟨k,by simp;omega,by rw[JA hk];exact e,hp,fun q hq2 hlt=> ?_⟩
   by_cases g:q<l.length
   ·rw[JA g];exact hq q g hlt
   ·have:q=l.length:=by simp at hq2;omega
    subst this;simpa using hz
theorem drop_head {α:Type}{P:α->Bool}:∀{l:List α} {y:α},(l.filter P).head? =some y->∃k,∃h:k<l.length,l[k]=y/\P y=true/\∀q (hq:q<l.length),q<k->P l[q]=false
 |[],y,h=>by cases h
 |z::l,y,h=>by
  cases hz:P z with
  |true=>
   rw[JF hz] at h;have:z=y:=by simpa using h
   subst this;exact⟨0,by simp,rfl,hz,fun q _ hq=>by omega⟩
  |false=>
   rw[List.filter_cons_of_neg (by simp[hz])] at h;obtain⟨k,hk,e,hp,hq⟩:=drop_head h;refine⟨k+1,by simp;omega,by simpa using e,hp,fun q hq2 hlt=> ?_⟩
   cases q with
   |zero=>simpa using hz
   |succ q=>simpa using hq q (by simpa using hq2) (by omega)
section
variable {fo:Fo} {ls:Nat->List Int}
def hereB (fo:Fo)(x:Nd):Bool:= !z4c fo.ly x.id 0
theorem FI.link_idle (h:FI fo ls)(hid:∀q,q<fo.cb.length->(cbA fo.cb q).kind=0){x:Nd}{lv:Int}{i k:Nat}(a:At fo x lv i k)(hx:hereB fo x=true):
  lnkF (lyA fo.ly i) ((k:Int)+2)=(((((shA (z36 fo.ns fo.ht.toNat) i).2.take k).filter (hereB fo)).getLast?.map (·.id)).getD 0,((((shA (z36 fo.ns fo.ht.toNat) i).2.drop (k+1)).filter (hereB fo)).head?.map (·.id)).getD 0):=by
 have hinv:=h.inv i a.hi;have hat:=h.sh.at_ i a.hi;obtain⟨c,hc⟩:∃c,(shA (z36 fo.ns fo.ht.toNat) i).2=c:=⟨_,rfl⟩;have hids:=hat.ids;have hlen:=hat.len;have hkey:=hat.key;have hsub:=h.sh.sub a.hi;rw[hc] at hids hlen hkey hsub ⊢;obtain⟨cs,hcs⟩:∃cs,(lyA fo.ly i).cs=cs:=⟨_,rfl⟩;obtain⟨L,hL⟩:∃L,ls i=L:=⟨_,rfl⟩;have hcore:=hinv.core
 have hact:∀q,q<(lyA fo.ly i).ps.length->z3h (pr (lyA fo.ly i).ps q)=false:=fun q hq=>by
  rw[hat.pn] at hq;exact h.idl q i hq a.hi (.inl (hid q hq))
 have hgin:∀v,v∈L->gn cs v=false:=fun v hv=>by
  cases hg:gn cs v with
  |false=>rfl
  |true=>
   rw[<-hL] at hv;rw[<-hcs] at hg;obtain⟨q,hq,hp,_⟩:=hinv.gin v hv hg;have:=hact q hq;rw[z3h,hp] at this;cases this
 have hlef:∀v,v∈0::L->v≠1->lf cs (rt cs v)=v:=fun v hv h1=>by
  rw[<-hL] at hv;rw[<-hcs];rcases hinv.lef v hv h1 with e|⟨q,hq,e⟩
  ·exact e
  ·have:=hact q hq;rcases e with⟨e,_⟩|⟨e,_⟩<;>(rw[z3h,e] at this;cases this)
 rw[hcs,hL] at hcore;rw[hcs] at hlen hkey;have hklt:k<c.length:=by have:=a.hk;rw[hids,qA] at this;exact this
 have hck:c[k]=x:=by have:=a.nde;rw[hc,z3e hklt] at this;exact this
 --cells and nodes
 have hlive:∀q (hq:q<c.length),gn cs ((q:Int)+2)= !hereB fo c[q]:=fun q hq=>by
  have b:=h.sh.mk_at (i:=i) (k:=q) a.hi (by rw[hids,qA];exact hq);rw[hc,z3e hq] at b;have e:=b.gone;rw[hcs] at e;rw[<-e,hereB,jB];exact h.lev _ b.mm (z1z.2 fun p hp hk=>absurd (hid p hp) hk) _ b.l0 b.lh
 have hstr:c.Pairwise fun a b=>sLt a.key b.key=true:=(srtN_strict h.sh.ck).sublist hsub;have hpw:=Qb.1 hstr
 have hless:∀p q (hp:p<c.length) (hq:q<c.length),z1p cs ((p:Int)+2) ((q:Int)+2)=true↔p<q:=fun p q hp hq=>by
  have ek:∀z (hz:z<c.length),(cl cs ((z:Int)+2).toNat).key=c[z].key:=fun z hz=>by
   rw[show((z:Int)+2).toNat=z+2 by omega,hkey z hz,z3e hz]
  rw[z1t,ek p hp,ek q hq]
  constructor
  ·rintro⟨h1,h2,h3,h4⟩
   have h4:sLt c[p].key c[q].key=true:=by
    rcases h4 with g|g|g
    ·omega
    ·omega
    ·exact g
   rcases je p q with g|g|g
   ·exact g
   ·subst g;omega
   ·have:=hpw q p hq hp g;rw[sLt_asymm this] at h4;cases h4
  ·intro hlt;exact⟨by omega,by omega,by omega,.inr (.inr (hpw p q hp hq hlt))⟩
 have hin:∀q (hq:q<c.length),hereB fo c[q]=true->((q:Int)+2)∈L:=fun q hq hp=>by
  refine hcore.inl _ (by omega) (by omega) ?_;rw[hlive q hq,hp];rfl
 have hcell:∀v,v∈0::L->v=0\/v=1\/∃q,∃hq:q<c.length,v=(q:Int)+2/\hereB fo c[q]=true:=fun v hv=>by
  have hr:=hcore.rng0 hv
  by_cases h0:v=0
  ·exact .inl h0
  by_cases h1:v=1
  ·exact .inr (.inl h1)
  refine .inr (.inr ⟨(v-2).toNat,by omega,by omega,?_⟩)
  have hv':v∈L:=by
   rcases qB.1 hv with e|e
   ·exact absurd e h0
   ·exact e
  have:=hgin v hv';have hq:(v-2).toNat<c.length:=by omega
  have e:=hlive _ hq;rw[show(((v-2).toNat:Nat):Int)+2=v by omega,this] at e;simpa using e.symm
 have hxk:hereB fo c[k]=true:=by rw[hck];exact hx
 have ha:=hin k hklt hxk
 have hnum:∀q (hq:q<c.length),numF (lyA fo.ly i).ids ((q:Int)+2)=c[q].id:=fun q hq=>by
  rw[numF,qb (by omega),show((q:Int)+2-2).toNat=q by omega,hids,z2n (by rw[qA];exact hq),js]
 have hleft:(cl cs (((k:Int)+2)).toNat).left=lf cs ((k:Int)+2):=rfl;have hright:(cl cs (((k:Int)+2)).toNat).right=rt cs ((k:Int)+2):=rfl;rw[lnkF,hcs,hleft,hright];have hmem:((k:Int)+2)∈0::L:=ql _ ha
 congr 1
 ·--the left side
  obtain⟨p,hp,hp1,hpr⟩:∃p,p∈0::L/\p≠1/\rt cs p=(k:Int)+2:=by
   obtain⟨A,B,e,hA,hB⟩:=hcore.seg.split hmem;rcases JU A with e'|⟨A',y,e'⟩
   ·subst e';have:(0:Int)=(k:Int)+2:=hA;omega
   ·rw[JT] at e';subst e';obtain⟨z,hz1,hz2⟩:=Seg.append.1 hA;have hzm:=hz1.ends;obtain⟨g1,g2,g3,g4⟩:=hz2;refine⟨z,?_,g1,g2.trans g4⟩;rcases qB.1 hzm with e2|e2
    ·rw[e2];exact qn ..
    ·rw[e];exact ql _ (Qa _ (Qa _ e2))
  have hl:=hlef p hp hp1;rw[hpr] at hl;rw[hl];have hlt:z1p cs p ((k:Int)+2)=true:=by rw[<-hpr];exact(hcore.next_mem hp hp1).2
  cases hA:((c.take k).filter (hereB fo)).getLast? with
  |none=>
   have hnil:(c.take k).filter (hereB fo)=[]:=by simpa using hA
   rcases hcell p hp with e|e|⟨q,hq,e,hpq⟩
   ·rw[e];rfl
   ·exact absurd e hp1
   ·rw[e] at hlt;have:=(hless q k hq hklt).1 hlt
    have:c[q]∈(c.take k).filter (hereB fo):=by
     rw[ji];refine⟨List.mem_take_iff_getElem.2 ⟨q,by omega,rfl⟩,hpq⟩
    rw[hnil] at this;cases this
  |some y=>
   obtain⟨q0,hq0,e0,hy,hno⟩:=take_last _ rfl hA;have hlk:(c.take k).length=k:=by rw[qS];omega
   have hq0c:q0<c.length:=by omega
   rw[jd] at e0;have hb:=hin q0 hq0c (by rw[e0];exact hy);have hbm:((q0:Int)+2)∈0::L:=ql _ hb
   have hpe:p=(q0:Int)+2:=by
    rcases hcore.above hp hp1 hbm with g|g|g|g
    ·exact g.symm
    ·exfalso
     rcases hcell p hp with e|e|⟨q,hq,e,hpq⟩
     ·rw[e,lessC_zero] at g;cases g
     ·exact hp1 e
     ·rw[e] at g hlt;have g1:=(hless q0 q hq0c hq).1 g;have g2:=(hless q k hq hklt).1 hlt;have:=hno q (by omega) g1;rw[jd] at this;rw[this] at hpq;cases hpq
    ·exfalso;rw[hpr] at g;omega
    ·exfalso
     rw[hpr] at g;have:=(hless k q0 hklt hq0c).1 g;omega
   rw[hpe,hnum q0 hq0c,e0];rfl
 ·--the right side
  have h1:((k:Int)+2)≠1:=by omega
  obtain⟨hr,hlt⟩:=hcore.next_mem hmem h1;have hrm:rt cs ((k:Int)+2)∈0::L:=ql _ hr
  cases hB:((c.drop (k+1)).filter (hereB fo)).head? with
  |none=>
   have hnil:(c.drop (k+1)).filter (hereB fo)=[]:=by simpa using hB
   rcases hcell _ hrm with e|e|⟨q,hq,e,hpq⟩
   ·rw[e,lessC_zero] at hlt;cases hlt
   ·rw[e];rfl
   ·rw[e] at hlt;have:=(hless k q hklt hq).1 hlt
    have:c[q]∈(c.drop (k+1)).filter (hereB fo):=by
     rw[ji];refine⟨List.mem_drop_iff_getElem.2 ⟨q-(k+1),by omega,by congr 1;omega⟩,hpq⟩
    rw[hnil] at this;cases this
  |some y=>
   obtain⟨q0,hq0,e0,hy,hno⟩:=drop_head hB;have hlk:(c.drop (k+1)).length=c.length-(k+1):=QP;have hq0c:k+1+q0<c.length:=by omega
   rw[jq] at e0;have hb:=hin (k+1+q0) hq0c (by rw[e0];exact hy);have hbm:(((k+1+q0:Nat):Int)+2)∈0::L:=ql _ hb
   have hre:rt cs ((k:Int)+2)=((k+1+q0:Nat):Int)+2:=by
    rcases hcore.above hmem h1 hbm with g|g|g|g
    ·omega
    ·exfalso
     have:=(hless _ _ hq0c hklt).1 g;omega
    ·exact g.symm
    ·exfalso
     rcases hcell _ hrm with e|e|⟨q,hq,e,hpq⟩
     ·rw[e,lessC_zero] at hlt;cases hlt
     ·rw[e] at g;rw[z1t] at g;exact g.2.1 rfl
     ·rw[e] at g hlt;have g1:=(hless q _ hq hq0c).1 g;have g2:=(hless k q hklt hq).1 hlt;have:=hno (q-(k+1)) (by omega) (by omega);rw[jq] at this;rw[show c[k+1+(q-(k+1))]'(by omega)=c[q] by congr 1;omega] at this;rw[this] at hpq;cases hpq
   rw[hre,hnum _ hq0c,e0];rfl
def heres (fo:Fo):List Nd:=(z43 fo.ns).filter (hereB fo)
theorem FI.heres_mem (_h:FI fo ls){x:Nd}(hx:x∈heres fo):x∈fo.ns/\hereB fo x=true:=by
 rw[heres,ji] at hx;exact⟨(z1o fo.ns).mem_iff.2 hx.1,hx.2⟩
theorem FI.heres_sub (_h:FI fo ls):(heres fo).Sublist (z43 fo.ns):=jL
theorem FI.heres_good (h:FI fo ls):z1j (heres fo)=0:=good_sub h.heres_sub (good_perm (z1o _) h.sh.ck)
theorem FI.pres_heres (h:FI fo ls):z1n fo 0=(heres fo).map (·.id):=by
 rw[z1n,qf ⟨jC 0,h.sh.h0⟩,heres]
 congr 1
 refine JK fun x hx=> ?_;rw[hereB];exact memF_gone h.sh ((z1o fo.ns).mem_iff.2 hx) (jC 0) h.sh.h0
theorem FI.links_idle (h:FI fo ls)(hid:∀q,q<fo.cb.length->(cbA fo.cb q).kind=0):z3r fo=bldN (heres fo) fo.ht.toNat:=by
 have hh0:=h.sh.h0;have hh16:=h.sh.h16;rw[z3r,h.pres_heres,j5,bldN];refine J3 fun x hx=> ?_;obtain⟨hm,hp⟩:=h.heres_mem hx
 show(⟨x.id,upF fo x.id (fo.ht.toNat+1)⟩:Lk)=_
 congr 1
 rw[upF];refine J3 fun q hq=> ?_;have hq:q<fo.ht.toNat+1:=by simpa using hq
 rw[qf hq];obtain⟨i,k,a⟩:=h.sh.place hm (lv:=(q:Int)) (by omega) (by omega);have hg:z4c fo.ly x.id q=z4c fo.ly x.id 0:=h.lev x hm (z1z.2 fun p hp hk=>absurd (hid p hp) hk) _ (by omega) (by omega);have hmem:memF fo.ly x.id q=true:=by rw[memF_gone h.sh hm (by omega) (by omega),hg];exact hp
 rw[nbF,hmem,qf rfl,a.pI,a.pK,qz,h.link_idle hid a hp];obtain⟨c,hc⟩:∃c,(shA (z36 fo.ns fo.ht.toNat) i).2=c:=⟨_,rfl⟩;have hklt:k<c.length:=by have:=a.hk;rw[(h.sh.at_ i a.hi).ids,qA,hc] at this;exact this
 have hck:c[k]=x:=by have:=a.nde;rw[hc,z3e hklt] at this;exact this
 have hcg:c=grpW (z43 fo.ns) q x.word:=by
  obtain⟨n,h1,h2,h3⟩:=h.sh.cls a.hi;have hl:=(h.sh.at_ i a.hi).lvl;rw[a.lvl,h2] at hl;rw[hc,<-hl] at h3;exact cls_grp (by omega) h3 (by rw[<-hck];exact qN hklt)
 rw[hc,nbN]
 have hd:grpW (heres fo) q x.word=c.filter (hereB fo):=by
  rw[heres,grpW,hcg,grpW,jU,jU];exact JK fun y _=>Bool.and_comm ..
 have hsp:c.filter (hereB fo)=(c.take k).filter (hereB fo)++x::(c.drop (k+1)).filter (hereB fo):=by
  have:c=c.take k++c[k]::c.drop (k+1):=by rw[<-QB hklt,Jl]
  conv=>lhs;rw[this]
  rw[QW,hck,JF hp]
 rw[hd,hsp];refine(adj_split (ids_dist ?_)).symm;rw[<-hsp,<-hd];exact good_sub jL h.heres_good
end
end
section
theorem newF_len4 (ns:List Nd)(dn:List Int)(m:Nat)(ht:Int):(z3x ns dn m ht).ns=ns/\(z3x ns dn m ht).ht=ht/\(z3x ns dn m ht).cb=List.replicate m noCb/\(z3x ns dn m ht).cb.length=m:=⟨rfl,rfl,rfl,Qr⟩
theorem FI.bnd {fo:Fo}{ls:Nat->List Int}(h:FI fo ls):∃B:Nat,boundF fo=B/\Phi fo ls (z2o fo (z2c fo.cb))<=B/\B<=1000000:=by
 have h0:=h.sh.h0;have h16:=h.sh.h16;have h8:=h.sh.m8;have h64:=h.sh.few;have hb:z2c fo.cb<=fo.cb.length:=bsyN_le _ _;have hB:=jx (jx (show z2c fo.cb<=8 by omega) (show fo.ht.toNat+1<=17 by omega)) (Nat.add_le_add_right (jx (show z2c fo.cb+1<=9 by omega) (show fo.ns.length+7<=71 by omega)) 7);refine⟨_,?_,h.bound,qT hB (by decide)⟩;obtain⟨t,ht⟩:∃t:Nat,fo.ht=t:=⟨fo.ht.toNat,by omega⟩;rw[boundF,z2o,ht,qz]
 push_cast
 rfl
theorem srtN_filter (P:Nd->Bool)(xs:List Nd):z43 (xs.filter P)=(z43 xs).filter P:=
 ord_unique (srtN_ord _) ((srtN_ord xs).sublist jL) fun k i=>by
  rw[<-srtN_stb (xs.filter P) k i,jU,jU];have:=Qj (List.filter P) (srtN_stb xs k i);rw[jU,jU] at this;simpa only[Bool.and_comm] using this
theorem hasI_ct (l:List Int)(v:Int):hasI l v=l.contains v:=by
 rw[Qe,jV]
 constructor
 ·intro h;refine QH fun g=> ?_
  have:hasI l v=false:=z1y fun i hi=>by
   rw[qg,z2n hi];intro e;exact g (e ▸ qN hi)
  rw[this] at h;cases h
 ·intro h;obtain⟨i,hi,e⟩:=Qg h;exact z3p hi (by rw[z2n hi,e];exact qL rfl)
theorem hasI_pres {fo:Fo}{ls:Nat->List Int}(h:FI fo ls){x:Nd}(hx:x∈fo.ns):hasI (z1n fo 0) x.id= !z4c fo.ly x.id 0:=by
 have h0:=h.sh.h0;rw[hasI_ct,<-memF_gone h.sh hx (jC 0) h0,Qe,jV,presF_mem];exact⟨fun⟨_,_,_,_,g⟩=>g,fun g=>⟨⟨jC 0,h0⟩,x,hx,rfl,g⟩⟩
theorem bldN_ln (s:List Nd)(h:Nat):(bldN s h).length=s.length:=by simp[bldN]
theorem bldR_lv (xs:List Nd)(h:Int):(bldR xs h).length<=xs.length/\lvOk (bldR xs h):=by
 have hl:(bldN (z43 xs) h.toNat).length=xs.length:=by rw[bldN_ln];exact(z1o xs).length_eq.symm
 rw[bldR]
 split
 ·rename_i he;refine⟨Nat.le_of_eq hl,fun i hi=> ?_⟩;rw[lk_bldN _ (by rw[bldN_ln] at hi;exact hi)]
  have:h<=16:=by
   rw[bldE] at he
   split at he
   ·exact absurd he (by decide)
   ·split at he
    ·exact absurd he (by decide)
    ·omega
  simp;omega
 ·exact⟨qo _,fun i hi=>by simp at hi⟩
theorem busyN_rep (m:Nat):z2c (List.replicate m noCb)=0:=by
 rw[z2c,sumR_congr (f:=fun _=>0),sumR_zero];intro i _
 have:cbA (List.replicate m noCb) i=noCb:=by
  simp only[cbA,qt,jJ]
  split<;>rfl
 rw[this];rfl
theorem cb_step {fo:Fo}{ls:Nat->List Int}(h:FI fo ls)(p:Int){q:Nat}(hq:q≠p.toNat):cbA (z21 fo p).cb q=cbA fo.cb q:=by
 unfold z21;rw[h.vf];simp only[Qp,qw,Qo]
 split
 ·split
  ·split
   ·exact z5a (QD hq)
   ·exact z5a (QD hq)
  ·rfl
 ·rfl
structure Aln (f g:Fo) (lu:Nat->List Int) (kind v:Int) (n:Nat):Prop where
 fi:FI g lu
 ns:g.ns=f.ns
 ht:g.ht=f.ht
 ex:Ex g fun w=>if w=v then kind==1 else !z4c f.ly w 0
 off:∀q,q<g.cb.length->q≠0->(cbA g.cb q).kind=0
 phi:∃M,z2c g.cb<=M/\Phi g lu (z2o g M)<=n
theorem Aln.begin {f:Fo}{ls:Nat->List Int}(h:FI f ls)(hi:∀q,q<f.cb.length->(cbA f.cb q).kind=0){kind v:Int}(he:z28 f 0 kind v=0):
  ∃B:Nat,boundF (z15 f 0 kind v)=B/\B<=1000000/\Aln f (z15 f 0 kind v) ls kind v B:=by
 have hF:=h.start he;obtain⟨B,hB,hP,hx⟩:=hF.bnd;obtain⟨k1,k2,k3,k4⟩:=startFR_keeps he;refine⟨B,hB,hx,hF,k1,k2,(h.ex_start he (Ex.of hi fun x _=>(jB _).symm)).1,fun q hq hz=> ?_,_,qc _,hP⟩;rw[k3] at hq;rw[z15,qf he];dsimp only;rw[z5a (show(0:Int).toNat≠q from fun e=>hz e.symm)];exact hi q hq
theorem Aln.can {f g:Fo}{lu:Nat->List Int}{kind v:Int}{n:Nat}(a:Aln f g lu kind v n)(hb:0<z2c g.cb):z3w g 0=true:=by
 obtain⟨p,hp,hk⟩:=busyN_pos hb;obtain⟨q,hq,hk,hs⟩:=a.fi.can hp hk;have:q=0:=QH fun e=>hk (a.off q hq e);subst this;exact hs
theorem Aln.step {f g:Fo}{lu:Nat->List Int}{kind v:Int}{n:Nat}(a:Aln f g lu kind v (n+1))(hb:0<z2c g.cb):∃lw,Aln f (z21 g 0) lw kind v n:=by
 have hs:=a.can hb;obtain⟨M,hM,hP⟩:=a.phi;obtain⟨lw,hF,hQ⟩:=a.fi.step hs hM;obtain⟨k1,k2,k3,k4⟩:=z2v a.fi 0;refine⟨lw,hF,k1.trans a.ns,k2.trans a.ht,a.fi.ex_step hs a.ex,fun q hq hz=> ?_,M,qT (busyN_step a.fi 0) hM,?_⟩
 ·rw[k3] at hq;rw[cb_step a.fi 0 hz];exact a.off q hq hz
 ·rw[stepsN_keeps a.fi];omega
theorem Aln.zero {f g:Fo}{lu:Nat->List Int}{kind v:Int}(a:Aln f g lu kind v 0):z2c g.cb=0:=by
 obtain⟨M,hM,hP⟩:=a.phi;refine QH fun hb=> ?_;have:=a.fi.phi_busy hM (by omega);omega
def alnB (P:List Int)(kind v:Int)(x:Nd):Bool:=(x.id==v && kind==1)||(x.id !=v && hasI P x.id)
theorem Aln.fin {f g:Fo}{ls lu:Nat->List Int}{kind v:Int}{n:Nat}(h:FI f ls)(a:Aln f g lu kind v n)(hb:z2c g.cb=0):
  bldE (g.ns.filter (alnB (z1n f 0) kind v)) g.ht=0/\bldR (g.ns.filter (alnB (z1n f 0) kind v)) g.ht=z3r g:=by
 have hid:=busyN_zero hb;have hc:=good_sub (jL (p:=alnB (z1n f 0) kind v)) a.fi.sh.ck;have he:bldE (g.ns.filter (alnB (z1n f 0) kind v)) g.ht=0:=by rw[bldE,qb (by simp[hc]),qb (by have:=a.fi.sh.h0;have:=a.fi.sh.h16;omega)]
 refine⟨he,?_⟩;rw[bldR,qf he,a.fi.links_idle hid,heres,srtN_filter]
 congr 1
 refine JK fun x hx=> ?_;have hx:=(z1o _).mem_iff.2 hx;rw[hereB,a.ex.idle hid hx,jB,alnB,hasI_pres h (a.ns ▸ hx)]
 by_cases e:x.id=v
 ·rw[qf e,bne,qv.2 e,qV,Qp,QJ,jt]
 ·rw[qb e,bne,qC.2 e,QJ,jW,Ji,qV]
end
section
open JnNm (oxE gxE exE)
open D0 (sdE)
theorem busyC_spec (C:List Cb)(n k m:Nat)(hm:C.length=m)(hx:m<=1000000)(ht:Int):
  zf prog 36 [.agg [.slc false 0 0 0 n,.int .i64 ht,.slc false 1 0 0 k,.slc false 3 0 0 m]] ⟨4,[(3,uQ (.row ⟨false,false,58,3,m,cbs C⟩))]⟩
   (fun s H1=>s= .int .i64 (z2c C:Nat)/\H1=⟨4,[]⟩):=by
 subst hm;refine zf.ofC false 22 [.tmp 2] func36 rfl rfl ntmps36 results36 rfl ?_;intro w0 own0 β0 Q hQ hQn;simp only[z1c];refine Zrs [1] ?_;refine Zrs [1,3] ?_;refine z6 ?_;refine Zrs [1,3,4] ?_;refine zb fun Q0 hN0 hX0 hR0 hE0=> ?_;refine zn (σ:=Nat) (fun i=>i<=C.length) (fun i=>C.length-i) (fun i=>[(1,.ptr 4 0 0 0),(3,.int .i64 (bsyN C i)),(4,.int .i64 i)]) (fun _=>⟨5,[(4,uQ (.row ⟨true,true,34,4,1,fun _=>[.slc false 0 0 0 n,.int .i64 ht,.slc false 1 0 0 k,.slc false 3 0 0 C.length]⟩)),(3,uQ (.row ⟨false,false,58,3,C.length,cbs C⟩))]⟩) 0 (qo _) (ρ:=id) (have xE:=aj @bsyN.eq_1 (aj @sumR.eq_1 @sumR.eq_2);Zgx id) ?_;rintro i hi QL1 hL1 hRL1 hEL1;refine z6 ?_;refine Zrs [1,3,4,9] ?_;refine z7 _ rfl ?_ ?_
 ·intro h9;replace h9:=Znb h9;have hbl:=bsyN_le C i;refine za (z6 (zb fun Q1 hN1 hX1 hR1 hE1=> ?_));refine Zrs [1,3,4,18] ?_;refine z7 _ rfl ?_ ?_
  ·intro h18;have e1:bsyN C (i+1)=bsyN C i+1:=by rw[bsyN,sumR,h18];rfl
   refine Zrg [1,3,4] ?_;refine zd (hN1 _ _ ?_);refine Zrg [1,3,4] ?_;refine zd (hL1 _ _ ?_);rw[show(i:Int)+1=((i+1:Nat):Int) from by omega,show(bsyN C i:Int)+1=((bsyN C (i+1):Nat):Int) from by omega];exact⟨i+1,⟨by omega,by omega⟩,id,(Zg id)⟩
  ·intro h18;have e1:bsyN C (i+1)=bsyN C i:=by rw[bsyN,sumR,h18];rfl
   refine za (zd (hN1 _ _ ?_));refine Zrg [1,3,4] ?_;refine zd (hL1 _ _ ?_);rw[show(i:Int)+1=((i+1:Nat):Int) from by omega,<-e1];exact⟨i+1,⟨by omega,by omega⟩,id,(Zg id)⟩
 ·intro h9;replace h9:=Znb h9;have hie:i=C.length:=by omega
  subst hie;refine zm (hEL1 _ _ _ (hX0 _ _ ?_));refine Zrs [2] ?_;refine ze (hQ _ _ ?_);refine zc (H':=⟨4,[]⟩) (.inl rfl) ?_;refine Zou ?_;refine⟨Zs,(Zg id),Zs,?_⟩;exact⟨rfl,by trivial⟩
end
section
def JpEm.exE:=aj9 @z1b @zg @zh @zq @zk @z14 @z1a ec2 (aj9 @zi @zy @zo @zl z5u @zp z47 z4n (aj9 @zz ec3 ec5 @z19.eq_1 @z12.eq_1 @ints.eq_1 ec34 ec35 (aj8 ec36 ec0 @zw.eq_1 @z1f @z2z ec46 ec47 ec48)))
def JpEm.gxE:=aj9 @z1b z47 ec16 z4n ec3 ec7 ec8 @z19.eq_1 (aj9 @z12.eq_1 @z1x @z1u ec37 ec26 ec29 @zw.eq_1 ec49 (aj @lvs_ren' @lvs_lt))
def JpEm.axE:=aj9 @z1b @zg @zh @zq @zk @z14 @z1a ec2 (aj9 @zi @zy @zo @zl z5u @zp z47 z4n (aj9 @zz ec3 ec5 @z19.eq_1 @z12.eq_1 ec34 ec35 ec0 (aj9 @zw.eq_1 @z1f @z2z ec46 ec47 @z1v @z2e @z2t (aj5 @z34 ec38 @z3z ec50 @lvs_ren))))
open JpEm (gxE axE exE)
open JnNm (oxE)
open D0 (sdE)
theorem aloneF_spec (ls:List Int)(hx:ls.length<=9223372036854775807):
  zf prog 9 [.slc false 0 0 0 ls.length] ⟨1,[(0,z19 ls)]⟩ (fun s _=>s= .bool true):=by
 refine zf.ofC false 131 [.tmp 2] func9 rfl rfl ntmps9 results9 rfl ?_;intro w0 own0 β0 Q hQ hQn;simp only[z1c];refine Zrs [0] ?_;refine sg [3] rfl ?_;intro K hK;refine Zo Zl ?_;refine Zo Zl ?_;refine Zca (new_spec ls hx) (id) ?_;rintro s0 H0 ⟨mm,hm,rfl,rfl⟩ s1 H1 hs1 hH1;obtain⟨hs2,hH2⟩:=Zaf hs1 hH1;clear hs1 hH1;subst hs2 hH2;repeat(with_reducible apply qe;exact sdE)
 refine Zo Zl ?_;refine z8 (Zpr (hK _ _ ?_));clear hK K;refine sg [3,4,5] rfl ?_;intro K hK;refine Zo Zl ?_;refine Zo Zl ?_;refine Zca (made_spec ls mm 0 hx hm (qo _)) (fun q=>if q=0 then 1 else 0) ?_;rintro s0 H0 ⟨ns,dn,m,ht,at1,⟨hmk,ha1⟩,rfl,rfl⟩ s1 H1 hs1 hH1;obtain⟨hs2,hH2⟩:=Zaf hs1 hH1;clear hs1 hH1;subst hs2 hH2;repeat(with_reducible apply qe;exact sdE)
 have hF0:=FI_new hmk dn;obtain⟨n1,n2,n3,n4⟩:=newF_len4 ns dn m ht;obtain⟨fo,hfo⟩:∃fo,z3x ns dn m ht=fo:=⟨_,rfl⟩;obtain⟨lv0,hlv⟩:∃lv0:Nat->List Int,(fun i=>ordN (keyL (shA (z36 ns ht.toNat) i).2) (innL dn (shA (z36 ns ht.toNat) i).2) (shA (z36 ns ht.toNat) i).2.length)=lv0:=⟨_,rfl⟩;rw[hlv] at hF0;rw[hfo] at hF0 n1 n2 n3 n4 ⊢;have hid0:z2c fo.cb=0:=by rw[n3];exact busyN_rep m
 rw[<-n3,<-n4,<-n2,<-n1];iterate 6 (refine Zo Zl ?_)
 refine z8 (Zpr (hK _ _ ?_));clear hK K;refine z6 ?_;refine Zrs [3,4,28] ?_;refine z7 _ rfl ?_ ?_
 ·intro h28
  exfalso;cases h28
 ·intro h28
  refine za (z6 ?_);refine Zrs [3,4,6] ?_;refine zb fun Q0 hN0 hX0 hR0 hE0=> ?_;refine zn (σ:=Fo×(Nat->List Int)×Nat×Nat) (fun σ=>FI σ.1 σ.2.1/\σ.2.2.1<=mm/\σ.2.2.2<=5/\z2c σ.1.cb=0) (fun σ=>5-σ.2.2.2) (fun σ=>[(3,.ptr 1 0 0 0),(4,.ptr 6 0 0 0),(6,.int .i64 σ.2.2.2)]) (fun σ=>⟨7,[(1,zw 0 mm σ.2.2.1),(6,uQ (.row ⟨true,true,34,4,1,fun _=>[.slc true 2 0 0 σ.1.ns.length,.int .i64 σ.1.ht,.slc true 3 0 0 σ.1.ly.length,.slc true 5 0 0 σ.1.cb.length]⟩)),(2,uQ (.row ⟨false,false,62,3,σ.1.ns.length,nds σ.1.ns⟩)),(3,uQ (.row ⟨false,false,89,5,σ.1.ly.length,lyR 4 σ.1.ly⟩)),(4,(3*σ.1.ly.length+1,fam false 3 1 (lyF false σ.1.ly))),(5,uQ (.row ⟨false,false,58,3,σ.1.cb.length,cbs σ.1.cb⟩)),(0,z19 ls)]⟩) (fo,lv0,at1,0) ⟨hF0,ha1,qo _,hid0⟩ (ρ:=id) (Zg id) ?_;rintro⟨f,lw,at2,i⟩ hi QL1 hL1 hRL1 hEL1;obtain⟨hI,hi3,hi4,hi5⟩:=hi;dsimp only at hI hi3 hi4 hi5;have h64:=hI.sh.few;have h8:=hI.sh.m8;have h1m:=hI.sh.m1;have hpl:=presF_len f 0;refine z6 ?_;refine Zrs [3,4,6,30] ?_;refine z7 _ rfl ?_ ?_
  ·intro h30;replace h30:=Znb h30;refine za (z6 (zb fun Q1 hN1 hX1 hR1 hE1=> ?_));refine z6 ?_;refine Zrd [3,4,6,7,8] [0,3,4,5,1,2,6,7,8] [[],[1],[],[],[],[],[1],[],[]] [[],[1],[1],[1],[1],[1],[1],[1],[1]] ?_;intro K hK;refine Zo (Zi [] []) ?_;iterate 3 (refine Zo (Zi [] [1]) ?_)
   refine Zo (Zi [1] [1]) ?_;refine Zca (z20 ls mm at2 2 hx hm hi3 (by omega)) (fun q=>if q=0 then 1 else 0) ?_;rintro s0 H0 ⟨v,at3,d1,d2,d3,d4,rfl,rfl⟩ s1 H1 hs1 hH1;obtain⟨hs2,hH2⟩:=Zaf hs1 hH1;clear hs1 hH1;subst hs2 hH2;repeat(with_reducible apply qe;exact sdE)
   have d5:=d3 (by omega);refine Zo (Zi [] [1]) ?_;refine Zo (Zi [1] [1]) ?_;refine Zca (id_spec ls mm at3 hx hm d1 f.ns f.ns.length rfl (by omega)) (fun q=>if q=0 then 1 else if q=1 then 0 else q) ?_;rintro s0 H0 ⟨w,at4,c1,rfl,rfl⟩ s1 H1 hs1 hH1;obtain⟨hs2,hH2⟩:=Zaf hs1 hH1;clear hs1 hH1;subst hs2 hH2;repeat(with_reducible apply qe;exact sdE)
   iterate 2 (refine Zo (Zi [] [1]) ?_)
   refine zx (Zpr (hK _ _ ?_));clear hK K;refine sg [3,4,6,7,8,9] rfl ?_;intro K hK;refine Zo Zl ?_;refine Zo Zl ?_;refine Zc1 (z4x f lw hI f.ns.length f.ly.length f.cb.length 0 rfl rfl rfl) (fun q=>q+2) ?_;refine Zo Zl ?_;refine z8 (Zpr (hK _ _ ?_));clear hK K;refine sg [3,4,6,7,8,9,10,11] rfl ?_;intro K hK;iterate 3 (refine Zo Zl ?_)
   refine Zo Zl ?_;refine Zc1 (z4a f lw hI f.ns.length f.ly.length f.cb.length 0 (1+v) w rfl rfl rfl) (fun z=>z+2) ?_;iterate 6 (refine Zo Zl ?_)
   refine z8 (Zpr (hK _ _ ?_));clear hK K;refine z6 ?_;refine Zrs [3,4,6,7,8,9,10,50] ?_;refine z7 _ rfl ?_ ?_
   ·intro h50
    try replace h50:=Znb h50
    refine zm (hX1 _ _ ?_);refine Zrg [3,4,6] ?_;refine zd (hL1 _ _ ?_);rw[show(i:Int)+1=((i+1:Nat):Int) from by omega];exact⟨(f,lw,at4,i+1),⟨⟨hI,c1,by dsimp only;omega,hi5⟩,by dsimp only;omega⟩,id,(Zg id)⟩
   ·intro h50;have hse:z28 f 0 (1+v) w=0:=by simpa using h50
    obtain⟨B,hB,hBx,hA0⟩:=Aln.begin hI (busyN_zero hi5) hse;refine za ?_;refine Zrs [3,4,6,7,8,9] ?_;refine z6 ?_;refine sg [3,4,6,7,8,9,12] rfl ?_;intro K hK;refine Zo Zl ?_;refine Zo Zl ?_;refine Zc1 (Bound_spec (z15 f 0 (1+v) w) lw hA0.fi (z15 f 0 (1+v) w).ns.length (z15 f 0 (1+v) w).ly.length (z15 f 0 (1+v) w).cb.length rfl rfl rfl) (fun q=>q+8) ?_;rw[hB];refine Zo Zl ?_;refine z8 (Zpr (hK _ _ ?_));clear hK K;refine zb fun Q2 hN2 hX2 hR2 hE2=> ?_;refine zn (σ:=Fo×(Nat->List Int)×Nat) (fun σ=>Aln f σ.1 σ.2.1 (1+v) w σ.2.2/\σ.2.2<=B) (fun σ=>σ.2.2) (fun σ=>[(3,.ptr 1 0 0 0),(4,.ptr 6 0 0 0),(6,.int .i64 i),(7,.int .i64 (1+v)),(8,.int .i64 w),(9,.slc true 7 0 0 (z1n f 0).length),(12,.int .i64 σ.2.2)]) (fun σ=>⟨8,[(7,uQ (.row ⟨true,false,3,1,(z1n f 0).length,ints (z1n f 0)⟩)),(1,zw 0 mm at4),(6,uQ (.row ⟨true,true,34,4,1,fun _=>[.slc true 2 0 0 σ.1.ns.length,.int .i64 σ.1.ht,.slc true 3 0 0 σ.1.ly.length,.slc true 5 0 0 σ.1.cb.length]⟩)),(2,uQ (.row ⟨false,false,62,3,σ.1.ns.length,nds σ.1.ns⟩)),(3,uQ (.row ⟨false,false,89,5,σ.1.ly.length,lyR 4 σ.1.ly⟩)),(4,(3*σ.1.ly.length+1,fam false 3 1 (lyF false σ.1.ly))),(5,uQ (.row ⟨false,false,58,3,σ.1.cb.length,cbs σ.1.cb⟩)),(0,z19 ls)]⟩) ((z15 f 0 (1+v) w),lw,B) ⟨hA0,qc _⟩ (ρ:=fun q=>if q=2 then 8 else if q=3 then 9 else if q=4 then 10 else if q=5 then 11 else q) (Zg (fun q=>if q=2 then 8 else if q=3 then 9 else if q=4 then 10 else if q=5 then 11 else q)) ?_
    rintro⟨g,lu,n⟩ ha QL2 hL2 hRL2 hEL2;obtain⟨a,hnB⟩:=ha;dsimp only at a hnB;have g64:=a.fi.sh.few;have g8:=a.fi.sh.m8;refine z6 ?_;refine sg [3,4,6,7,8,9,12,60] rfl ?_;intro K hK
    have hk14:∀b:Bool,(b=true->0<n/\0<z2c g.cb)->(b=false->z2c g.cb=0)->K [(3,.ptr 1 0 0 0),(4,.ptr 6 0 0 0),(6,.int .i64 i),(7,.int .i64 (1+v)),(8,.int .i64 w),(9,.slc true 7 0 0 (z1n f 0).length),(12,.int .i64 n),(60,.bool b)] ⟨8,[(7,uQ (.row ⟨true,false,3,1,(z1n f 0).length,ints (z1n f 0)⟩)),(1,zw 0 mm at4),(6,uQ (.row ⟨true,true,34,4,1,fun _=>[.slc true 2 0 0 g.ns.length,.int .i64 g.ht,.slc true 3 0 0 g.ly.length,.slc true 5 0 0 g.cb.length]⟩)),(2,uQ (.row ⟨false,false,62,3,g.ns.length,nds g.ns⟩)),(3,uQ (.row ⟨false,false,89,5,g.ly.length,lyR 4 g.ly⟩)),(4,(3*g.ly.length+1,fam false 3 1 (lyF false g.ly))),(5,uQ (.row ⟨false,false,58,3,g.cb.length,cbs g.cb⟩)),(0,z19 ls)]⟩:=by
     intro b hb1 hb2;refine hK _ _ ?_;clear hK K;refine z7 _ rfl ?_ ?_
     ·intro h60;obtain⟨hn1,hbz⟩:=hb1 h60;obtain⟨k,rfl⟩:∃k,n=k+1:=⟨n-1,by omega⟩;have hs:=a.can hbz;refine za (z6 (zb fun Q3 hN3 hX3 hR3 hE3=> ?_));refine sg [3,4,6,7,8,9,12,13,14] rfl ?_;intro K hK;refine Zo Zl ?_;refine Zo Zl ?_;refine Zc1 (Step_spec g lu a.fi g.ns.length g.ly.length g.cb.length 0 rfl rfl rfl) (fun z=>z+2) ?_;iterate 6 (refine Zo Zl ?_)
      refine z8 (Zpr (hK _ _ ?_));clear hK K;refine z6 ?_;refine Zrs [3,4,6,7,8,9,12,13,69] ?_;refine z7 _ rfl ?_ ?_
      ·intro h69
       exfalso;rw[hs] at h69;cases h69
      ·intro h69
       refine za ?_;refine Zrg [3,4,6,7,8,9,12] ?_;refine zd (hN3 _ _ ?_);refine Zrg [3,4,6,7,8,9,12] ?_;refine zd (hL2 _ _ ?_);obtain⟨lw2,a2⟩:=a.step hbz;obtain⟨k1,k2,k3,k4⟩:=z2v a.fi 0;rw[show((k+1:Nat):Int)-1=(k:Int) from by omega];refine⟨((z21 g 0),lw2,k),⟨⟨a2,by dsimp only;omega⟩,by dsimp only;omega⟩,fun q=>if q=2 then 8 else if q=3 then 9 else if q=4 then 10 else if q=5 then 11 else q,?_⟩;dsimp only;rw[k1,k2,k3,k4];exact(Zg (fun q=>if q=2 then 8 else if q=3 then 9 else if q=4 then 10 else if q=5 then 11 else q))
     ·intro h60;have hb0:=hb2 h60;obtain⟨he,hr⟩:=a.fin hI hb0;refine zm (hEL2 _ _ _ (hX2 _ _ ?_));refine Zrs [3,4,6,7,8,9,15] ?_;refine z6 ?_;refine Zrs [3,4,6,7,8,9,15,16] ?_;refine z29 15 62 3 (nds []) rfl ?_;dsimp only;refine zb fun Q4 hN4 hX4 hR4 hE4=> ?_;refine zn (σ:=Nat×List Nd) (fun σ=>σ.1<=g.ns.length/\σ.2=(g.ns.take σ.1).filter (alnB (z1n f 0) (1+v) w)) (fun σ=>g.ns.length-σ.1) (fun σ=>[(3,.ptr 1 0 0 0),(4,.ptr 6 0 0 0),(6,.int .i64 i),(7,.int .i64 (1+v)),(8,.int .i64 w),(9,.slc true 7 0 0 (z1n f 0).length),(15,.slc true 8 0 0 σ.2.length),(16,.int .i64 σ.1)]) (fun σ=>⟨9,[(8,uQ (.row ⟨true,false,62,3,σ.2.length,nds σ.2⟩)),(7,uQ (.row ⟨true,false,3,1,(z1n f 0).length,ints (z1n f 0)⟩)),(1,zw 0 mm at4),(6,uQ (.row ⟨true,true,34,4,1,fun _=>[.slc true 2 0 0 g.ns.length,.int .i64 g.ht,.slc true 3 0 0 g.ly.length,.slc true 5 0 0 g.cb.length]⟩)),(2,uQ (.row ⟨false,false,62,3,g.ns.length,nds g.ns⟩)),(3,uQ (.row ⟨false,false,89,5,g.ly.length,lyR 4 g.ly⟩)),(4,(3*g.ly.length+1,fam false 3 1 (lyF false g.ly))),(5,uQ (.row ⟨false,false,58,3,g.cb.length,cbs g.cb⟩)),(0,z19 ls)]⟩) (0,[]) ⟨qo _,rfl⟩ (ρ:=id) (Zg id) ?_;rintro⟨j,L⟩ hj QL3 hL3 hRL3 hEL3;obtain⟨hj1,hj2⟩:=hj;dsimp only at hj1 hj2;have hLl:L.length<=j:=by rw[hj2];exact qT (jF ..) (by rw[qS];omega)
      refine z6 ?_;refine Zrs [3,4,6,7,8,9,15,16,75] ?_;refine z7 _ rfl ?_ ?_
      ·intro h75;replace h75:=Znb h75;have hjl:j<g.ns.length:=by omega
       have happ:app (nds L) L.length (z42 3 1 [SV.int .i64 (nd g.ns j).id,.str (nd g.ns j).key,.int .u32 (nd g.ns j).word])=nds (L++[nd g.ns j]):=by
        rw[rowsOf_nd'];exact app_nds L [nd g.ns j]
       have hta:(g.ns.take (j+1)).filter (alnB (z1n f 0) (1+v) w)=L++[nd g.ns j].filter (alnB (z1n f 0) (1+v) w):=by
        rw[take_nd hjl,QW,hj2]
       refine za (z6 (zb fun Q5 hN5 hX5 hR5 hE5=> ?_));refine Zrs [3,4,6,7,8,9,15,16,17] ?_;refine sg [3,4,6,7,8,9,15,16,100] rfl ?_;intro K hK
       have hk25:∀b:Bool,b=(alnB (z1n f 0) (1+v) w (nd g.ns j))->K [(3,.ptr 1 0 0 0),(4,.ptr 6 0 0 0),(6,.int .i64 i),(7,.int .i64 (1+v)),(8,.int .i64 w),(9,.slc true 7 0 0 (z1n f 0).length),(15,.slc true 8 0 0 L.length),(16,.int .i64 j),(100,.bool b)] ⟨9,[(8,uQ (.row ⟨true,false,62,3,L.length,nds L⟩)),(7,uQ (.row ⟨true,false,3,1,(z1n f 0).length,ints (z1n f 0)⟩)),(1,zw 0 mm at4),(6,uQ (.row ⟨true,true,34,4,1,fun _=>[.slc true 2 0 0 g.ns.length,.int .i64 g.ht,.slc true 3 0 0 g.ly.length,.slc true 5 0 0 g.cb.length]⟩)),(2,uQ (.row ⟨false,false,62,3,g.ns.length,nds g.ns⟩)),(3,uQ (.row ⟨false,false,89,5,g.ly.length,lyR 4 g.ly⟩)),(4,(3*g.ly.length+1,fam false 3 1 (lyF false g.ly))),(5,uQ (.row ⟨false,false,58,3,g.cb.length,cbs g.cb⟩)),(0,z19 ls)]⟩:=by
        intro b hb;refine hK _ _ ?_;clear hK K;refine z7 _ rfl ?_ ?_
        ·intro h100;rw[hb] at h100;refine Zrg [3,4,6,7,8,9,15,16] ?_;refine zd (hN5 _ _ ?_);refine Zrg [3,4,6,7,8,9,15,16] ?_;refine zd (hL3 _ _ ?_);rw[show(j:Int)+1=((j+1:Nat):Int) from by omega];rw[happ,show L.length+1=(L++[nd g.ns j]).length from by simp];exact⟨(j+1,L++[nd g.ns j]),⟨⟨by dsimp only;omega,by dsimp only;rw[hta,JF h100];rfl⟩,by dsimp only;omega⟩,fun z=>if z=8 then 10 else z,(Zg (fun z=>if z=8 then 10 else z))⟩
        ·intro h100;rw[hb] at h100;refine za (zd (hN5 _ _ ?_));refine Zrg [3,4,6,7,8,9,15,16] ?_;refine zd (hL3 _ _ ?_);rw[show(j:Int)+1=((j+1:Nat):Int) from by omega];exact⟨(j+1,L),⟨⟨by dsimp only;omega,by dsimp only;rw[hta,List.filter_cons_of_neg (by rw[h100];exact qp),List.filter_nil,QN]⟩,by dsimp only;omega⟩,id,(Zg id)⟩
       iterate 14 (refine Zo Zl ?_)
       refine z11 ?_;refine z1w rfl rfl ?_;refine Zgr ?_
       first|refine z1r ?_ ?_|refine(fun(h1:false=true->_) (h2:false=false->_)=>qe h1 fun _=>h2 rfl) ?_ ?_|refine qe ?_ ?_
       ·intro hg14
        first
         |(simp at hg14;done)
         |skip
          try replace hg14:=Znb hg14
          refine Zo id ?_;refine Zc1 (refHas_spec (z1n f 0) (nd g.ns j).id (z1n f 0).length rfl (by omega)) (fun _=>7) ?_;iterate 2 (refine Zo Zl ?_)
          refine z8 ?_;refine Zpr ?_;exact hk25 _ rfl
       ·intro hg14;refine⟨.bool false,?_⟩
        first
         |(simp at hg14;done)
         |skip
          try replace hg14:=Znb hg14
          iterate 2 (refine Zo Zl ?_)
          refine z8 ?_;refine Zpr ?_;refine hk25 _ ?_;clear hk25 K hK;have e:(nd g.ns j).id=w:=QH fun e=>e (hg14 fun h=>absurd h e);rw[alnB,e];simp
      ·intro h75;replace h75:=Znb h75;have hjl:j=g.ns.length:=by omega
       subst hjl;rw[QZ] at hj2;rw[<-hj2] at he hr;refine zm (hEL3 _ _ _ (hX4 _ _ ?_));refine sg [3,4,6,18,19] rfl ?_;intro K hK;iterate 3 (refine Zo Zl ?_)
       refine Zo Zl ?_;refine Zc1 (build_spec L L.length rfl g.ht (by omega)) (fun _=>8) ?_;have hlv:=(bldR_lv L g.ht).2;have hln:=(bldR_lv L g.ht).1;rw[hr] at hlv hln;rw[he,hr];iterate 5 (refine Zo Zl ?_)
       refine z8 (Zpr (hK _ _ ?_));clear hK K;refine sg [3,4,6,129] rfl ?_;intro K hK;iterate 4 (refine Zo Zl ?_)
       refine z11 ?_;refine z1w rfl rfl ?_;refine Zgr ?_;refine⟨fun _=> ?_,fun h=>(by cases h)⟩;refine Zo id ?_;refine Zc1 (busyC_spec g.cb g.ns.length g.ly.length g.cb.length rfl (by omega) g.ht) (fun q=>q+2) ?_;rw[hb0];iterate 4 (refine Zo Zl ?_)
       refine z11 ?_;refine z1w rfl rfl ?_;refine Zgr ?_;refine⟨fun _=> ?_,fun h=>(by cases h)⟩;refine Zo id ?_;refine Zc1 (Links_spec g lu a.fi g.ns.length g.ly.length g.cb.length rfl rfl rfl) (fun q=>q+2) ?_;refine Zo Zl ?_;refine z11 ?_;refine z1w rfl rfl ?_;refine Zgr ?_;refine⟨fun _=> ?_,fun h=>(by cases h)⟩;refine Zo id ?_;refine Zc1 (refSame_lk_spec (z3r g) (z3r g) (z3r g).length (z3r g).length rfl rfl (by omega) (by omega) hlv hlv) (fun q=>if q=0 then 11 else if q=1 then 12 else if q=2 then 9 else 10) ?_;simp only[JO];iterate 2 (refine Zo Zl ?_)
       refine z8 (Zpr (hK _ _ ?_));clear hK K;refine z7 _ rfl ?_ ?_
       ·intro h129
        exfalso;simp at h129
       ·intro h129
        refine za (zd (hN1 _ _ ?_));refine Zrg [3,4,6] ?_;refine zd (hL1 _ _ ?_);rw[show(i:Int)+1=((i+1:Nat):Int) from by omega];exact⟨(g,lu,at4,i+1),⟨⟨a.fi,c1,by dsimp only;omega,hb0⟩,by dsimp only;omega⟩,id,(Zg id)⟩
    iterate 4 (refine Zo Zl ?_)
    refine z11 ?_;refine z1w rfl rfl ?_;refine Zgr ?_
    first|refine z1r ?_ ?_|refine(fun(h1:false=true->_) (h2:false=false->_)=>qe h1 fun _=>h2 rfl) ?_ ?_|refine qe ?_ ?_
    ·intro hg4
     first
      |(simp at hg4;done)
      |skip
       try replace hg4:=Znb hg4
       refine Zo id ?_;refine Zc1 (busyC_spec g.cb g.ns.length g.ly.length g.cb.length rfl (by omega) g.ht) (fun q=>q+2) ?_;iterate 2 (refine Zo Zl ?_)
       refine z8 ?_;refine Zpr ?_;refine hk14 _ ?_ ?_
       ·intro hb;simp at hb hg4<;>omega
       ·intro hb;simp at hb hg4<;>omega
    ·intro hg4;refine⟨.int .i64 0,?_⟩
     first
      |(simp at hg4;done)
      |skip
       try replace hg4:=Znb hg4
       iterate 2 (refine Zo Zl ?_)
       refine z8 ?_;refine Zpr ?_;refine hk14 _ ?_ ?_
       ·intro hb;simp at hb hg4<;>omega
       ·intro hb;have hn0:n=0:=by simp at hg4;omega
        subst hn0;exact a.zero
  ·intro h30
   refine zm (hEL1 _ _ _ (hX0 _ _ ?_));refine sg [2] rfl ?_;intro K hK;refine Zo Zl ?_;refine Zc1 (sane13_spec) (id) ?_;refine Zo Zl ?_;refine z8 (Zpr (hK _ _ ?_));clear hK K;refine ze (hQ _ _ ?_);refine zc (H':=⟨1,[]⟩) (.inl rfl) ?_;refine Zou ?_;refine⟨Zs,(Zg id),Zs,?_⟩
   all_goals first|trivial|rfl|exact⟨rfl,trivial⟩
end
end Go.Proofs
namespace Go.Proofs.YtpnefndionckaaaGreatDoor
open _root_.Go.Proofs.Tryz
open Go.ChangeShapes Go.WideShapes Go.RowKit Go.Sk Go.Proofs
theorem own:ownKnob Tryz.prog.godebug=none:=by kernel_rfl
theorem laid:laidOutB prog=true:=by kernel_rfl
theorem rowed:mapsRowed prog=true:=by kernel_rfl
theorem fullS:∀t e,t<Tryz.prog.types.size->Tryz.prog.underlying t=some (.slice e)->0<Tryz.prog.cellsOf e:=slices_full_of _ (by kernel_rfl)
theorem uInts:Tryz.prog.underlying 22=some (.slice 3):=by kernel_rfl
theorem uStr:Tryz.prog.underlying 9=some .string:=by kernel_rfl
theorem uBool:Tryz.prog.underlying 4=some .bool:=by kernel_rfl
theorem fInt:flatB prog 3 [.i .i64]=true:=by kernel_rfl
theorem gTab:Tryz.prog.globalNamed "skipgraph/skipgraphworld.letters" =some 0:=by kernel_rfl
theorem gTabType:(Tryz.prog.globals[0]?).map (·.type)=some 127:=by kernel_rfl
theorem uTab:Tryz.prog.underlying 127=some (.array 6 9):=by kernel_rfl
theorem cTab:Tryz.prog.cellsOf 127=6:=by kernel_rfl
theorem cStr:Tryz.prog.cellsOf 9=1:=by kernel_rfl
theorem oneTab:(List.range Tryz.prog.globals.size).all (fun i=> !tabG prog i||i==0)=true:=by kernel_rfl
theorem tabs {W:World}(h:laidMetH prog [("math/bits.deBruijn32tab",Rows.laid_math_bits_deBruijn32tab),("skipgraph/skipgraphworld.letters",Rows.laid_skipgraph_skipgraphworld_letters)] W):∀i,tabG prog i=true->i<W.heap.size/\TabAt W i:=
 tabs_of_mem gTab gTabType uTab uStr cStr cTab oneTab (laid:=[("math/bits.deBruijn32tab",Rows.laid_math_bits_deBruijn32tab),("skipgraph/skipgraphworld.letters",Rows.laid_skipgraph_skipgraphworld_letters)]) (by exact .tail _ (.head _)) h
theorem gTabB:Tryz.prog.globalNamed "math/bits.deBruijn32tab" =some 1:=by kernel_rfl
theorem gTabBType:(Tryz.prog.globals[1]?).map (·.type)=some 211:=by kernel_rfl
theorem uTabB:Tryz.prog.underlying 211=some (.array 32 5):=by kernel_rfl
theorem uByte:Tryz.prog.underlying 5=some (.int .u8):=by kernel_rfl
theorem cTabB:Tryz.prog.cellsOf 211=32:=by kernel_rfl
theorem cByte:Tryz.prog.cellsOf 5=1:=by kernel_rfl
theorem oneTabB:(List.range Tryz.prog.globals.size).all (fun i=> !tabBG prog i||i==1)=true:=by kernel_rfl
theorem tabsB {W:World}(h:laidMetH prog [("math/bits.deBruijn32tab",Rows.laid_math_bits_deBruijn32tab),("skipgraph/skipgraphworld.letters",Rows.laid_skipgraph_skipgraphworld_letters)] W):∀i,tabBG prog i=true->i<W.heap.size/\TabBAt W i:=
 tabsB_of_mem gTabB gTabBType uTabB uByte cByte cTabB oneTabB (laid:=[("math/bits.deBruijn32tab",Rows.laid_math_bits_deBruijn32tab),("skipgraph/skipgraphworld.letters",Rows.laid_skipgraph_skipgraphworld_letters)]) (by exact .head _) h
def toInt:List Value->Int
 |[.int _ z]=>z
 |_=>0
def toInts (rows:List (List Value)):List Int:=rows.map toInt
theorem ints_rows {w:World}{v:Value}{q:Option Sk.Loc}{rows:List (List Value)}(h:RwIn w v q [.i .i64] rows)(i:Nat)(r:List Value)(hr:rows[i]? =some r):ints (toInts rows) i=r.map svOf:=by
 have hok:=h.ok r (q7 hr);rcases r with _|⟨v,_|⟨v',r⟩⟩
 ·exact hok.elim
 ·obtain⟨⟨z,rfl,_⟩,_⟩:=hok;simp only[ints,nth,toInts,List.getD,qG,hr,jj,jQ,toInt,Qk,jf,svOf]
 ·exact hok.2.elim
theorem ints_in {β:Env}{w:World}{v:Value}{q:Option Sk.Loc}{rows:List (List Value)}(h:RwIn w v q [.i .i64] rows){id:Nat}(hq:β id 0=q):
  den β (.slc false id 0 0 (toInts rows).length) v/\(Sk.Obj.row ⟨false,false,3,1,(toInts rows).length,ints (toInts rows)⟩).holds β w q:=by
 have:=rows_in h hq 3 (ints (toInts rows)) (ints_rows h);simpa [toInts] using this
theorem ints_len {w:World}{v:Value}{q:Option Sk.Loc}{rows:List (List Value)}(h:RwIn w v q [.i .i64] rows):(toInts rows).length<=9223372036854775807:=by
 have:=h.len;simpa [toInts,maxLen] using this
theorem ints_ltO (m:Nat)(xs:List Int):(Sk.Obj.row ⟨false,false,3,1,xs.length,ints xs⟩).lt m:=Sk.Obj.lt_row.2 fun i _=>by simp[ints,SV.ltL,SV.lt]
def putCells (l:List Value):Go.Obj->Go.Obj
 |.cells _ t frozen=> .cells l.toArray t frozen
 |o=>o
noncomputable def z62 (os:Os):World:=
 {World.holding prog os ⟨#[],#[],[]⟩ with heap:=((World.holding prog os ⟨#[],#[],[]⟩).heap.modify 0 (putCells (letters.map Value.string))).modify 1 (putCells (db32.map (Value.int IntKind.u8)))}
end Go.Proofs.YtpnefndionckaaaGreatDoor
namespace Go.Proofs.YtpnefndionckaaaGreatDoor.joinAloneTop
open _root_.Go.Proofs.Tryz
open Go.ChangeShapes Go.WideShapes Go.RowKit Go.Sk Go.Proofs
theorem top (W:World)(v0:Value)(q0:Option Sk.Loc)(r0:List (List Value))(h0:RwIn W v0 q0 [.i .i64] r0)
  (htab:∀i,tabG prog i=true->i<W.heap.size/\TabAt W i) (htabB:∀i,tabBG prog i=true->i<W.heap.size/\TabBAt W i):Calls prog 9 #[v0] W fun e w'=>e= .returned (.bool true)/\Below W.heap.size W w':=by
 let β:Env:=fun _ _=>q0
 obtain⟨a0,b0⟩:=ints_in (β:=β) (id:=0) h0 rfl;refine zf.top (Ent.of func9 (by kernel_rfl) (by kernel_rfl)) (aloneF_spec (toInts r0) (ints_len h0)) β W [v0] (fun id k o ho=> ?_) ⟨v0,[],a0,rfl,rfl⟩ (by simp[SV.ltL,SV.lt]) htab htabB;obtain⟨c,F,hf,hk,rfl⟩:=z1h ho;simp only[Sk.find,z19,uQ] at hf
 split at hf
 ·rename_i e;subst e;cases hf
  exact⟨rfl,by show(0:Nat)<1;omega,ints_ltO _ _,b0⟩
 ·cases hf
theorem contract (H:Type)(enc:TypeId×Value->H)(W:World)(base:Nat)(args:Array Value)(ds gs:List (DataW H))(before:List MemPlace)
  (hval:∀(j:Nat) t v,Tryz.f9.params[j]? =some t->args[j]? =some v->Value.okWide prog W .any base t v)
  (hW:DataW.Whole enc prog Tryz.f9.params.toList Rows.joinAloneSpec.vars false W args.toList ds gs before) (hL:laidMetH prog Rows.joinAloneRow.laid W):
  Calls prog 9 args W fun e W'=> ∃v,e= .returned v/\Rows.joinAloneSpec.post enc prog Tryz.f9 false true false false W args v W':=by
 have hW1:=hW;obtain⟨p,q,hA0,hV,rfl,_,_⟩:=hW;have hA:DataW.TrodAll enc prog W 0 (fun _=>true) true Tryz.f9.params.toList args.toList ds p:=hA0;have hval1:∀(j:Nat) t v,Tryz.f9.params[j]? =some t->args[j]? =some v->Value.okWide prog W .any base t v:=hval;rw[params9] at hA hval1;obtain⟨v0,vs0,d0,ds0,p0,q0,ha0,rfl,rfl,h0,r0⟩:=trodAll_cons hA;obtain⟨rfl,rfl,rfl⟩:=trodAll_nil r0;obtain rfl:args= #[v0]:=by cases args;simp_all
 obtain⟨_,_,x0⟩:=rows_open uInts fInt (by simp) (hval1 0 _ v0 rfl rfl) h0;refine(top W v0 _ _ x0 (tabs hL) (tabsB hL)).mono fun e W1 ⟨he,hb⟩=> ?_;subst he;refine⟨_,rfl,law_post laid rowed fullS (by decide+kernel) rfl hW1 hb rfl uBool fun ds hd=> ?_⟩;have hd1:ds.length=1:=hd
 match ds,hd1 with
 |[_],_=>rfl
theorem laid_met (os:Os):laidMet prog Rows.joinAloneRow.laid ((z62 os).forCall (fun _ _=>0) ⟨#[],#[.slice none 0 0],[]⟩).memory:=
 laidMet_of_run' 8 (by kernel_rfl) (by kernel_rfl)
theorem reads (os:Os){H:Type}(enc:TypeId×Value->H):∃places,DataW.whole enc prog ((z62 os).forCall (fun _ _=>0) ⟨#[],#[.slice none 0 0],[]⟩).memory Tryz.f9.params.toList Rows.joinAloneSpec.vars false #[Value.slice none 0 0].toList 8=some ([.nil],[],places):=
 ⟨[],by kernel_rfl⟩
set_option maxRecDepth 100000 in
theorem lifted (os:Os)(started:os.Started)(H:Type)(enc:TypeId×Value->H)(F:Stop.Interp):
  ReturnsInHanded {} Tryz.checked os 9 .any ((OpenSpec.ofChange Rows.joinAloneSpec).preRow enc prog Tryz.f9 Rows.joinAloneRow.domain false Rows.joinAloneRow.laid) (((OpenSpec.ofChange Rows.joinAloneSpec).at F).post enc prog Tryz.f9 false true false false):=by
 obtain⟨places,hx⟩:=reads os enc
 refine returnsInHanded_of_row (C:=Tryz.checked) (s:=OpenSpec.ofChange Rows.joinAloneSpec) own started (by kernel_rfl) func9
  (witness_row_at (enc:=enc) (C:=Tryz.checked) false (z62 os) #[.slice none 0 0] rfl (by kernel_rfl) (by kernel_rfl) (by kernel_rfl)
   (OpenSpec.preRow_of_cond 8 hx (by kernel_rfl) (fun k hk=>by cases hk) (by kernel_rfl) (laid_met os))) ?_
 intro W base args ds gs before hval hW _ _ _ hL _ _;exact contract H enc W base args ds gs before hval hW hL
theorem said:Rows.JoinAloneSaid:=
 OpenClaim.holds_of_cond 9 Tryz.f9 rfl rfl rfl rfl rfl rfl rfl ⟨rfl,rfl,rfl,rfl,rfl⟩ rfl rfl rfl rfl rfl (by kernel_rfl) func9 (by kernel_rfl)
  (jy (by kernel_rfl)) (by unfold Func.isWrapper;first|(rw[qf (by decide+kernel)];kernel_rfl)|(rw[qb (by decide+kernel)];exact⟨rfl,rfl⟩))
  (fun os started H enc _ F=>by rw[OpenClaim.pre_eq_preRow];exact lifted os started H enc F)
theorem plain (f:FuncId)(fn:Func)(hf:Tryz.pinned.checked.prog.funcNamed "skipgraph/skipgraphlaw13.JoinAlone" =some f)(hfn:Tryz.pinned.checked.prog.funcs[f]? =some fn):
  false=Tryz.pinned.checked.prog.looks []/\∀(j:Nat) t,fn.params[j]? =some t->Tryz.pinned.checked.prog.wantsStandIn t=false:=by
 obtain rfl:f=9:=Qz ((show Tryz.prog.funcNamed "skipgraph/skipgraphlaw13.JoinAlone" =some 9 by kernel_rfl).symm.trans hf)|>.symm
 obtain rfl:fn=Tryz.f9:=(Qz (Tryz.func9.symm.trans hfn)).symm;refine⟨by kernel_rfl,fun j t ht=> ?_⟩;rw[params9] at ht;have hm:t∈[22]:=by simpa using jr ht
 have hall:([22].all fun u=> !Tryz.prog.wantsStandIn u)=true:=by kernel_rfl
 exact(show Tryz.prog.wantsStandIn t=false by simpa using qu.1 hall t hm)
theorem proved:Rows.JoinAloneCardSaid:=
 Claim7.holds_tied_plain_at .later [] _ _ _ _ said (fun _ h=>by cases h) (by kernel_rfl) (fun _ h=>by cases h) joinAlone_row_tie rfl ⟨rfl,rfl⟩ (by kernel_rfl) rfl plain (by kernel_rfl)
end Go.Proofs.YtpnefndionckaaaGreatDoor.joinAloneTop
#print axioms Go.Proofs.YtpnefndionckaaaGreatDoor.joinAloneTop.proved
