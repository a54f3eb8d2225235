/-
  JoinFollows: for every input the law returns true, and the input reads as before.
  Conditions: those that each statement names.
-/
import Derived.Test.YtpnefndionckaaaGreatDoorRpk
import Derived.Deep.Slices
import Derived.Lib.LaidTab
import Derived.Test.YtpnefndionckaaaGreatDoorRpq
import Derived.Test.YtpnefndionckaaaGreatDoorRpc
import Derived.Test.YtpnefndionckaaaGreatDoorRph
import Derived.Test.YtpnefndionckaaaGreatDoorRpr
import Derived.Test.YtpnefndionckaaaGreatDoorRpp
import Derived.Test.YtpnefndionckaaaGreatDoorRows
import Derived.Test.YtpnefndionckaaaGreatDoorCards
import Derived.Test.YtpnefndionckaaaGreatDoorTie
import Derived.WalkKit
import Derived.ProofKit
import Derived.OpenShut
import Derived.Deep.DeepHandedRow
set_option linter.unusedSimpArgs false
set_option linter.unusedVariables false
set_option linter.defProp false
set_option maxRecDepth 4000
set_option maxHeartbeats 8000000
namespace Go.Sk
open Go.RowKit Go.WideShapes Go.ChangeShapes
inductive FK where
 |i (k:IntKind)|s|b
def FK.is (P:Program)(t:TypeId):FK->Bool
 |.i k=>match P.underlying t with|some (.int k')=>k'==k|_=>false
 |.s=>match P.underlying t with|some .string=>true|_=>false
 |.b=>match P.underlying t with|some .bool=>true|_=>false
def FK.ok:FK->Value->Prop
 |.i k,v=> ∃z,v= .int k z/\(Lit.int k z).wf=true
 |.s,v=> ∃x:ByteArray,v= .string x/\x.size<=maxLen
 |.b,v=> ∃x,v= .bool x
def svOf:Value->SV
 |.int k z=> .int k z
 |.string x=> .str x
 |.bool x=> .bool x
 |v=> .raw v
def FK.den {β:Env}{k:FK}{v:Value}(h:k.ok v):den β (svOf v) v/\(svOf v).scalar=true/\∀m,(svOf v).lt m:=by
 cases k<;>simp only[FK.ok] at h
 ·obtain⟨z,rfl,_⟩:=h;exact⟨rfl,rfl,fun _=>trivial⟩
 ·obtain⟨z,rfl,_⟩:=h;exact⟨rfl,rfl,fun _=>trivial⟩
 ·obtain⟨z,rfl⟩:=h;exact⟨rfl,rfl,fun _=>trivial⟩
def okRow:List FK->List Value->Prop
 |[],[]=>True
 |k::ks,v::vs=>k.ok v/\okRow ks vs
 |_,_=>False
def okRow_len:∀{ks:List FK} {vs:List Value},okRow ks vs->vs.length=ks.length
 |[],[],_=>rfl
 |_::_,_::_,h=>by simp[okRow_len h.2]
 |[],_::_,h=>h.elim
 |_::_,[],h=>h.elim
def okRow_get:∀{ks:List FK} {vs:List Value},okRow ks vs->∀(j:Nat) (v:Value),vs[j]? =some v->∃k:FK,k.ok v
 |[],[],_,j,v,h=>by simp at h
 |k::_,_::_,h,j,v,hj=>by
  cases j with
  |zero=>simp at hj;subst hj;exact⟨k,h.1⟩
  |succ j=>simp at hj;exact okRow_get h.2 j v hj
 |[],_::_,h,_,_,_=>h.elim
 |_::_,[],h,_,_,_=>h.elim
def fldsB (P:Program)(fs:Array Field):Nat->List FK->Bool
 |i,[]=>i==fs.size
 |i,k::ks=>(match fs[i]? with|some f=>f.offset==i && P.cellsOf f.type==1 && k.is P f.type|none=>false) && fldsB P fs (i+1) ks
def flatB (P:Program)(t:TypeId)(ks:List FK):Bool:=
 P.cellsOf t==ks.length && (match P.underlying t with
  |some (.struct fs)=>fldsB P fs 0 ks
  |_=>match ks with|[k]=>k.is P t|_=>false)
section
variable {H:Type} {enc:TypeId×Value->H} {P:Program} {w:World} {base:Nat} {sp:Nat->Bool} {held:Bool}
def one_open {k:FK}{t:TypeId}{fuel:Nat}{cs:List Value}{x:DataW H×List MemPlace}(hk:k.is P t=true)(h:DataW.trod enc P w base sp held fuel t cs=some x):∃v,cs=[v]/\k.ok v:=by
 cases k<;>simp only[FK.is] at hk
 ·split at hk
  ·rename_i k' hu;obtain rfl:=eq_of_beq hk;obtain⟨n,rfl,_,hw⟩:=DataW.trod_int hu h;exact⟨_,rfl,n,rfl,hw⟩
  ·cases hk
 ·split at hk
  ·rename_i hu;obtain⟨s,rfl,_,hs⟩:=DataW.trod_string hu h;exact⟨_,rfl,s,rfl,hs⟩
  ·cases hk
 ·split at hk
  ·rename_i hu;obtain⟨b,rfl,_⟩:=DataW.trod_bool hu h;exact⟨_,rfl,b,rfl⟩
  ·cases hk
def flds_open {fs:Array Field}{n:Nat}{cs:List Value}{xs:List (DataW H×List MemPlace)}(hx:xs.length=fs.size)(hf:∀(i:Nat) (f:Field),fs[i]? =some f->DataW.trod enc P w base sp held n f.type ((cs.drop f.offset).take (P.cellsOf f.type))=xs[i]?):
  ∀(ks:List FK) (i:Nat),fldsB P fs i ks=true->i+ks.length=cs.length->okRow ks (cs.drop i)
 |[],i,_,hl=>by rw[List.drop_eq_nil_of_le (by simp at hl;omega)];trivial
 |k::ks,i,h,hl=>by
  simp only[fldsB,qj] at h;obtain⟨h1,h2⟩:=h;simp only[QN] at hl
  split at h1
  ·rename_i f hfi;simp only[qj,qD] at h1;obtain⟨⟨h3,h4⟩,h5⟩:=h1;have h6:=hf i f hfi;have hi:i<xs.length:=by rw[hx];exact(q7.1 hfi).1
   rw[h3,h4,qJ hi] at h6;obtain⟨v,hv,hok⟩:=one_open h5 h6;rw[jt (by omega),jb,js] at hv;rw[jt (by omega)];have:cs[i]=v:=by simpa using hv
   rw[this];exact⟨hok,flds_open hx hf ks (i+1) h2 (by omega)⟩
  ·cases h1
def flat_open {t:TypeId}{ks:List FK}{fuel:Nat}{cs:List Value}{x:DataW H×List MemPlace}(hb:flatB P t ks=true)(h:DataW.trod enc P w base sp held fuel t cs=some x):okRow ks cs:=by
 simp only[flatB,qj,qD] at hb;obtain⟨hc,hb⟩:=hb
 split at hb
 ·rename_i fs hu;obtain⟨xs,m,_,_,hl,hxl,hf⟩:=DataW.trod_struct hu h;have:=flds_open hxl hf ks 0 hb (by omega);rwa [jq] at this
 ·split at hb
  ·rename_i k;obtain⟨v,rfl,hok⟩:=one_open hb h;exact⟨hok,trivial⟩
  ·cases hb
structure RwIn (w:World) (v:Value) (q:Option Loc) (ks:List FK) (rows:List (List Value)):Prop where
 len:rows.length<=maxLen
 ok:∀r∈rows,okRow ks r
 val:∃a c,v= .slice a rows.length c/\rows.length<=c/\(0<rows.length->∃L,q=some L/\a=some ⟨L.blk,L.off,none⟩)
 mem:(rows.length=0/\q=none)\/∃L,q=some L/\L.sz=ks.length/\L.blk<w.heap.size/\∀(i:Nat) (r:List Value),rows[i]? =some r->∀(j:Nat) (u:Value),r[j]? =some u->w.cell? ⟨L.blk,L.off+i*ks.length+j,none⟩=some u
def rows_open {t e:TypeId}{ks:List FK}{v:Value}{d:DataW H}{p:List MemPlace}(ht:P.underlying t=some (.slice e))(hb:flatB P e ks=true)(hk0:0<ks.length){b0:Nat}
  (hval:Value.okWide P w .any b0 t v) (h:DataW.Trod enc P w base sp held t v d p):∃q rows,RwIn w v q ks rows:=by
 obtain⟨n,hn⟩:=h;obtain⟨a0,l0,c0,rfl⟩:=okWide_slice ht hval;have hce:P.cellsOf e=ks.length:=by simp only[flatB,qj,qD] at hb;exact hb.1
 have hcs:(Value.slice a0 l0 c0).cells.toList=[Value.slice a0 l0 c0]:=rfl;rw[hcs] at hn;rcases Deep.open_slice ht hn with⟨hv,_⟩|⟨a,len,cap,m,n',D,Pl,hv,hbb,hlc,hcm,hmm,_,hel⟩
 ·cases hv
  exact⟨none,[],⟨by simp,by simp,⟨none,0,rfl,by simp,by simp⟩,.inl ⟨rfl,rfl⟩⟩⟩
 ·cases hv
  have hml:l0<=m:=by rw[hmm];split<;>omega
  obtain⟨R,hR⟩:=Deep.choose_lt (α:=List Value) (p:=fun i cs=>w.cells? base (a.add (i*P.cellsOf e)) (P.cellsOf e)=some cs/\DataW.trod enc P w base sp held n' e cs=some (D i,Pl i)) hel;have hrl:((List.range l0).map R).length=l0:=by simp
  have hget:∀i r,((List.range l0).map R)[i]? =some r->i<l0/\r=R i:=fun i r h=>by
   simp only[qQ,q6] at h;obtain⟨k,h1,h2⟩:=h
   have hi:i<l0:=by
    rcases Qo i l0 with h|h
    ·exact h
    ·rw[qP (by simpa using h)] at h1;cases h1
   rw[jk hi] at h1
   cases h1
   exact⟨hi,h2.symm⟩
  have hok:∀i,i<m->okRow ks (R i):=fun i hi=>flat_open hb (hR i hi).2
  have hrow:∀r∈(List.range l0).map R,okRow ks r:=fun r hr=>by
   obtain⟨i,hi,rfl⟩:=Qs.1 hr;exact hok i (by have:=Qu.1 hi;omega)
  by_cases h0:l0=0
  ·subst h0;exact⟨none,[],⟨by simp,by simp,⟨some a,c0,rfl,by simp,by simp⟩,.inl ⟨rfl,rfl⟩⟩⟩
  ·have hcell:∀i,i<l0->∀(j:Nat) (u:Value),(R i)[j]? =some u->w.cell? ((a.add (i*ks.length)).add j)=some u:=fun i hi j u hj=>by
    obtain⟨h1,h2⟩:=hR i (by omega);obtain⟨_,hlen,hc⟩:=World.cells?_some h1;have hjl:j<P.cellsOf e:=by rw[<-hlen];exact(qZ.1 hj).1
    rw[<-hce,hc j hjl];exact hj
   have hr0:∃u,(R 0)[0]? =some u:=by
    have:=okRow_len (hok 0 (by omega));exact⟨_,qJ (by omega)⟩
   obtain⟨u0,hu0⟩:=hr0;have hc0:=hcell 0 (by omega) 0 u0 hu0;have hsp:a.spot=none:=World.cell?_spot (by unfold Addr.add at hc0;simpa using hc0);obtain⟨b,o,s0⟩:=a;simp only at hsp;subst hsp
   have hblk:b<w.heap.size:=by
    rw[z48,z48] at hc0;unfold World.cell? at hc0;rcases Qo b w.heap.size with h|h
    ·exact h
    ·simp[QL h] at hc0
   refine⟨some ⟨b,o,ks.length,0⟩,(List.range l0).map R,⟨by omega,hrow,⟨some ⟨b,o,none⟩,c0,by rw[hrl],by omega,fun _=>⟨_,rfl,rfl⟩⟩,.inr ⟨_,rfl,rfl,hblk,fun i r hr j u hj=> ?_⟩⟩⟩;obtain⟨hi,rfl⟩:=hget i r hr;have:=hcell i hi j u hj;rw[z48,z48] at this;exact this
end
def rows_in {β:Env}{w:World}{v:Value}{q:Option Loc}{ks:List FK}{rows:List (List Value)}(h:RwIn w v q ks rows){id:Nat}(hq:β id 0=q)(e:TypeId)(f:Nat->List SV)(hf:∀(i:Nat) (r:List Value),rows[i]? =some r->f i=r.map svOf):
  den β (.slc false id 0 0 rows.length) v/\(Obj.row ⟨false,false,e,ks.length,rows.length,f⟩).holds β w q:=by
 obtain⟨_,hok,⟨a,c,rfl,hc,hp⟩,hm⟩:=h;refine⟨?_,?_⟩
 ·simp only[den,z56,qz,Ql];refine⟨a,c,rfl,hc,fun h=> ?_⟩;obtain⟨L,h1,h2⟩:=hp h;exact⟨L,hq.trans h1,by rw[h2];simp⟩
 ·rcases hm with hm|⟨L,h1,h2,h3,h4⟩
  ·exact .inl hm
  ·refine .inr ⟨L,h1,h2,h3,fun i hi=> ?_,fun h=>by cases h⟩;have hi':i<rows.length:=hi;have hr:=qJ hi';have hfi:=hf i _ hr;have hoki:=hok _ (qK hi')
   show(f i).length=ks.length/\∀(j:Nat) (s:SV),(f i)[j]? =some s->_
   rw[hfi];refine⟨by rw[qx];exact okRow_len hoki,fun j s hs=> ?_⟩;rw[qQ,q6] at hs;obtain⟨u,hu,rfl⟩:=hs;obtain⟨k,hk⟩:=okRow_get hoki j u hu;obtain⟨g1,g2,_⟩:=FK.den (β:=β) hk;refine⟨g2,u,?_,g1⟩;rw[h2];exact h4 i _ hr j u hu
def strData {H:Type}(ss:List ByteArray):DataW H:= .agg (ss.map fun s=> .lit (.string s.data.toList))
def cells_of_strs {H:Type}{enc:TypeId×Value->H}{P:Program}{w:World}{base:Nat}{sp:Nat->Bool}{held:Bool}{fuel:Nat}{t e:TypeId}{n:Nat}{cs:List Value}{ss:List ByteArray}{p:List MemPlace}
  (ht:P.underlying t=some (.array n e)) (he:P.underlying e=some .string) (hce:P.cellsOf e=1) (hct:P.cellsOf t=n)
  (h:DataW.trod enc P w base sp held fuel t cs=some (strData ss,p)):cs=ss.map Value.string:=by
 cases fuel with
 |zero=>simp[DataW.trod] at h
 |succ fuel=>
  simp only[DataW.trod,ht,hce,hct,JO] at h
  split at h
  ·rename_i hl;obtain⟨xs,hm,hx⟩:=q6.1 h
   have hxs:xs.map (·.1)=ss.map fun s=>(DataW.lit (.string s.data.toList):DataW H):=by
    have:=Qv Prod.fst hx;simpa [strData] using this
   have hxl:xs.length=n:=by simpa using Lib.mapM_length hm
   have hzl:ss.length=n:=by
    have:=Qv List.length hxs;simp at this;omega
   apply j2;intro i
   by_cases hi:i<n
   ·obtain⟨b,hb,hf⟩:=Lib.mapM_at hm i i (by simp[hi]);obtain⟨z,hc,rfl,_⟩:=DataW.trod_string he hf
    have h1:cs[i]? =some (.string z):=by
     have:=Qv (·[0]?) hc;simpa [Qb,QR] using this
    have h2:(xs.map (·.1))[i]? =some (DataW.lit (.string z.data.toList):DataW H):=by simp[hb]
    rw[hxs] at h2;simp only[qQ,q6,DataW.lit.injEq,Lit.string.injEq] at h2;obtain⟨z',hz',he'⟩:=h2
    have:z'=z:=by
     cases z' with
     |mk a=>cases z with
      |mk b=>congr 1;exact JA.1 he'
    subst this;simp[h1,hz']
   ·rw[qP (by omega),qP (by simp;omega)]
  ·cases h
end Go.Sk
namespace Go.Sk
open Go.RowKit Go.ChangeShapes Go.WideShapes
def LaidVars_at {P:Program}{w:World}{n:String}{d:DataW Unit}:∀{l:List (String×DataW Unit)} {ps:List MemPlace},DataW.LaidVars P w l ps->(n,d)∈l->
  ∃g t cs fuel p,P.globalNamed n=some g/\(P.globals[g]?).map (·.type)=some t/\w.var? P n=some cs/\DataW.trod (fun _=>()) P w 0 (fun _=>true) false fuel t cs.toList=some (d,p)
 |[],_,_,h=>by cases h
 |(m,e)::r,ps,⟨g,t,cs,fuel,p,q,h1,h2,h3,h4,h5,_⟩,h=>by
  cases h with
  |head=>exact⟨g,t,cs,fuel,p,h1,h2,h3,h4⟩
  |tail _ h=>exact LaidVars_at h5 h
def tabs_of_mem {P:Program}{W:World}{laid:List (String×DataW Unit)}{name:String}{g:Nat}{t e:TypeId}(hg:P.globalNamed name=some g)(hty:(P.globals[g]?).map (·.type)=some t)(ht:P.underlying t=some (.array 6 e))(he:P.underlying e=some .string)(hce:P.cellsOf e=1)(hct:P.cellsOf t=6)
  (hone:(List.range P.globals.size).all (fun i=> !tabG P i||i==g)=true) (hm:(name,strData letters)∈laid) (h:laidMet P laid W):∀i,tabG P i=true->i<W.heap.size/\TabAt W i:=by
 obtain⟨ps,h,_⟩:=h;obtain⟨g',t',cs,fuel,p,hg',ht',hvar,hd⟩:=LaidVars_at h hm;obtain rfl:=jJ (hg.symm.trans hg');obtain rfl:=jJ (hty.symm.trans ht');have hcs:=cells_of_strs ht he hce hct hd;intro i hi
 have hlt:i<P.globals.size:=by
  rcases Qo i P.globals.size with h|h
  ·exact h
  ·unfold tabG at hi;rw[QL h] at hi;cases hi
 have h1:=qu.1 hone i (Qu.2 hlt);rw[hi] at h1;have:i=g:=by simpa using h1
 subst this
 have hat:TabAt W i:=fun j s hj=>by
  have:=World.var?_cell hg hvar j;rw[this,<-QG,hcs,qQ,hj]
  rfl
 refine⟨?_,hat⟩;have h0:=hat 0 _ (show letters[0]? =some _ from rfl);unfold World.cell? at h0;rcases Qo i W.heap.size with h|h
 ·exact h
 ·simp[QL h] at h0
def byteData {H:Type}(ns:List Int):DataW H:= .agg (ns.map fun n=> .lit (.int .u8 n))
def cells_of_bytes {H:Type}{enc:TypeId×Value->H}{P:Program}{w:World}{base:Nat}{sp:Nat->Bool}{held:Bool}{fuel:Nat}{t e:TypeId}{n:Nat}{cs:List Value}{ss:List Int}{p:List MemPlace}
  (ht:P.underlying t=some (.array n e)) (he:P.underlying e=some (.int .u8)) (hce:P.cellsOf e=1) (hct:P.cellsOf t=n)
  (h:DataW.trod enc P w base sp held fuel t cs=some (byteData ss,p)):cs=ss.map (Value.int .u8 ·):=by
 cases fuel with
 |zero=>simp[DataW.trod] at h
 |succ fuel=>
  simp only[DataW.trod,ht,hce,hct,JO] at h
  split at h
  ·rename_i hl;obtain⟨xs,hm,hx⟩:=q6.1 h
   have hxs:xs.map (·.1)=ss.map fun s=>(DataW.lit (.int .u8 s):DataW H):=by
    have:=Qv Prod.fst hx;simpa [byteData] using this
   have hxl:xs.length=n:=by simpa using Lib.mapM_length hm
   have hzl:ss.length=n:=by
    have:=Qv List.length hxs;simp at this;omega
   apply j2;intro i
   by_cases hi:i<n
   ·obtain⟨b,hb,hf⟩:=Lib.mapM_at hm i i (by simp[hi]);obtain⟨z,hc,rfl,_⟩:=DataW.trod_int he hf
    have h1:cs[i]? =some (.int .u8 z):=by
     have:=Qv (·[0]?) hc;simpa [Qb,QR] using this
    have h2:(xs.map (·.1))[i]? =some (DataW.lit (.int .u8 z):DataW H):=by simp[hb]
    rw[hxs] at h2;simp only[qQ,q6,DataW.lit.injEq,Lit.int.injEq,QQ] at h2;obtain⟨z',hz',rfl⟩:=h2;simp[h1,hz']
   ·rw[qP (by omega),qP (by simp;omega)]
  ·cases h
def tabsB_of_mem {P:Program}{W:World}{laid:List (String×DataW Unit)}{name:String}{g:Nat}{t e:TypeId}(hg:P.globalNamed name=some g)(hty:(P.globals[g]?).map (·.type)=some t)(ht:P.underlying t=some (.array 32 e))(he:P.underlying e=some (.int .u8))(hce:P.cellsOf e=1)(hct:P.cellsOf t=32)
  (hone:(List.range P.globals.size).all (fun i=> !tabBG P i||i==g)=true) (hm:(name,byteData db32)∈laid) (h:laidMet P laid W):∀i,tabBG P i=true->i<W.heap.size/\TabBAt W i:=by
 obtain⟨ps,h,_⟩:=h;obtain⟨g',t',cs,fuel,p,hg',ht',hvar,hd⟩:=LaidVars_at h hm;obtain rfl:=jJ (hg.symm.trans hg');obtain rfl:=jJ (hty.symm.trans ht');have hcs:=cells_of_bytes ht he hce hct hd;intro i hi
 have hlt:i<P.globals.size:=by
  rcases Qo i P.globals.size with h|h
  ·exact h
  ·unfold tabBG at hi;rw[QL h] at hi;cases hi
 have h1:=qu.1 hone i (Qu.2 hlt);rw[hi] at h1;have:i=g:=by simpa using h1
 subst this
 have hat:TabBAt W i:=fun j s hj=>by
  have:=World.var?_cell hg hvar j;rw[this,<-QG,hcs,qQ,hj]
  rfl
 refine⟨?_,hat⟩;have h0:=hat 0 _ (show db32[0]? =some _ from rfl);unfold World.cell? at h0;rcases Qo i W.heap.size with h|h
 ·exact h
 ·simp[QL h] at h0
end Go.Sk
namespace Go.Proofs
open Tryz
open Go.Sk
section
section
variable {fo:Fo} {ls:Nat->List Int} {E:Int->Bool}
def stepFR_keeps (h:FI fo ls)(p:Int):(z27 fo p).ns=fo.ns/\(z27 fo p).ht=fo.ht/\(z27 fo p).cb.length=fo.cb.length/\(z27 fo p).ly.length=fo.ly.length:=by
 unfold z27;rw[h.vf];simp only[qS,qz,Ql]
 split
 ·split
  ·split
   ·exact⟨rfl,rfl,qy,rfl⟩
   exact⟨rfl,rfl,qy,z40 ..⟩
  exact⟨rfl,rfl,rfl,z40 ..⟩
 exact⟨rfl,rfl,rfl,rfl⟩
end
end
section
open JoQm (gxE axE exE)
open JnNm (oxE)
open D0 (sdE)
def leftT_spec (ls : List Int) (m at_ : Nat) : zj prog 22 [.ptr 0 0 0 0] ⟨2, [(0, z16 1 m at_), (1, z1a ls)]⟩
   (fun s H1=>(∃b,s= .bool b)/\H1=⟨2,[(0,z16 1 m at_)]⟩):=by
 refine Zf false 13 [.tmp 2] func22 ntmps22 results22 fun w0 own0 β0 Q hQ hQn=> ?_;refine Zrs [0] (z6 ?_);refine Zrq [2] [0,1,2,3,4,5,6,7,8,9,10] (zb (hQ _ _ ?_));refine Zob ⟨2,[(0,z16 1 m at_)]⟩ ?_;exact⟨⟨_,rfl⟩,trivial⟩
end
section
def rowsOf_five' (a b c d e:Int):z3y 1 5 [SV.int .i64 a,SV.int .i64 b,SV.int .i64 c,SV.int .i64 d,SV.int .i64 e]=ints [a,b,c,d,e]:=rfl
def newF_lenF (ns:List Nd)(dn:List Int)(m:Nat)(ht:Int):(z2n ns dn m ht).ns=ns/\(z2n ns dn m ht).ht=ht/\(z2n ns dn m ht).cb=List.replicate m noCb/\(z2n ns dn m ht).cb.length=m:=⟨rfl,rfl,rfl,Qy⟩
def FI.sizes {fo:Fo}{ls:Nat->List Int}(h:FI fo ls):lyB fo.ly/\fo.ns.length<=20/\fo.cb.length<=8/\fo.ly.length<=1000000000000000:=⟨h.sh.lyB,h.sh.few,h.sh.m8,by have:=h.sh.lyB.1;omega⟩
def FI.startAny {fo:Fo}{ls:Nat->List Int}(h:FI fo ls)(q c d:Int):lyB (z12 fo q c d).ly/\(z12 fo q c d).ns.length<=20/\(z12 fo q c d).cb.length<=8/\(z12 fo q c d).ly.length<=1000000000000000:=by
 by_cases he:z1n fo q c d=0
 ·exact(h.start he).sizes
 rw[z12,qc he];exact⟨⟨ql _,fun i=>by simp[lyA,noFo,noLy]⟩,ql _,ql _,ql _⟩
def FI.stepAny {fo:Fo}{ls:Nat->List Int}(h:FI fo ls)(q:Int):∃ls',FI (z27 fo q) ls':=by
 cases he:z6a fo q with
 |true=>obtain⟨l,g,_⟩:=h.step he (qd _);exact⟨l,g⟩
 |false=>refine⟨ls,?_⟩;unfold z27;rw[h.vf,he];exact h
def JrLm.exE:=aj9 @z11 @zd @zf @zo @zh @zx @z10 ec2 (aj9 @zg @zp @zm @zi z58 @zn z3g z3w (aj9 @zq ec3 ec5 @z1a.eq_1 @zu.eq_1 @ints.eq_1 ec34 ec35 (aj5 ec36 ec0 @z16.eq_1 @rowsOf_five' @z18)))
def JrLm.axE:=aj9 @z11 @zd @zf @zo @zh @zx @z10 ec2 (aj9 @zg @zp @zm @zi z58 @zn z3g z3w (aj9 @zq ec3 ec5 @z1a.eq_1 @zu.eq_1 ec34 ec35 ec0 (aj9 @z16.eq_1 @rowsOf_five' @z18 @z1p @z21 @z2j @z2r ec38 @z38)))
open JoQm (gxE)
open JrLm (axE exE)
open JnNm (oxE)
open D0 (sdE)
def followsF_spec (ls:List Int)(p kind vv:Int)(hx:ls.length<=9223372036854775807):
  zj prog 4 [.slc false 0 0 0 ls.length,.int .i64 p,.int .i64 kind,.int .i64 vv] ⟨1,[(0,z1a ls)]⟩ (fun s _=>s= .bool true):=by
 refine Zf false 127 [.tmp 8] func4 ntmps4 results4 fun w0 own0 β0 Q hQ hQn=> ?_;refine Zrs [0,1,2,3] ?_;refine sg [1,2,3,9] rfl ?_;intro K hK;refine Zo Zl ?_;refine Zo Zl ?_;refine Zca (new_spec ls hx) (id) ?_;rintro s0 H0 ⟨mm,hm,rfl,rfl⟩ s1 H1 hs1 hH1;obtain⟨hs2,hH2⟩:=Zaf hs1 hH1;clear hs1 hH1;subst hs2 hH2;refine Zad ?_;refine Zkl hK ?_;clear hK K;refine sg [1,2,3,9,10,11] rfl ?_;intro K hK;refine Zo Zl ?_;refine Zo Zl ?_;refine Zca (made_spec ls mm 0 hx hm (ql _)) (fun q=>if q=0 then 1 else 0) ?_;rintro s0 H0 ⟨ns,dn,m,ht,at1,⟨hmk,ha1⟩,rfl,rfl⟩ s1 H1 hs1 hH1;obtain⟨hs2,hH2⟩:=Zaf hs1 hH1;clear hs1 hH1;subst hs2 hH2;refine Zad ?_;have hF0:=FI_new hmk dn;obtain⟨n1,n2,n3,n4⟩:=newF_lenF ns dn m ht;obtain⟨fo,hfo⟩:∃fo,z2n ns dn m ht=fo:=⟨_,rfl⟩;obtain⟨lv0,hlv⟩:∃lv0:Nat->List Int,(fun i=>ordN (keyL (shA (z37 ns ht.toNat) i).2) (innL dn (shA (z37 ns ht.toNat) i).2) (shA (z37 ns ht.toNat) i).2.length)=lv0:=⟨_,rfl⟩;rw[hlv] at hF0;rw[hfo] at hF0 n1 n2 n3 n4 ⊢;rw[<-n3,<-n4,<-n2,<-n1];have hf1:=hF0.sizes;refine Zkl hK ?_;clear hK K;refine z6 (Zrs [1,2,3,9,10,33] ?_);refine Zcm ?_ ?_
 ·intro h33
  exfalso;cases h33
 intro h33;refine z7 (sg [1,2,3,9,10,12] rfl ?_);intro K hK;refine Zo Zl ?_;refine Zd Zl (refCopy_specF fo hf1.1 fo.ns.length fo.ly.length fo.cb.length rfl rfl rfl (by omega) (by omega)) (fun q=>q+2) ?_;refine Zkl hK ?_;clear hK K;refine z6 (Zrs [1,2,3,9,10,12,13] ?_);refine z8 fun Q0 hN0 hX0 hR0 hE0=> ?_;refine zl (σ:=Fo×(Nat->List Int)×Nat×Nat) (fun σ=>FI σ.1 σ.2.1/\σ.2.2.1<=mm/\σ.2.2.2<=60) (fun σ=>60-σ.2.2.2) (fun σ=>[(1,.int .i64 p),(2,.int .i64 kind),(3,.int .i64 vv),(9,.ptr 1 0 0 0),(10,.ptr 6 0 0 0),(12,.ptr 11 0 0 0),(13,.int .i64 σ.2.2.2)]) (fun σ=>⟨12,[(1,z16 0 mm σ.2.2.1),(11,rV 34 4 1 (fun _=>[.slc true 7 0 0 σ.1.ns.length,.int .i64 σ.1.ht,.slc true 8 0 0 σ.1.ly.length,.slc true 10 0 0 σ.1.cb.length])),(7,rI 62 3 σ.1.ns.length (nds σ.1.ns)),(8,rI 89 5 σ.1.ly.length (lyR 9 σ.1.ly)),(9,(3*σ.1.ly.length+1,fam false 3 1 (lyF false σ.1.ly))),(10,rI 58 3 σ.1.cb.length (cbs σ.1.cb)),(6,rV 34 4 1 (fun _=>[.slc true 2 0 0 σ.1.ns.length,.int .i64 σ.1.ht,.slc true 3 0 0 σ.1.ly.length,.slc true 5 0 0 σ.1.cb.length])),(2,rI 62 3 σ.1.ns.length (nds σ.1.ns)),(3,rI 89 5 σ.1.ly.length (lyR 4 σ.1.ly)),(4,(3*σ.1.ly.length+1,fam false 3 1 (lyF false σ.1.ly))),(5,rI 58 3 σ.1.cb.length (cbs σ.1.cb)),(0,z1a ls)]⟩) (fo,lv0,at1,0) ⟨hF0,ha1,ql _⟩ (ρ:=id) (Zg id) ?_;rintro⟨f,lw,at2,i⟩ hi QL1 hL1 hRL1 hEL1;obtain⟨hI,hi3,hi4⟩:=hi;dsimp only at hI hi3 hi4
 have hf:=hI.sizes;refine z6 (sg [1,2,3,9,10,12,13,41] rfl ?_);intro K hK
 have hk7:∀B:Bool,(B=true->i<60)->K [(1,.int .i64 p),(2,.int .i64 kind),(3,.int .i64 vv),(9,.ptr 1 0 0 0),(10,.ptr 6 0 0 0),(12,.ptr 11 0 0 0),(13,.int .i64 i),(41,.bool B)] ⟨12,[(1,z16 0 mm at2),(11,rV 34 4 1 (fun _=>[.slc true 7 0 0 f.ns.length,.int .i64 f.ht,.slc true 8 0 0 f.ly.length,.slc true 10 0 0 f.cb.length])),(7,rI 62 3 f.ns.length (nds f.ns)),(8,rI 89 5 f.ly.length (lyR 9 f.ly)),(9,(3*f.ly.length+1,fam false 3 1 (lyF false f.ly))),(10,rI 58 3 f.cb.length (cbs f.cb)),(6,rV 34 4 1 (fun _=>[.slc true 2 0 0 f.ns.length,.int .i64 f.ht,.slc true 3 0 0 f.ly.length,.slc true 5 0 0 f.cb.length])),(2,rI 62 3 f.ns.length (nds f.ns)),(3,rI 89 5 f.ly.length (lyR 4 f.ly)),(4,(3*f.ly.length+1,fam false 3 1 (lyF false f.ly))),(5,rI 58 3 f.cb.length (cbs f.cb)),(0,z1a ls)]⟩:=by
  intro B hB;refine hK _ _ ?_;clear hK K;refine Zcm ?_ ?_
  ·intro h41;have hi60:=hB h41;refine z7 (z6 ?_);refine z8 fun Q1 hN1 hX1 hR1 hE1=> ?_;refine sg [1,2,3,9,10,12,13,14] rfl ?_;intro K hK;iterate 6 (refine Zo Zl ?_)
   refine Zca (z2x ls mm at2 (f.cb.length+1) hx hm hi3 (by omega)) (fun q=>if q=0 then 1 else 0) ?_;rintro s0 H0 ⟨v,at3,g1,g2,g3,g4,rfl,rfl⟩ s1 H1 hs1 hH1;obtain⟨hs2,hH2⟩:=Zaf hs1 hH1;clear hs1 hH1;subst hs2 hH2;refine Zad ?_;have g5:=g3 (by omega);refine Zo Zl ?_;refine Zo Zl ?_;refine Zca (z2x ls mm at3 12 hx hm g1 (by omega)) (fun q=>if q=0 then 1 else 0) ?_;rintro s0 H0 ⟨u,at4,f1,f2,f3,f4,rfl,rfl⟩ s1 H1 hs1 hH1;obtain⟨hs2,hH2⟩:=Zaf hs1 hH1;clear hs1 hH1;subst hs2 hH2;refine Zad ?_;have f5:=f3 (by omega);iterate 3 (refine Zo Zl ?_)
   refine zr ?_;refine Zpr ?_;obtain⟨q,hq⟩:∃q:Int,v-u/11=q:=⟨_,rfl⟩;rw[hq];refine hK _ _ ?_;clear hK K;refine z6 (sg [1,2,3,9,10,12,13,14,55] rfl ?_);intro K hK;refine Zo Zl ?_;refine Zo Zl ?_;refine Zca (bool_spec ls mm at4 5 hx hm f1 (by omega) (by omega)) (fun q=>if q=0 then 1 else 0) ?_;rintro s0 H0 ⟨b4,at5,e1,rfl,rfl⟩ s1 H1 hs1 hH1;obtain⟨hs2,hH2⟩:=Zaf hs1 hH1;clear hs1 hH1;subst hs2 hH2;refine Zad ?_;refine Zk hK ?_;clear hK K;refine Zcm ?_ ?_
   ·intro h55;refine z6 ?_;refine Zrd [1,2,3,9,10,12,13,14,15,16] [0,3,4,5,1,2,6,7,8] [[],[1],[1],[],[],[],[1]] [[1],[1],[1],[1],[1],[1],[1],[1],[1]] ?_;intro K hK;iterate 4 (refine Zo (Zi [] [1]) ?_)
    refine Zo (Zi [1] [1]) ?_;refine Zo (Zi [1] [1]) ?_;refine Zca (pick_spec ls [1,2,1,2,3] mm at5 hx hm e1 (by simp) (by simp)) (fun q=>if q=0 then 1 else if q=1 then 0 else 12) ?_;rintro s0 H0 ⟨i6,at6,d1,d2,rfl,rfl⟩ s1 H1 hs1 hH1;obtain⟨hs2,hH2⟩:=Zaf hs1 hH1;clear hs1 hH1;subst hs2 hH2;refine Zad ?_;refine Zo (Zi [1] [1]) ?_;refine Zca (id_spec ls mm at6 hx hm d1 f.ns f.ns.length rfl (by omega)) (fun q=>if q=0 then 1 else if q=1 then 0 else q) ?_;rintro s0 H0 ⟨w,at7,c1,rfl,rfl⟩ s1 H1 hs1 hH1;obtain⟨hs2,hH2⟩:=Zaf hs1 hH1;clear hs1 hH1;subst hs2 hH2;refine Zad ?_;iterate 2 (refine Zo (Zi [] [1]) ?_)
    refine zz (Zpr (hK _ _ ?_));clear hK K;refine z6 (sg [1,2,3,9,10,12,13,14,15,16,64] rfl ?_);intro K hK;refine Zo Zl ?_;refine Zo Zl ?_;refine Zca (bool_spec ls mm at7 20 hx hm c1 (by omega) (by omega)) (fun q=>if q=0 then 1 else 0) ?_;rintro s0 H0 ⟨b20,at8,b1,rfl,rfl⟩ s1 H1 hs1 hH1;obtain⟨hs2,hH2⟩:=Zaf hs1 hH1;clear hs1 hH1;subst hs2 hH2;refine Zad ?_;refine Zk hK ?_;clear hK K;refine Cs.meet (σ:=Int×Int×Int) (fun _=>True) (fun σ=>[(1,.int .i64 p),(2,.int .i64 kind),(3,.int .i64 vv),(9,.ptr 1 0 0 0),(10,.ptr 6 0 0 0),(12,.ptr 11 0 0 0),(13,.int .i64 i),(14,.int .i64 σ.1),(15,.int .i64 σ.2.1),(16,.int .i64 σ.2.2)]) (fun _=>⟨12,[(1,z16 0 mm at8),(11,rV 34 4 1 (fun _=>[.slc true 7 0 0 f.ns.length,.int .i64 f.ht,.slc true 8 0 0 f.ly.length,.slc true 10 0 0 f.cb.length])),(7,rI 62 3 f.ns.length (nds f.ns)),(8,rI 89 5 f.ly.length (lyR 9 f.ly)),(9,(3*f.ly.length+1,fam false 3 1 (lyF false f.ly))),(10,rI 58 3 f.cb.length (cbs f.cb)),(6,rV 34 4 1 (fun _=>[.slc true 2 0 0 f.ns.length,.int .i64 f.ht,.slc true 3 0 0 f.ly.length,.slc true 5 0 0 f.cb.length])),(2,rI 62 3 f.ns.length (nds f.ns)),(3,rI 89 5 f.ly.length (lyR 4 f.ly)),(4,(3*f.ly.length+1,fam false 3 1 (lyF false f.ly))),(5,rI 58 3 f.cb.length (cbs f.cb)),(0,z1a ls)]⟩) _ rfl ?_ ?_ ?_
    ·intro h64 QM hM64 hR64 hE64
     try replace h64:=Znb h64
     refine Zrg [1,2,3,9,10,12,13,14,15,16] (za (hM64 _ _ ?_));exact⟨(p,kind,vv),trivial,id,(Zg id)⟩
    ·intro h64 QM hM64 hR64 hE64
     try replace h64:=Znb h64
     refine z7 (za (hM64 _ _ ?_));exact⟨(q,nth [1,2,1,2,3] i6,w),trivial,id,(Zg id)⟩
    rintro⟨q,kk,cc⟩ _;refine sg [1,2,3,9,10,12,13,14,15,16,17,18] rfl ?_;intro K hK;iterate 4 (refine Zo Zl ?_)
    refine Zd Zl (Start_spec f lw hI f.ns.length f.ly.length f.cb.length q kk cc rfl rfl rfl) (fun z=>z+2) ?_;refine Zkl hK ?_;clear hK K;refine sg [1,2,3,9,10,12,13,17,18,19,20] rfl ?_;intro K hK;iterate 4 (refine Zo Zl ?_)
    refine Zd Zl (refStart_specF f lw hI f.ns.length f.ly.length f.cb.length q kk cc rfl rfl rfl) (fun z=>z+7) ?_;iterate 6 (refine Zo Zl ?_)
    refine zr ?_;refine Zpr ?_;obtain⟨y1,y2,y3,y4⟩:=hI.startAny q kk cc;have hst:=fun he=>hI.start (p:=q) (kind:=kk) (id:=cc) he
    generalize z12 f q kk cc=R at*
    generalize z1n f q kk cc=E at*
    refine hK _ _ ?_;clear hK K;refine z6 (sg [1,2,3,9,10,12,13,17,18,19,92] rfl ?_);intro K hK;iterate 6 (refine Zo Zl ?_)
    refine z13 ?_;refine z1b rfl rfl ?_;refine Zgr ?_;refine⟨fun _=> ?_,fun h=>(by cases h)⟩;refine Zo id ?_;refine Zc1 (sameF_spec R R y1 y1 R.ns.length R.ly.length R.cb.length R.ns.length R.ly.length R.cb.length rfl rfl rfl rfl rfl rfl (by omega) (by omega) (by omega)) (fun q=>if q<4 then q+12 else q+13) ?_;simp only[jR];refine Zkl hK ?_;clear hK K;refine Zcm ?_ ?_
    ·intro h92
     exfalso;simp at h92
    intro h92;refine z7 (z6 (Zrs [1,2,3,9,10,12,13,17,19,94] ?_));refine Zcm ?_ ?_
    ·intro h94;have hRI:=hst (by simpa using h94);refine Zrd [1,2,3,9,10,12,13] [0,1,2,3] [[],[],[6],[11]] [[],[6],[6],[6,11]] ?_;intro K hK;refine Zo (Zi [] []) ?_;refine Zo (Zi [] [6]) ?_;refine Zo (Zi [6] [6]) ?_;refine Zo (Zi [11] [6,11]) ?_;refine zz (Zpr (hK _ _ ?_));clear hK K;refine zk (hX1 _ _ (Zrg [1,2,3,9,10,12,13] (za (hL1 _ _ ?_))));rw[iS i];exact⟨(R,lw,at8,i+1),⟨⟨hRI,b1,by dsimp only;omega⟩,by dsimp only;omega⟩,fun q=>if q=2 then 12 else if q=3 then 13 else if q=4 then 14 else if q=5 then 15 else if q=7 then 17 else if q=8 then 18 else if q=9 then 19 else if q=10 then 20 else q,(Zg (fun q=>if q=2 then 12 else if q=3 then 13 else if q=4 then 14 else if q=5 then 15 else if q=7 then 17 else if q=8 then 18 else if q=9 then 19 else if q=10 then 20 else q))⟩
    intro h94;refine z7 (zk (hX1 _ _ (Zrg [1,2,3,9,10,12,13] (za (hL1 _ _ ?_)))));rw[iS i];exact⟨(f,lw,at8,i+1),⟨⟨hI,b1,by dsimp only;omega⟩,by dsimp only;omega⟩,id,(Zg id)⟩
   intro h55;refine z7 (sg [1,2,3,9,10,12,13,14,21,22] rfl ?_);intro K hK;iterate 2 (refine Zo Zl ?_)
   refine Zd Zl (Step_spec f lw hI f.ns.length f.ly.length f.cb.length q rfl rfl rfl) (fun z=>z+2) ?_;refine Zkl hK ?_;clear hK K;refine sg [1,2,3,9,10,12,13,21,22,23,24] rfl ?_;intro K hK;iterate 2 (refine Zo Zl ?_)
   refine Zd Zl (refStep_specF f lw hI f.ns.length f.ly.length f.cb.length q rfl rfl rfl) (fun z=>z+7) ?_;iterate 6 (refine Zo Zl ?_)
   refine zr ?_;refine Zpr ?_;obtain⟨lw',hR⟩:=hI.stepAny q;obtain⟨k1,k2,k3,k4⟩:=stepFR_keeps hI q
   generalize z27 f q=R at*
   generalize z6a f q=E at*
   rw[<-k1,<-k2,<-k3,<-k4];obtain⟨y1,y2,y3,y4⟩:=hR.sizes;refine hK _ _ ?_;clear hK K;refine z6 (sg [1,2,3,9,10,12,13,21,23,123] rfl ?_);intro K hK;iterate 6 (refine Zo Zl ?_)
   refine z13 ?_;refine z1b rfl rfl ?_;refine Zgr ?_;refine⟨fun _=> ?_,fun h=>(by cases h)⟩;refine Zo id ?_;refine Zc1 (sameF_spec R R y1 y1 R.ns.length R.ly.length R.cb.length R.ns.length R.ly.length R.cb.length rfl rfl rfl rfl rfl rfl (by omega) (by omega) (by omega)) (fun q=>if q<4 then q+12 else q+13) ?_;simp only[jR];iterate 5 (refine Zo Zl ?_)
   refine z13 ?_;refine z1b rfl rfl ?_;refine Zgr ?_;refine⟨fun _=> ?_,fun h=>(by cases h)⟩;refine Zo id ?_;refine Zc1 (seenF_spec R lw' hR R.ns.length R.ly.length R.cb.length rfl rfl rfl) (fun q=>if q<4 then q+12 else q+13) ?_;refine Zkl hK ?_;clear hK K;refine Zcm ?_ ?_
   ·intro h123
    exfalso;simp at h123
   intro h123;refine z7 ?_;refine Zrd [1,2,3,9,10,12,13] [0,1,2,3] [[],[],[6],[11]] [[],[6],[6],[6,11]] ?_;intro K hK;refine Zo (Zi [] []) ?_;refine Zo (Zi [] [6]) ?_;refine Zo (Zi [6] [6]) ?_;refine Zo (Zi [11] [6,11]) ?_;refine zz (Zpr (hK _ _ ?_));clear hK K;refine za (hN1 _ _ (Zrg [1,2,3,9,10,12,13] (za (hL1 _ _ ?_))));rw[iS i];exact⟨(R,lw',at5,i+1),⟨⟨hR,e1,by dsimp only;omega⟩,by dsimp only;omega⟩,fun q=>if q=2 then 12 else if q=3 then 13 else if q=4 then 14 else if q=5 then 15 else if q=7 then 17 else if q=8 then 18 else if q=9 then 19 else if q=10 then 20 else q,(Zg (fun q=>if q=2 then 12 else if q=3 then 13 else if q=4 then 14 else if q=5 then 15 else if q=7 then 17 else if q=8 then 18 else if q=9 then 19 else if q=10 then 20 else q))⟩
  intro h41;refine zk (hEL1 _ _ _ (hX0 _ _ (sg [8] rfl ?_)));intro K hK;refine Zd Zl (sane13_spec) (id) ?_;refine Zkl hK ?_;clear hK K;refine zb (hQ _ _ ?_);exact Zoc ⟨1,[]⟩
 iterate 4 (refine Zo Zl ?_)
 refine z13 ?_;refine z1b rfl rfl ?_;refine Zgr ?_
 first|refine z15 ?_ ?_|refine(fun(h1:false=true->_) (h2:false=false->_)=>qi h1 fun _=>h2 rfl) ?_ ?_|refine qi ?_ ?_
 ·intro hg4
  first
   |(simp at hg4;done)
   |skip
    try replace hg4:=Znb hg4
    refine Zo id ?_;refine Zca (leftT_spec ls mm at2) (fun q=>if q=0 then 1 else 0) ?_;rintro s0 H0 ⟨⟨b,rfl⟩,rfl⟩ s1 H1 hs1 hH1;obtain⟨hs2,hH2⟩:=Zaf hs1 hH1;clear hs1 hH1;subst hs2 hH2;refine Zad ?_;refine Zo Zl ?_;refine zr ?_;refine Zpr ?_;refine hk7 _ ?_;intro hb;simp at hb<;>omega
 intro hg4;refine⟨.bool false,?_⟩
 first
  |(simp at hg4;done)
  |skip
   try replace hg4:=Znb hg4
   refine Zo Zl ?_;refine zr ?_;refine Zpr ?_;refine hk7 _ ?_;intro hb;simp at hb hg4<;>omega
end
end Go.Proofs
namespace Go.Proofs.YtpnefndionckaaaGreatDoor
open _root_.Go.Proofs.Tryz
open Go.ChangeShapes Go.WideShapes Go.RowKit Go.Sk Go.Proofs
def own:ownKnob Tryz.prog.godebug=none:=by kernel_rfl
def laid:laidOutB prog=true:=by kernel_rfl
def rowed:mapsRowed prog=true:=by kernel_rfl
def fullS:∀t e,t<Tryz.prog.types.size->Tryz.prog.underlying t=some (.slice e)->0<Tryz.prog.cellsOf e:=slices_full_of _ (by kernel_rfl)
def uInts:Tryz.prog.underlying 22=some (.slice 3):=by kernel_rfl
def uInt:Tryz.prog.underlying 3=some (.int .i64):=by kernel_rfl
def uStr:Tryz.prog.underlying 9=some .string:=by kernel_rfl
def uBool:Tryz.prog.underlying 4=some .bool:=by kernel_rfl
def fInt:flatB prog 3 [.i .i64]=true:=by kernel_rfl
def gTab:Tryz.prog.globalNamed "skipgraph/skipgraphworld.letters" =some 0:=by kernel_rfl
def gTabType:(Tryz.prog.globals[0]?).map (·.type)=some 127:=by kernel_rfl
def uTab:Tryz.prog.underlying 127=some (.array 6 9):=by kernel_rfl
def cTab:Tryz.prog.cellsOf 127=6:=by kernel_rfl
def cStr:Tryz.prog.cellsOf 9=1:=by kernel_rfl
def oneTab:(List.range Tryz.prog.globals.size).all (fun i=> !tabG prog i||i==0)=true:=by kernel_rfl
def tabs {W:World}(h:laidMetH prog [("math/bits.deBruijn32tab",Rows.laid_math_bits_deBruijn32tab),("skipgraph/skipgraphworld.letters",Rows.laid_skipgraph_skipgraphworld_letters)] W):∀i,tabG prog i=true->i<W.heap.size/\TabAt W i:=
 tabs_of_mem gTab gTabType uTab uStr cStr cTab oneTab (laid:=[("math/bits.deBruijn32tab",Rows.laid_math_bits_deBruijn32tab),("skipgraph/skipgraphworld.letters",Rows.laid_skipgraph_skipgraphworld_letters)]) (by exact .tail _ (.head _)) h
def gTabB:Tryz.prog.globalNamed "math/bits.deBruijn32tab" =some 1:=by kernel_rfl
def gTabBType:(Tryz.prog.globals[1]?).map (·.type)=some 211:=by kernel_rfl
def uTabB:Tryz.prog.underlying 211=some (.array 32 5):=by kernel_rfl
def uByte:Tryz.prog.underlying 5=some (.int .u8):=by kernel_rfl
def cTabB:Tryz.prog.cellsOf 211=32:=by kernel_rfl
def cByte:Tryz.prog.cellsOf 5=1:=by kernel_rfl
def oneTabB:(List.range Tryz.prog.globals.size).all (fun i=> !tabBG prog i||i==1)=true:=by kernel_rfl
def tabsB {W:World}(h:laidMetH prog [("math/bits.deBruijn32tab",Rows.laid_math_bits_deBruijn32tab),("skipgraph/skipgraphworld.letters",Rows.laid_skipgraph_skipgraphworld_letters)] W):∀i,tabBG prog i=true->i<W.heap.size/\TabBAt W i:=
 tabsB_of_mem gTabB gTabBType uTabB uByte cByte cTabB oneTabB (laid:=[("math/bits.deBruijn32tab",Rows.laid_math_bits_deBruijn32tab),("skipgraph/skipgraphworld.letters",Rows.laid_skipgraph_skipgraphworld_letters)]) (by exact .head _) h
def toInt:List Value->Int
 |[.int _ z]=>z
 |_=>0
def toInts (rows:List (List Value)):List Int:=rows.map toInt
def ints_rows {w:World}{v:Value}{q:Option Sk.Loc}{rows:List (List Value)}(h:RwIn w v q [.i .i64] rows)(i:Nat)(r:List Value)(hr:rows[i]? =some r):ints (toInts rows) i=r.map svOf:=by
 have hok:=h.ok r (qW hr);rcases r with _|⟨v,_|⟨v',r⟩⟩
 ·exact hok.elim
 ·obtain⟨⟨z,rfl,_⟩,_⟩:=hok;simp only[ints,nth,toInts,List.getD,qQ,hr,jj,J5,toInt,q8,QU,svOf]
 exact hok.2.elim
def ints_in {β:Env}{w:World}{v:Value}{q:Option Sk.Loc}{rows:List (List Value)}(h:RwIn w v q [.i .i64] rows){id:Nat}(hq:β id 0=q):
  den β (.slc false id 0 0 (toInts rows).length) v/\(Sk.Obj.row ⟨false,false,3,1,(toInts rows).length,ints (toInts rows)⟩).holds β w q:=by
 have:=rows_in h hq 3 (ints (toInts rows)) (ints_rows h);simpa [toInts] using this
def ints_len {w:World}{v:Value}{q:Option Sk.Loc}{rows:List (List Value)}(h:RwIn w v q [.i .i64] rows):(toInts rows).length<=9223372036854775807:=by
 have:=h.len;simpa [toInts,maxLen] using this
def ints_ltO (m:Nat)(xs:List Int):(Sk.Obj.row ⟨false,false,3,1,xs.length,ints xs⟩).lt m:=Sk.Obj.lt_row.2 fun i _=>by simp[ints,SV.ltL,SV.lt]
def putCells (l:List Value):Go.Obj->Go.Obj
 |.cells _ t frozen=> .cells l.toArray t frozen
 |o=>o
noncomputable def laidWorld (os:Os):World:=
 {World.holding prog os ⟨#[],#[],[]⟩ with heap:=((World.holding prog os ⟨#[],#[],[]⟩).heap.modify 0 (putCells (letters.map Value.string))).modify 1 (putCells (db32.map (Value.int IntKind.u8)))}
end Go.Proofs.YtpnefndionckaaaGreatDoor
namespace Go.Proofs.YtpnefndionckaaaGreatDoor.joinFollowsTop
open _root_.Go.Proofs.Tryz
open Go.ChangeShapes Go.WideShapes Go.RowKit Go.Sk Go.Proofs
def top (W:World)(v0 v1 v2 v3:Value)(q0:Option Sk.Loc)(r0:List (List Value))(h0:RwIn W v0 q0 [.i .i64] r0)(n1:Int)(h1:v1= .int .i64 n1)(n2:Int)(h2:v2= .int .i64 n2)(n3:Int)(h3:v3= .int .i64 n3)
  (htab:∀i,tabG prog i=true->i<W.heap.size/\TabAt W i) (htabB:∀i,tabBG prog i=true->i<W.heap.size/\TabBAt W i):Calls prog 4 #[v0,v1,v2,v3] W fun e w'=>e= .returned (.bool true)/\Below W.heap.size W w':=by
 let β:Env:=fun _ _=>q0
 obtain⟨a0,b0⟩:=ints_in (β:=β) (id:=0) h0 rfl;refine zj.top (Ent.of func4 (by kernel_rfl) (by kernel_rfl)) (followsF_spec (toInts r0) n1 n2 n3 (ints_len h0)) β W [v0,v1,v2,v3] (fun id k o ho=> ?_) ⟨v0,[v1,v2,v3],a0,⟨v1,[v2,v3],h1,⟨v2,[v3],h2,⟨v3,[],h3,rfl,rfl⟩,rfl⟩,rfl⟩,rfl⟩ (by simp[SV.ltL,SV.lt]) htab htabB;obtain⟨c,F,hf,hk,rfl⟩:=z1h ho;simp only[Sk.find,z1a,uQ,rO,rI,rV] at hf
 split at hf
 ·rename_i e;subst e;cases hf
  exact⟨rfl,by show(0:Nat)<1;omega,ints_ltO _ _,b0⟩
 cases hf
def contract (H:Type)(enc:TypeId×Value->H)(W:World)(base:Nat)(args:Array Value)(ds gs:List (DataW H))(before:List MemPlace)
  (hval:∀(j:Nat) t v,Tryz.f4.params[j]? =some t->args[j]? =some v->Value.okWide prog W .any base t v)
  (hW:DataW.Whole enc prog Tryz.f4.params.toList Rows.joinFollowsSpec.vars false W args.toList ds gs before) (hL:laidMetH prog Rows.joinFollowsRow.laid W):
  Calls prog 4 args W fun e W'=> ∃v,e= .returned v/\Rows.joinFollowsSpec.post enc prog Tryz.f4 false true false false W args v W':=by
 have hW1:=hW;obtain⟨p,q,hA0,hV,rfl,_,_⟩:=hW;have hA:DataW.TrodAll enc prog W 0 (fun _=>true) true Tryz.f4.params.toList args.toList ds p:=hA0;have hval1:∀(j:Nat) t v,Tryz.f4.params[j]? =some t->args[j]? =some v->Value.okWide prog W .any base t v:=hval;rw[params4] at hA hval1;obtain⟨v0,vs0,d0,ds0,p0,q0,ha0,rfl,rfl,h0,r0⟩:=trodAll_cons hA;obtain⟨v1,vs1,d1,ds1,p1,q1,ha1,rfl,rfl,h1,r1⟩:=trodAll_cons r0;obtain⟨v2,vs2,d2,ds2,p2,q2,ha2,rfl,rfl,h2,r2⟩:=trodAll_cons r1;obtain⟨v3,vs3,d3,ds3,p3,q3,ha3,rfl,rfl,h3,r3⟩:=trodAll_cons r2;obtain⟨rfl,rfl,rfl⟩:=trodAll_nil r3;obtain rfl:args= #[v0,v1,v2,v3]:=by cases args;simp_all
 obtain⟨_,_,x0⟩:=rows_open uInts fInt (by simp) (hval1 0 _ v0 rfl rfl) h0;obtain⟨n1,x1,_⟩:=open_int uInt (hval1 1 _ v1 rfl rfl) h1;obtain⟨n2,x2,_⟩:=open_int uInt (hval1 2 _ v2 rfl rfl) h2;obtain⟨n3,x3,_⟩:=open_int uInt (hval1 3 _ v3 rfl rfl) h3;refine(top W v0 v1 v2 v3 _ _ x0 n1 x1 n2 x2 n3 x3 (tabs hL) (tabsB hL)).mono fun e W1 ⟨he,hb⟩=> ?_;subst he;refine⟨_,rfl,law_post laid rowed fullS (by decide+kernel) rfl hW1 hb rfl uBool fun ds hd=> ?_⟩;have hd1:ds.length=4:=hd
 match ds,hd1 with
 |[_,_,_,_],_=>rfl
def laid_met (os:Os):laidMet prog Rows.joinFollowsRow.laid ((laidWorld os).forCall (fun _ _=>0) ⟨#[],#[.slice none 0 0,.int .i64 0,.int .i64 0,.int .i64 0],[]⟩).memory:=
 laidMet_of_run' 8 (by kernel_rfl) (by kernel_rfl)
def reads (os:Os){H:Type}(enc:TypeId×Value->H):∃places,DataW.whole enc prog ((laidWorld os).forCall (fun _ _=>0) ⟨#[],#[.slice none 0 0,.int .i64 0,.int .i64 0,.int .i64 0],[]⟩).memory Tryz.f4.params.toList Rows.joinFollowsSpec.vars false #[Value.slice none 0 0,.int .i64 0,.int .i64 0,.int .i64 0].toList 8=some ([.nil,.lit (.int .i64 0),.lit (.int .i64 0),.lit (.int .i64 0)],[],places):=
 ⟨[],by kernel_rfl⟩
set_option maxRecDepth 100000 in
def lifted (os:Os)(started:os.Started)(H:Type)(enc:TypeId×Value->H)(F:Stop.Interp):
  ReturnsInHanded {} Tryz.checked os 4 .any ((OpenSpec.ofChange Rows.joinFollowsSpec).preRow enc prog Tryz.f4 Rows.joinFollowsRow.domain false Rows.joinFollowsRow.laid) (((OpenSpec.ofChange Rows.joinFollowsSpec).at F).post enc prog Tryz.f4 false true false false):=by
 obtain⟨places,hx⟩:=reads os enc
 refine returnsInHanded_of_row (C:=Tryz.checked) (s:=OpenSpec.ofChange Rows.joinFollowsSpec) own started (by kernel_rfl) func4
  (witness_row_at (enc:=enc) (C:=Tryz.checked) false (laidWorld os) #[.slice none 0 0,.int .i64 0,.int .i64 0,.int .i64 0] rfl (by kernel_rfl) (by kernel_rfl) (by kernel_rfl)
   (OpenSpec.preRow_of_cond 8 hx (by kernel_rfl) (fun k hk=>by cases hk) (by kernel_rfl) (laid_met os))) ?_
 intro W base args ds gs before hval hW _ _ _ hL _ _;exact contract H enc W base args ds gs before hval hW hL
def said:Rows.JoinFollowsSaid:=
 OpenClaim.holds_of_cond 4 Tryz.f4 rfl rfl rfl rfl rfl rfl rfl ⟨rfl,rfl,rfl,rfl,rfl⟩ rfl rfl rfl rfl rfl (by kernel_rfl) func4 (by kernel_rfl)
  (jO (by kernel_rfl)) (by unfold Func.isWrapper;first|(rw[qe (by decide+kernel)];kernel_rfl)|(rw[qc (by decide+kernel)];exact⟨rfl,rfl⟩))
  (fun os started H enc _ F=>by rw[OpenClaim.pre_eq_preRow];exact lifted os started H enc F)
def plain (f:FuncId)(fn:Func)(hf:Tryz.pinned.checked.prog.funcNamed "skipgraph/skipgraphlaw13.JoinFollows" =some f)(hfn:Tryz.pinned.checked.prog.funcs[f]? =some fn):
  false=Tryz.pinned.checked.prog.looks []/\∀(j:Nat) t,fn.params[j]? =some t->Tryz.pinned.checked.prog.wantsStandIn t=false:=by
 obtain rfl:f=4:=jJ ((show Tryz.prog.funcNamed "skipgraph/skipgraphlaw13.JoinFollows" =some 4 by kernel_rfl).symm.trans hf)|>.symm
 obtain rfl:fn=Tryz.f4:=(jJ (Tryz.func4.symm.trans hfn)).symm;refine⟨by kernel_rfl,fun j t ht=> ?_⟩;rw[params4] at ht;have hm:t∈[22,3,3,3]:=by simpa using jG ht
 have hall:([22,3,3,3].all fun u=> !Tryz.prog.wantsStandIn u)=true:=by kernel_rfl
 exact(show Tryz.prog.wantsStandIn t=false by simpa using qu.1 hall t hm)
def proved:Rows.JoinFollowsCardSaid:=
 Claim7.holds_tied_plain_at .later [] _ _ _ _ said (fun _ h=>by cases h) (by kernel_rfl) (fun _ h=>by cases h) joinFollows_row_tie rfl ⟨rfl,rfl⟩ (by kernel_rfl) rfl plain (by kernel_rfl)
end Go.Proofs.YtpnefndionckaaaGreatDoor.joinFollowsTop
#print axioms Go.Proofs.YtpnefndionckaaaGreatDoor.joinFollowsTop.proved
