/-
  JoinKeeps: for every input the law returns true, and the input reads as before.
  Conditions: those that each statement names.
-/
import Derived.Test.YtpnefndionckaaaGreatDoorRmh
import Derived.Deep.Slices
import Derived.Lib.LaidTab
import Derived.Test.YtpnefndionckaaaGreatDoorRmk
import Derived.Test.YtpnefndionckaaaGreatDoorRmc
import Derived.Test.YtpnefndionckaaaGreatDoorRmf
import Derived.Test.YtpnefndionckaaaGreatDoorRmj
import Derived.Test.YtpnefndionckaaaGreatDoorRows
import Derived.Test.YtpnefndionckaaaGreatDoorCards
import Derived.Test.YtpnefndionckaaaGreatDoorTie
import Derived.WalkKit
import Derived.ProofKit
import Derived.OpenShut
import Derived.Deep.DeepHandedRow
set_option linter.unusedSimpArgs false
set_option linter.unusedVariables false
set_option linter.defProp false
set_option maxRecDepth 4000
set_option maxHeartbeats 8000000
namespace Go.Sk
open Go.RowKit Go.WideShapes Go.ChangeShapes
inductive FK where
 |i (k:IntKind)|s|b
def FK.is (P:Program)(t:TypeId):FK->Bool
 |.i k=>match P.underlying t with|some (.int k')=>k'==k|_=>false
 |.s=>match P.underlying t with|some .string=>true|_=>false
 |.b=>match P.underlying t with|some .bool=>true|_=>false
def FK.ok:FK->Value->Prop
 |.i k,v=> ∃z,v= .int k z/\(Lit.int k z).wf=true
 |.s,v=> ∃x:ByteArray,v= .string x/\x.size<=maxLen
 |.b,v=> ∃x,v= .bool x
def svOf:Value->SV
 |.int k z=> .int k z
 |.string x=> .str x
 |.bool x=> .bool x
 |v=> .raw v
theorem FK.den {β:Env}{k:FK}{v:Value}(h:k.ok v):den β (svOf v) v/\(svOf v).scalar=true/\∀m,(svOf v).lt m:=by
 cases k<;>simp only[FK.ok] at h
 ·obtain⟨z,rfl,_⟩:=h;exact⟨rfl,rfl,fun _=>trivial⟩
 ·obtain⟨z,rfl,_⟩:=h;exact⟨rfl,rfl,fun _=>trivial⟩
 ·obtain⟨z,rfl⟩:=h;exact⟨rfl,rfl,fun _=>trivial⟩
def okRow:List FK->List Value->Prop
 |[],[]=>True
 |k::ks,v::vs=>k.ok v/\okRow ks vs
 |_,_=>False
theorem okRow_len:∀{ks:List FK} {vs:List Value},okRow ks vs->vs.length=ks.length
 |[],[],_=>rfl
 |_::_,_::_,h=>by simp[okRow_len h.2]
 |[],_::_,h=>h.elim
 |_::_,[],h=>h.elim
theorem okRow_get:∀{ks:List FK} {vs:List Value},okRow ks vs->∀(j:Nat) (v:Value),vs[j]? =some v->∃k:FK,k.ok v
 |[],[],_,j,v,h=>by simp at h
 |k::_,_::_,h,j,v,hj=>by
  cases j with
  |zero=>simp at hj;subst hj;exact⟨k,h.1⟩
  |succ j=>simp at hj;exact okRow_get h.2 j v hj
 |[],_::_,h,_,_,_=>h.elim
 |_::_,[],h,_,_,_=>h.elim
def fldsB (P:Program)(fs:Array Field):Nat->List FK->Bool
 |i,[]=>i==fs.size
 |i,k::ks=>(match fs[i]? with|some f=>f.offset==i && P.cellsOf f.type==1 && k.is P f.type|none=>false) && fldsB P fs (i+1) ks
def flatB (P:Program)(t:TypeId)(ks:List FK):Bool:=
 P.cellsOf t==ks.length && (match P.underlying t with
  |some (.struct fs)=>fldsB P fs 0 ks
  |_=>match ks with|[k]=>k.is P t|_=>false)
section
variable {H:Type} {enc:TypeId×Value->H} {P:Program} {w:World} {base:Nat} {sp:Nat->Bool} {held:Bool}
theorem one_open {k:FK}{t:TypeId}{fuel:Nat}{cs:List Value}{x:DataW H×List MemPlace}(hk:k.is P t=true)(h:DataW.trod enc P w base sp held fuel t cs=some x):∃v,cs=[v]/\k.ok v:=by
 cases k<;>simp only[FK.is] at hk
 ·split at hk
  ·rename_i k' hu;obtain rfl:=eq_of_beq hk;obtain⟨n,rfl,_,hw⟩:=Jj hu h;exact⟨_,rfl,n,rfl,hw⟩
  ·cases hk
 ·split at hk
  ·rename_i hu;obtain⟨s,rfl,_,hs⟩:=jX hu h;exact⟨_,rfl,s,rfl,hs⟩
  ·cases hk
 ·split at hk
  ·rename_i hu;obtain⟨b,rfl,_⟩:=yB hu h;exact⟨_,rfl,b,rfl⟩
  ·cases hk
theorem flds_open {fs:Array Field}{n:Nat}{cs:List Value}{xs:List (DataW H×List MemPlace)}(hx:xs.length=fs.size)(hf:∀(i:Nat) (f:Field),fs[i]? =some f->DataW.trod enc P w base sp held n f.type ((cs.drop f.offset).take (P.cellsOf f.type))=xs[i]?):
  ∀(ks:List FK) (i:Nat),fldsB P fs i ks=true->i+ks.length=cs.length->okRow ks (cs.drop i)
 |[],i,_,hl=>by rw[jR (by simp at hl;omega)];trivial
 |k::ks,i,h,hl=>by
  simp only[fldsB,qh] at h;obtain⟨h1,h2⟩:=h;simp only[QK] at hl
  split at h1
  ·rename_i f hfi;simp only[qh,qv] at h1;obtain⟨⟨h3,h4⟩,h5⟩:=h1;have h6:=hf i f hfi;have hi:i<xs.length:=by rw[hx];exact(q9.1 hfi).1
   rw[h3,h4,qF hi] at h6;obtain⟨v,hv,hok⟩:=one_open h5 h6;rw[QB (by omega),jz,jO] at hv;rw[QB (by omega)];have:cs[i]=v:=by simpa using hv
   rw[this];exact⟨hok,flds_open hx hf ks (i+1) h2 (by omega)⟩
  ·cases h1
theorem flat_open {t:TypeId}{ks:List FK}{fuel:Nat}{cs:List Value}{x:DataW H×List MemPlace}(hb:flatB P t ks=true)(h:DataW.trod enc P w base sp held fuel t cs=some x):okRow ks cs:=by
 simp only[flatB,qh,qv] at hb;obtain⟨hc,hb⟩:=hb
 split at hb
 ·rename_i fs hu;obtain⟨xs,m,_,_,hl,hxl,hf⟩:=yj hu h;have:=flds_open hxl hf ks 0 hb (by omega);rwa [jN] at this
 ·split at hb
  ·rename_i k;obtain⟨v,rfl,hok⟩:=one_open hb h;exact⟨hok,trivial⟩
  ·cases hb
structure RwIn (w:World) (v:Value) (q:Option Loc) (ks:List FK) (rows:List (List Value)):Prop where
 len:rows.length<=maxLen
 ok:∀r∈rows,okRow ks r
 val:∃a c,v= .slice a rows.length c/\rows.length<=c/\(0<rows.length->∃L,q=some L/\a=some ⟨L.blk,L.off,none⟩)
 mem:(rows.length=0/\q=none)\/∃L,q=some L/\L.sz=ks.length/\L.blk<w.heap.size/\∀(i:Nat) (r:List Value),rows[i]? =some r->∀(j:Nat) (u:Value),r[j]? =some u->w.cell? ⟨L.blk,L.off+i*ks.length+j,none⟩=some u
theorem rows_open {t e:TypeId}{ks:List FK}{v:Value}{d:DataW H}{p:List MemPlace}(ht:P.underlying t=some (.slice e))(hb:flatB P e ks=true)(hk0:0<ks.length){b0:Nat}
  (hval:Value.okWide P w .any b0 t v) (h:DataW.Trod enc P w base sp held t v d p):∃q rows,RwIn w v q ks rows:=by
 obtain⟨n,hn⟩:=h;obtain⟨a0,l0,c0,rfl⟩:=okWide_slice ht hval;have hce:P.cellsOf e=ks.length:=by simp only[flatB,qh,qv] at hb;exact hb.1
 have hcs:(Value.slice a0 l0 c0).cells.toList=[Value.slice a0 l0 c0]:=rfl;rw[hcs] at hn;rcases Deep.open_slice ht hn with⟨hv,_⟩|⟨a,len,cap,m,n',D,Pl,hv,hbb,hlc,hcm,hmm,_,hel⟩
 ·cases hv
  exact⟨none,[],⟨by simp,by simp,⟨none,0,rfl,by simp,by simp⟩,.inl ⟨rfl,rfl⟩⟩⟩
 ·cases hv
  have hml:l0<=m:=by rw[hmm];split<;>omega
  obtain⟨R,hR⟩:=Deep.choose_lt (α:=List Value) (p:=fun i cs=>w.cells? base (a.add (i*P.cellsOf e)) (P.cellsOf e)=some cs/\DataW.trod enc P w base sp held n' e cs=some (D i,Pl i)) hel;have hrl:((List.range l0).map R).length=l0:=by simp
  have hget:∀i r,((List.range l0).map R)[i]? =some r->i<l0/\r=R i:=fun i r h=>by
   simp only[qG,qH] at h;obtain⟨k,h1,h2⟩:=h
   have hi:i<l0:=by
    rcases qZ i l0 with h|h
    ·exact h
    ·rw[qI (by simpa using h)] at h1;cases h1
   rw[jc hi] at h1
   cases h1
   exact⟨hi,h2.symm⟩
  have hok:∀i,i<m->okRow ks (R i):=fun i hi=>flat_open hb (hR i hi).2
  have hrow:∀r∈(List.range l0).map R,okRow ks r:=fun r hr=>by
   obtain⟨i,hi,rfl⟩:=Qy.1 hr;exact hok i (by have:=Qd.1 hi;omega)
  by_cases h0:l0=0
  ·subst h0;exact⟨none,[],⟨by simp,by simp,⟨some a,c0,rfl,by simp,by simp⟩,.inl ⟨rfl,rfl⟩⟩⟩
  ·have hcell:∀i,i<l0->∀(j:Nat) (u:Value),(R i)[j]? =some u->w.cell? ((a.add (i*ks.length)).add j)=some u:=fun i hi j u hj=>by
    obtain⟨h1,h2⟩:=hR i (by omega);obtain⟨_,hlen,hc⟩:=yn h1;have hjl:j<P.cellsOf e:=by rw[<-hlen];exact(q6.1 hj).1
    rw[<-hce,hc j hjl];exact hj
   have hr0:∃u,(R 0)[0]? =some u:=by
    have:=okRow_len (hok 0 (by omega));exact⟨_,qF (by omega)⟩
   obtain⟨u0,hu0⟩:=hr0;have hc0:=hcell 0 (by omega) 0 u0 hu0;have hsp:a.spot=none:=yz (by unfold Addr.add at hc0;simpa using hc0);obtain⟨b,o,s0⟩:=a;simp only at hsp;subst hsp
   have hblk:b<w.heap.size:=by
    rw[z4h,z4h] at hc0;unfold World.cell? at hc0;rcases qZ b w.heap.size with h|h
    ·exact h
    ·simp[q8 h] at hc0
   refine⟨some ⟨b,o,ks.length,0⟩,(List.range l0).map R,⟨by omega,hrow,⟨some ⟨b,o,none⟩,c0,by rw[hrl],by omega,fun _=>⟨_,rfl,rfl⟩⟩,.inr ⟨_,rfl,rfl,hblk,fun i r hr j u hj=> ?_⟩⟩⟩;obtain⟨hi,rfl⟩:=hget i r hr;have:=hcell i hi j u hj;rw[z4h,z4h] at this;exact this
end
theorem rows_in {β:Env}{w:World}{v:Value}{q:Option Loc}{ks:List FK}{rows:List (List Value)}(h:RwIn w v q ks rows){id:Nat}(hq:β id 0=q)(e:TypeId)(f:Nat->List SV)(hf:∀(i:Nat) (r:List Value),rows[i]? =some r->f i=r.map svOf):
  den β (.slc false id 0 0 rows.length) v/\(Obj.row ⟨false,false,e,ks.length,rows.length,f⟩).holds β w q:=by
 obtain⟨_,hok,⟨a,c,rfl,hc,hp⟩,hm⟩:=h;refine⟨?_,?_⟩
 ·simp only[den,z5c,qw,Qo];refine⟨a,c,rfl,hc,fun h=> ?_⟩;obtain⟨L,h1,h2⟩:=hp h;exact⟨L,hq.trans h1,by rw[h2];simp⟩
 ·rcases hm with hm|⟨L,h1,h2,h3,h4⟩
  ·exact .inl hm
  ·refine .inr ⟨L,h1,h2,h3,fun i hi=> ?_,fun h=>by cases h⟩;have hi':i<rows.length:=hi;have hr:=qF hi';have hfi:=hf i _ hr;have hoki:=hok _ (qN hi')
   show(f i).length=ks.length/\∀(j:Nat) (s:SV),(f i)[j]? =some s->_
   rw[hfi];refine⟨by rw[qA];exact okRow_len hoki,fun j s hs=> ?_⟩;rw[qG,qH] at hs;obtain⟨u,hu,rfl⟩:=hs;obtain⟨k,hk⟩:=okRow_get hoki j u hu;obtain⟨g1,g2,_⟩:=FK.den (β:=β) hk;refine⟨g2,u,?_,g1⟩;rw[h2];exact h4 i _ hr j u hu
def strData {H:Type}(ss:List ByteArray):DataW H:= .agg (ss.map fun s=> .lit (.string s.data.toList))
theorem cells_of_strs {H:Type}{enc:TypeId×Value->H}{P:Program}{w:World}{base:Nat}{sp:Nat->Bool}{held:Bool}{fuel:Nat}{t e:TypeId}{n:Nat}{cs:List Value}{ss:List ByteArray}{p:List MemPlace}
  (ht:P.underlying t=some (.array n e)) (he:P.underlying e=some .string) (hce:P.cellsOf e=1) (hct:P.cellsOf t=n)
  (h:DataW.trod enc P w base sp held fuel t cs=some (strData ss,p)):cs=ss.map Value.string:=by
 cases fuel with
 |zero=>simp[DataW.trod] at h
 |succ fuel=>
  simp only[DataW.trod,ht,hce,hct,jT] at h
  split at h
  ·rename_i hl;obtain⟨xs,hm,hx⟩:=qH.1 h
   have hxs:xs.map (·.1)=ss.map fun s=>(DataW.lit (.string s.data.toList):DataW H):=by
    have:=Qj Prod.fst hx;simpa [strData] using this
   have hxl:xs.length=n:=by simpa using Lib.mapM_length hm
   have hzl:ss.length=n:=by
    have:=Qj List.length hxs;simp at this;omega
   apply jp;intro i
   by_cases hi:i<n
   ·obtain⟨b,hb,hf⟩:=Lib.mapM_at hm i i (by simp[hi]);obtain⟨z,hc,rfl,_⟩:=jX he hf
    have h1:cs[i]? =some (.string z):=by
     have:=Qj (·[0]?) hc;simpa [Qc,QF] using this
    have h2:(xs.map (·.1))[i]? =some (DataW.lit (.string z.data.toList):DataW H):=by simp[hb]
    rw[hxs] at h2;simp only[qG,qH,j9,yu] at h2;obtain⟨z',hz',he'⟩:=h2
    have:z'=z:=by
     cases z' with
     |mk a=>cases z with
      |mk b=>congr 1;exact j4.1 he'
    subst this;simp[h1,hz']
   ·rw[qI (by omega),qI (by simp;omega)]
  ·cases h
end Go.Sk
namespace Go.Sk
open Go.RowKit Go.ChangeShapes Go.WideShapes
theorem LaidVars_at {P:Program}{w:World}{n:String}{d:DataW Unit}:∀{l:List (String×DataW Unit)} {ps:List MemPlace},DataW.LaidVars P w l ps->(n,d)∈l->
  ∃g t cs fuel p,P.globalNamed n=some g/\(P.globals[g]?).map (·.type)=some t/\w.var? P n=some cs/\DataW.trod (fun _=>()) P w 0 (fun _=>true) false fuel t cs.toList=some (d,p)
 |[],_,_,h=>by cases h
 |(m,e)::r,ps,⟨g,t,cs,fuel,p,q,h1,h2,h3,h4,h5,_⟩,h=>by
  cases h with
  |head=>exact⟨g,t,cs,fuel,p,h1,h2,h3,h4⟩
  |tail _ h=>exact LaidVars_at h5 h
theorem tabs_of_mem {P:Program}{W:World}{laid:List (String×DataW Unit)}{name:String}{g:Nat}{t e:TypeId}(hg:P.globalNamed name=some g)(hty:(P.globals[g]?).map (·.type)=some t)(ht:P.underlying t=some (.array 6 e))(he:P.underlying e=some .string)(hce:P.cellsOf e=1)(hct:P.cellsOf t=6)
  (hone:(List.range P.globals.size).all (fun i=> !tabG P i||i==g)=true) (hm:(name,strData letters)∈laid) (h:laidMet P laid W):∀i,tabG P i=true->i<W.heap.size/\TabAt W i:=by
 obtain⟨ps,h,_⟩:=h;obtain⟨g',t',cs,fuel,p,hg',ht',hvar,hd⟩:=LaidVars_at h hm;obtain rfl:=Qz (hg.symm.trans hg');obtain rfl:=Qz (hty.symm.trans ht');have hcs:=cells_of_strs ht he hce hct hd;intro i hi
 have hlt:i<P.globals.size:=by
  rcases qZ i P.globals.size with h|h
  ·exact h
  ·unfold tabG at hi;rw[q8 h] at hi;cases hi
 have h1:=qu.1 hone i (Qd.2 hlt);rw[hi] at h1;have:i=g:=by simpa using h1
 subst this
 have hat:TabAt W i:=fun j s hj=>by
  have:=Jb hg hvar j;rw[this,<-Qw,hcs,qG,hj]
  rfl
 refine⟨?_,hat⟩;have h0:=hat 0 _ (show letters[0]? =some _ from rfl);unfold World.cell? at h0;rcases qZ i W.heap.size with h|h
 ·exact h
 ·simp[q8 h] at h0
def byteData {H:Type}(ns:List Int):DataW H:= .agg (ns.map fun n=> .lit (.int .u8 n))
theorem cells_of_bytes {H:Type}{enc:TypeId×Value->H}{P:Program}{w:World}{base:Nat}{sp:Nat->Bool}{held:Bool}{fuel:Nat}{t e:TypeId}{n:Nat}{cs:List Value}{ss:List Int}{p:List MemPlace}
  (ht:P.underlying t=some (.array n e)) (he:P.underlying e=some (.int .u8)) (hce:P.cellsOf e=1) (hct:P.cellsOf t=n)
  (h:DataW.trod enc P w base sp held fuel t cs=some (byteData ss,p)):cs=ss.map (Value.int .u8 ·):=by
 cases fuel with
 |zero=>simp[DataW.trod] at h
 |succ fuel=>
  simp only[DataW.trod,ht,hce,hct,jT] at h
  split at h
  ·rename_i hl;obtain⟨xs,hm,hx⟩:=qH.1 h
   have hxs:xs.map (·.1)=ss.map fun s=>(DataW.lit (.int .u8 s):DataW H):=by
    have:=Qj Prod.fst hx;simpa [byteData] using this
   have hxl:xs.length=n:=by simpa using Lib.mapM_length hm
   have hzl:ss.length=n:=by
    have:=Qj List.length hxs;simp at this;omega
   apply jp;intro i
   by_cases hi:i<n
   ·obtain⟨b,hb,hf⟩:=Lib.mapM_at hm i i (by simp[hi]);obtain⟨z,hc,rfl,_⟩:=Jj he hf
    have h1:cs[i]? =some (.int .u8 z):=by
     have:=Qj (·[0]?) hc;simpa [Qc,QF] using this
    have h2:(xs.map (·.1))[i]? =some (DataW.lit (.int .u8 z):DataW H):=by simp[hb]
    rw[hxs] at h2;simp only[qG,qH,j9,Lit.int.injEq,QT] at h2;obtain⟨z',hz',rfl⟩:=h2;simp[h1,hz']
   ·rw[qI (by omega),qI (by simp;omega)]
  ·cases h
theorem tabsB_of_mem {P:Program}{W:World}{laid:List (String×DataW Unit)}{name:String}{g:Nat}{t e:TypeId}(hg:P.globalNamed name=some g)(hty:(P.globals[g]?).map (·.type)=some t)(ht:P.underlying t=some (.array 32 e))(he:P.underlying e=some (.int .u8))(hce:P.cellsOf e=1)(hct:P.cellsOf t=32)
  (hone:(List.range P.globals.size).all (fun i=> !tabBG P i||i==g)=true) (hm:(name,byteData db32)∈laid) (h:laidMet P laid W):∀i,tabBG P i=true->i<W.heap.size/\TabBAt W i:=by
 obtain⟨ps,h,_⟩:=h;obtain⟨g',t',cs,fuel,p,hg',ht',hvar,hd⟩:=LaidVars_at h hm;obtain rfl:=Qz (hg.symm.trans hg');obtain rfl:=Qz (hty.symm.trans ht');have hcs:=cells_of_bytes ht he hce hct hd;intro i hi
 have hlt:i<P.globals.size:=by
  rcases qZ i P.globals.size with h|h
  ·exact h
  ·unfold tabBG at hi;rw[q8 h] at hi;cases hi
 have h1:=qu.1 hone i (Qd.2 hlt);rw[hi] at h1;have:i=g:=by simpa using h1
 subst this
 have hat:TabBAt W i:=fun j s hj=>by
  have:=Jb hg hvar j;rw[this,<-Qw,hcs,qG,hj]
  rfl
 refine⟨?_,hat⟩;have h0:=hat 0 _ (show db32[0]? =some _ from rfl);unfold World.cell? at h0;rcases qZ i W.heap.size with h|h
 ·exact h
 ·simp[q8 h] at h0
end Go.Sk
namespace Go.Proofs
open Tryz
open Go.Sk
section
section
variable {fo:Fo} {ls:Nat->List Int} {E:Int->Bool}
theorem z2v (h:FI fo ls)(p:Int):(z21 fo p).ns=fo.ns/\(z21 fo p).ht=fo.ht/\(z21 fo p).cb.length=fo.cb.length/\(z21 fo p).ly.length=fo.ly.length:=by
 unfold z21;rw[h.vf];simp only[Qp,qw,Qo]
 split
 ·split
  ·split
   ·exact⟨rfl,rfl,qD,rfl⟩
   ·exact⟨rfl,rfl,qD,z5f ..⟩
  ·exact⟨rfl,rfl,rfl,z5f ..⟩
 ·exact⟨rfl,rfl,rfl,rfl⟩
theorem startFR_keeps {p kind id:Int}(he:z28 fo p kind id=0):(z15 fo p kind id).ns=fo.ns/\(z15 fo p kind id).ht=fo.ht/\(z15 fo p kind id).cb.length=fo.cb.length/\(z15 fo p kind id).ly.length=fo.ly.length:=by
 rw[z15,qf he];exact⟨rfl,rfl,qD,z5f ..⟩
end
end
section
open JoQm (gxE axE exE)
open JnNm (oxE)
open D0 (sdE)
theorem leftT_spec (ls : List Int) (m at_ : Nat) : zf prog 22 [.ptr 0 0 0 0] ⟨2, [(0, zw 1 m at_), (1, z19 ls)]⟩
   (fun s H1=>(∃b,s= .bool b)/\H1=⟨2,[(0,zw 1 m at_)]⟩):=by
 refine zf.ofC false 13 [.tmp 2] func22 rfl rfl ntmps22 results22 rfl ?_;intro w0 own0 β0 Q hQ hQn;simp only[z1c];refine Zrs [0] ?_;refine z6 ?_;refine Zrd [2] [0,1,2,3,4,5,6,7,8,9,10] [[],[],[],[],[],[],[],[],[],[],[]] [[],[],[],[],[],[],[],[],[],[],[]] ?_;intro K hK;iterate 11 (refine Zo (Zi [] []) ?_)
 refine zx (Zpr (hK _ _ ?_));clear hK K;refine ze (hQ _ _ ?_);refine zc (H':=⟨2,[(0,zw 1 m at_)]⟩) (.inl rfl) ?_;refine Zou ?_;refine⟨Zs,(Zg id),Zs,?_⟩;exact⟨⟨_,rfl⟩,trivial⟩
noncomputable def plSF (b:Bool)(fo:Fo):SV:= .agg (if b then [.slc true 2 0 0 fo.ns.length,.int .i64 fo.ht,.slc true 3 0 0 fo.ly.length,.slc true 5 0 0 fo.cb.length] else [.slc true 6 0 0 fo.ns.length,.int .i64 fo.ht,.slc true 7 0 0 fo.ly.length,.slc true 9 0 0 fo.cb.length])
noncomputable def plHF (b:Bool)(fo:Fo)(t:Nat×(Nat->Sk.Obj)):AH:=if b then⟨6,[(0,t)]⟩ else⟨10,[(0,t),(6,uQ (.row ⟨true,false,62,3,fo.ns.length,nds fo.ns⟩)),(7,uQ (.row ⟨true,false,89,5,fo.ly.length,lyR 8 fo.ly⟩)),(8,(3*fo.ly.length+1,fam true 3 1 (lyF true fo.ly))),(9,uQ (.row ⟨true,false,58,3,fo.cb.length,cbs fo.cb⟩))]⟩
noncomputable def plGF (mm:Nat)(ls:List Int)(σ:Bool×Fo×(Nat->List Int)×Nat×Nat):AH:=if σ.1 then⟨8,[(0,zw 1 mm σ.2.2.2.1),(6,uQ (.row ⟨true,true,34,4,1,fun _=>[.slc true 2 0 0 σ.2.1.ns.length,.int .i64 σ.2.1.ht,.slc true 3 0 0 σ.2.1.ly.length,.slc true 5 0 0 σ.2.1.cb.length]⟩)),(7,uQ (.row ⟨true,true,34,4,1,fun _=>[.nils,.int .i64 0,.nils,.nils]⟩)),(1,z19 ls),(2,uQ (.row ⟨false,false,62,3,σ.2.1.ns.length,nds σ.2.1.ns⟩)),(3,uQ (.row ⟨false,false,89,5,σ.2.1.ly.length,lyR 4 σ.2.1.ly⟩)),(4,(3*σ.2.1.ly.length+1,fam false 3 1 (lyF false σ.2.1.ly))),(5,uQ (.row ⟨false,false,58,3,σ.2.1.cb.length,cbs σ.2.1.cb⟩))]⟩ else⟨12,[(0,zw 1 mm σ.2.2.2.1),(6,uQ (.row ⟨true,true,34,4,1,fun _=>[.slc true 8 0 0 σ.2.1.ns.length,.int .i64 σ.2.1.ht,.slc true 9 0 0 σ.2.1.ly.length,.slc true 11 0 0 σ.2.1.cb.length]⟩)),(7,uQ (.row ⟨true,true,34,4,1,fun _=>[.nils,.int .i64 0,.nils,.nils]⟩)),(1,z19 ls),(8,uQ (.row ⟨true,false,62,3,σ.2.1.ns.length,nds σ.2.1.ns⟩)),(9,uQ (.row ⟨true,false,89,5,σ.2.1.ly.length,lyR 10 σ.2.1.ly⟩)),(10,(3*σ.2.1.ly.length+1,fam true 3 1 (lyF true σ.2.1.ly))),(11,uQ (.row ⟨true,false,58,3,σ.2.1.cb.length,cbs σ.2.1.cb⟩))]⟩
structure Led (fo fo':Fo) (lv:Nat->List Int):Prop where
 fi:FI fo' lv
 ns:fo'.ns=fo.ns
 ht:fo'.ht=fo.ht
 cb:fo'.cb.length=fo.cb.length
theorem Led.start {fo f:Fo}{lv:Nat->List Int}(h:Led fo f lv){q k v:Int}(he:z28 f q k v=0):Led fo (z15 f q k v) lv:=by
 obtain⟨e1,e2,e3,_⟩:=startFR_keeps he;exact⟨h.fi.start he,e1.trans h.ns,e2.trans h.ht,e3.trans h.cb⟩
theorem Led.step {fo f:Fo}{lv:Nat->List Int}(h:Led fo f lv){q:Int}(he:z3w f q=true):∃lv',Led fo (z21 f q) lv':=by
 obtain⟨e1,e2,e3,_⟩:=z2v h.fi q;obtain⟨lv',g,_⟩:=h.fi.step he (qc _);exact⟨lv',g,e1.trans h.ns,e2.trans h.ht,e3.trans h.cb⟩
theorem playF_spec (ls:List Int)(mm at_:Nat)(hx:ls.length<=9223372036854775807)(hm:mm<=ls.length)(ha:at_<=mm)(fo:Fo)(lv:Nat->List Int)(h:FI fo lv)(n k m:Nat)(hn:fo.ns.length=n)(hk:fo.ly.length=k)(hmc:fo.cb.length=m)(N:Nat)(hN:N<=1000000):
  zf prog 30 [.ptr 0 0 0 0,.agg [.slc true 2 0 0 n,.int .i64 fo.ht,.slc true 3 0 0 k,.slc true 5 0 0 m],.int .i64 N] ⟨6,[(0,zw 1 mm at_),(1,z19 ls),(2,uQ (.row ⟨false,false,62,3,n,nds fo.ns⟩)),(3,uQ (.row ⟨false,false,89,5,k,lyR 4 fo.ly⟩)),(4,(3*k+1,fam false 3 1 (lyF false fo.ly))),(5,uQ (.row ⟨false,false,58,3,m,cbs fo.cb⟩))]⟩
   (fun s H1=> ∃(b:Bool) (f:Fo) (lv':Nat->List Int) (at1:Nat),(at1<=mm/\Led fo f lv'/\(b=true->f=fo))/\s=plSF b f/\H1=plHF b f (zw 1 mm at1)):=by
 subst hn hk hmc;refine zf.ofC false 54 [.cell 6 34] func30 rfl rfl ntmps30 results30 rfl ?_;intro w0 own0 β0 Q hQ hQn;simp only[z1c];refine Zrs [0,2,4,6] ?_;refine z6 ?_;refine Zrs [0,2,4,6,7] ?_;refine zb fun Q0 hN0 hX0 hR0 hE0=> ?_;refine zn (σ:=Bool×Fo×(Nat->List Int)×Nat×Nat) (fun σ=>(σ.2.2.2.1<=mm/\σ.2.2.2.2<=N)/\Led fo σ.2.1 σ.2.2.1/\(σ.1=true->σ.2.1=fo)) (fun σ=>N-σ.2.2.2.2) (fun σ=>[(0,.ptr 0 0 0 0),(2,.int .i64 N),(4,.ptr 6 0 0 0),(6,.ptr 7 0 0 0),(7,.int .i64 σ.2.2.2.2)]) (plGF mm ls) (true,fo,lv,at_,0) ⟨⟨ha,qo _⟩,⟨h,rfl,rfl,rfl⟩,fun _=>rfl⟩ (ρ:=id) (by simp only[plGF,Qi];exact(Zg id)) ?_;rintro⟨b,f,lw,at2,i⟩ hi QL1 hL1 hRL1 hEL1;obtain⟨⟨hi1,hi2⟩,hi3,hi4⟩:=hi;dsimp only at hi1 hi2 hi3 hi4;have h64:=hi3.fi.sh.few;have h8:=hi3.fi.sh.m8;have h1m:=hi3.fi.sh.m1;rcases b with _|_
 all_goals simp only[plGF,qw,Qo,Qi]
 ·skip
  refine z6 ?_;refine sg [0,2,4,6,7,19] rfl ?_;intro K hK
  have hk2:∀B:Bool,(B=true->i<N)->K [(0,.ptr 0 0 0 0),(2,.int .i64 N),(4,.ptr 6 0 0 0),(6,.ptr 7 0 0 0),(7,.int .i64 i),(19,.bool B)] ⟨12,[(0,zw 1 mm at2),(6,uQ (.row ⟨true,true,34,4,1,fun _=>[.slc true 8 0 0 f.ns.length,.int .i64 f.ht,.slc true 9 0 0 f.ly.length,.slc true 11 0 0 f.cb.length]⟩)),(7,uQ (.row ⟨true,true,34,4,1,fun _=>[.nils,.int .i64 0,.nils,.nils]⟩)),(1,z19 ls),(8,uQ (.row ⟨true,false,62,3,f.ns.length,nds f.ns⟩)),(9,uQ (.row ⟨true,false,89,5,f.ly.length,lyR 10 f.ly⟩)),(10,(3*f.ly.length+1,fam true 3 1 (lyF true f.ly))),(11,uQ (.row ⟨true,false,58,3,f.cb.length,cbs f.cb⟩))]⟩:=by
   intro B hB;refine hK _ _ ?_;clear hK K;refine z7 _ rfl ?_ ?_
   ·intro h19;have hin:=hB h19;refine za (z6 (zb fun Q1 hN1 hX1 hR1 hE1=> ?_));refine sg [0,2,4,6,7,8] rfl ?_;intro K hK;iterate 4 (refine Zo Zl ?_)
    refine Zo Zl ?_;refine Zca (z20 ls mm at2 f.cb.length hx hm hi1 (by omega)) (id) ?_;rintro s0 H0 ⟨q,at3,g1,g2,g3,g4,rfl,rfl⟩ s1 H1 hs1 hH1;obtain⟨hs2,hH2⟩:=Zaf hs1 hH1;clear hs1 hH1;subst hs2 hH2;repeat(with_reducible apply qe;exact sdE)
    refine Zo Zl ?_;refine z8 (Zpr (hK _ _ ?_));clear hK K;refine z6 ?_;refine sg [0,2,4,6,7,8,28] rfl ?_;intro K hK;refine Zo Zl ?_;refine Zo Zl ?_;refine Zca (bool_spec ls mm at3 4 hx hm g1 (by omega) (by omega)) (id) ?_;rintro s0 H0 ⟨b4,at4,e1,rfl,rfl⟩ s1 H1 hs1 hH1;obtain⟨hs2,hH2⟩:=Zaf hs1 hH1;clear hs1 hH1;subst hs2 hH2;repeat(with_reducible apply qe;exact sdE)
    refine z8 (Zpr (hK _ _ ?_));clear hK K;refine z7 _ rfl ?_ ?_
    ·intro h28
     refine z6 (z6 ?_);refine Zrt [0,2,4,6,7,9,10] (.op 0 (.op 1 (.op 2 (.op 5 (.op 6 (.op 7 (.two 3 13 (.op 4 (.two 8 13 (.two 9 13 (.op 10 (.op 11 (.op 12 (.op 13 (.op 14 (.op 15 .done)))))) (.op 9 (.op 10 (.op 11 (.op 12 (.op 14 (.op 15 .done))))))) (.op 8 (.op 9 (.op 10 (.op 11 (.op 12 (.op 14 (.op 15 .done))))))))) (.op 3 (.op 4 (.op 8 (.op 9 (.op 10 (.op 11 (.op 12 (.op 14 (.op 15 .done)))))))))))))))) [[],[],[],[0],[],[],[],[],[0],[],[],[],[],[],[],[]] [[0],[0],[],[0],[0],[0],[0],[0],[0],[0],[0],[0],[0],[0],[0],[0]] ?_;intro K hK hG
     have hk6:∀(kind v:Int) (at5:Nat),at5<=mm->K [(0,.ptr 0 0 0 0),(2,.int .i64 N),(4,.ptr 6 0 0 0),(6,.ptr 7 0 0 0),(7,.int .i64 i),(9,.ptr 16 0 0 0),(10,.int .i64 (z28 f q kind v))] ⟨17,[(0,zw 1 mm at5),(16,uQ (.row ⟨true,true,34,4,1,fun _=>[.slc true 12 0 0 (z15 f q kind v).ns.length,.int .i64 (z15 f q kind v).ht,.slc true 13 0 0 (z15 f q kind v).ly.length,.slc true 15 0 0 (z15 f q kind v).cb.length]⟩)),(12,uQ (.row ⟨true,false,62,3,(z15 f q kind v).ns.length,nds (z15 f q kind v).ns⟩)),(13,uQ (.row ⟨true,false,89,5,(z15 f q kind v).ly.length,lyR 14 (z15 f q kind v).ly⟩)),(14,(3*(z15 f q kind v).ly.length+1,fam true 3 1 (lyF true (z15 f q kind v).ly))),(15,uQ (.row ⟨true,false,58,3,(z15 f q kind v).cb.length,cbs (z15 f q kind v).cb⟩)),(6,uQ (.row ⟨true,true,34,4,1,fun _=>[.slc true 8 0 0 f.ns.length,.int .i64 f.ht,.slc true 9 0 0 f.ly.length,.slc true 11 0 0 f.cb.length]⟩)),(7,uQ (.row ⟨true,true,34,4,1,fun _=>[.nils,.int .i64 0,.nils,.nils]⟩)),(1,z19 ls),(8,uQ (.row ⟨true,false,62,3,f.ns.length,nds f.ns⟩)),(9,uQ (.row ⟨true,false,89,5,f.ly.length,lyR 10 f.ly⟩)),(10,(3*f.ly.length+1,fam true 3 1 (lyF true f.ly))),(11,uQ (.row ⟨true,false,58,3,f.cb.length,cbs f.cb⟩))]⟩:=by
      intro kind v at5 hk5;refine hK _ _ ?_;clear hG hK K;refine Zrs [0,2,4,6,7,9,43] ?_;refine z7 _ rfl ?_ ?_
      ·intro h43
       refine Zrg [0,2,4,6,7] ?_;refine zm (hX1 _ _ ?_);refine Zrg [0,2,4,6,7] ?_;refine zd (hL1 _ _ ?_);have hse:z28 f q kind v=0:=by simpa using h43
       rw[show(i:Int)+1=((i+1:Nat):Int) from by omega];refine⟨(false,z15 f q kind v,lw,at5,i+1),⟨⟨⟨hk5,by dsimp only;omega⟩,hi3.start hse,fun h=>by cases h⟩,by dsimp only;omega⟩,fun z=>if z=8 then 12 else if z=9 then 13 else if z=10 then 14 else if z=11 then 15 else z,?_⟩;simp only[plGF,qw,Qo];exact(Zg (fun z=>if z=8 then 12 else if z=9 then 13 else if z=10 then 14 else if z=11 then 15 else z))
      ·intro h43
       refine za (zm (hX1 _ _ ?_));refine Zrg [0,2,4,6,7] ?_;refine zd (hL1 _ _ ?_);rw[show(i:Int)+1=((i+1:Nat):Int) from by omega];refine⟨(false,f,lw,at5,i+1),⟨⟨⟨hk5,by dsimp only;omega⟩,hi3,fun h=>by cases h⟩,by dsimp only;omega⟩,id,?_⟩;simp only[plGF,qw,Qo];exact(Zg id)
     refine Zo (ZT [] [0] []) ?_;refine Zo (ZT [] [0] []) ?_;refine Zo (ZT [] [] []) ?_;refine Zo (ZT [] [0] []) ?_;refine Zo (ZT [] [0] []) ?_;refine Zo (ZT [] [0] []) ?_;refine z26 ?_ ?_
     ·skip
      refine Zo (ZT [0] [0] []) ?_;refine Zca (z20 ls mm at4 2 hx hm e1 (by omega)) (id) ?_;rintro s0 H0 ⟨v,at5,d1,d2,d3,d4,rfl,rfl⟩ s1 H1 hs1 hH1;obtain⟨hs2,hH2⟩:=Zaf hs1 hH1;clear hs1 hH1;subst hs2 hH2;repeat(with_reducible apply qe;exact sdE)
      have d5:=d3 (by omega);refine Zo (ZT [] [0] []) ?_;refine z26 ?_ ?_
      ·skip
       refine Zo (ZT [0] [0] []) ?_;refine Zca (id_spec ls mm at5 hx hm d1 f.ns f.ns.length rfl (by omega)) (fun z=>if z=2 then 8 else z) ?_;rintro s0 H0 ⟨w,at6,c1,rfl,rfl⟩ s1 H1 hs1 hH1;obtain⟨hs2,hH2⟩:=Zaf hs1 hH1;clear hs1 hH1;subst hs2 hH2;repeat(with_reducible apply qe;exact sdE)
       refine z26 ?_ ?_
       ·skip
        refine Zo (ZT [] [0] []) ?_;refine Zc1 (z4a f lw hi3.fi f.ns.length f.ly.length f.cb.length q (1+v) w rfl rfl rfl) (fun z=>z+8) ?_;refine Zo (ZT [] [0] []) ?_;refine Zo (ZT [] [0] []) ?_;refine Zo (ZT [] [0] []) ?_;refine Zo (ZT [] [0] [16]) ?_;refine Zo (ZT [16] [0] [16]) ?_;refine Zo (ZT [16] [0] [16]) ?_;refine z17 ?_;refine Zpr ?_;exact hG _ _ _ _ id (Zg id) (hk6 (1+v) w at6 c1)
       ·skip
        refine Zo (ZT [] [0] [12]) ?_;refine Zo (ZT [12] [0] [12]) ?_;refine Zc1 (z4a f lw hi3.fi f.ns.length f.ly.length f.cb.length q (1+v) w rfl rfl rfl) (fun z=>z+8) ?_;refine Zo (ZT [12] [0] [12]) ?_;refine Zo (ZT [12] [0] [12]) ?_;refine Zo (ZT [12] [0] [12]) ?_;refine Zo (ZT [12] [0] [12]) ?_;refine Zo (ZT [12] [0] [12]) ?_;refine z17 ?_;refine Zpr ?_;exact hG _ _ _ _ (fun z=>if z=12 then 13 else if z=13 then 14 else if z=14 then 15 else if z=15 then 16 else if z=16 then 12 else z) (Zg (fun z=>if z=12 then 13 else if z=13 then 14 else if z=14 then 15 else if z=15 then 16 else if z=16 then 12 else z)) (hk6 (1+v) w at6 c1)
      ·skip
       refine Zo (ZT [] [0] [12]) ?_;refine Zo (ZT [0,12] [0] [12]) ?_;refine Zca (id_spec ls mm at5 hx hm d1 f.ns f.ns.length rfl (by omega)) (fun z=>if z=2 then 8 else z) ?_;rintro s0 H0 ⟨w,at6,c1,rfl,rfl⟩ s1 H1 hs1 hH1;obtain⟨hs2,hH2⟩:=Zaf hs1 hH1;clear hs1 hH1;subst hs2 hH2;repeat(with_reducible apply qe;exact sdE)
       refine Zo (ZT [12] [0] [12]) ?_;refine Zc1 (z4a f lw hi3.fi f.ns.length f.ly.length f.cb.length q (1+v) w rfl rfl rfl) (fun z=>z+8) ?_;refine Zo (ZT [12] [0] [12]) ?_;refine Zo (ZT [12] [0] [12]) ?_;refine Zo (ZT [12] [0] [12]) ?_;refine Zo (ZT [12] [0] [12]) ?_;refine Zo (ZT [12] [0] [12]) ?_;refine z17 ?_;refine Zpr ?_;exact hG _ _ _ _ (fun z=>if z=12 then 13 else if z=13 then 14 else if z=14 then 15 else if z=15 then 16 else if z=16 then 12 else z) (Zg (fun z=>if z=12 then 13 else if z=13 then 14 else if z=14 then 15 else if z=15 then 16 else if z=16 then 12 else z)) (hk6 (1+v) w at6 c1)
     ·skip
      refine Zo (ZT [] [0] [12]) ?_;refine Zo (ZT [0,12] [0] [12]) ?_;refine Zca (z20 ls mm at4 2 hx hm e1 (by omega)) (id) ?_;rintro s0 H0 ⟨v,at5,d1,d2,d3,d4,rfl,rfl⟩ s1 H1 hs1 hH1;obtain⟨hs2,hH2⟩:=Zaf hs1 hH1;clear hs1 hH1;subst hs2 hH2;repeat(with_reducible apply qe;exact sdE)
      have d5:=d3 (by omega);refine Zo (ZT [12] [0] [12]) ?_;refine Zo (ZT [0,12] [0] [12]) ?_;refine Zca (id_spec ls mm at5 hx hm d1 f.ns f.ns.length rfl (by omega)) (fun z=>if z=2 then 8 else z) ?_;rintro s0 H0 ⟨w,at6,c1,rfl,rfl⟩ s1 H1 hs1 hH1;obtain⟨hs2,hH2⟩:=Zaf hs1 hH1;clear hs1 hH1;subst hs2 hH2;repeat(with_reducible apply qe;exact sdE)
      refine Zo (ZT [12] [0] [12]) ?_;refine Zc1 (z4a f lw hi3.fi f.ns.length f.ly.length f.cb.length q (1+v) w rfl rfl rfl) (fun z=>z+8) ?_;refine Zo (ZT [12] [0] [12]) ?_;refine Zo (ZT [12] [0] [12]) ?_;refine Zo (ZT [12] [0] [12]) ?_;refine Zo (ZT [12] [0] [12]) ?_;refine Zo (ZT [12] [0] [12]) ?_;refine z17 ?_;refine Zpr ?_;exact hG _ _ _ _ (fun z=>if z=12 then 13 else if z=13 then 14 else if z=14 then 15 else if z=15 then 16 else if z=16 then 12 else z) (Zg (fun z=>if z=12 then 13 else if z=13 then 14 else if z=14 then 15 else if z=15 then 16 else if z=16 then 12 else z)) (hk6 (1+v) w at6 c1)
    ·intro h28
     refine za ?_;refine sg [0,2,4,6,7,11,12] rfl ?_;intro K hK;iterate 2 (refine Zo Zl ?_)
     refine Zo Zl ?_;refine Zc1 (Step_spec f lw hi3.fi f.ns.length f.ly.length f.cb.length q rfl rfl rfl) (fun z=>z+8) ?_;iterate 6 (refine Zo Zl ?_)
     refine z8 (Zpr (hK _ _ ?_));clear hK K;refine Zrs [0,2,4,6,7,11,51] ?_;refine z7 _ rfl ?_ ?_
     ·intro h51
      refine Zrg [0,2,4,6,7] ?_;refine zd (hN1 _ _ ?_);refine Zrg [0,2,4,6,7] ?_;refine zd (hL1 _ _ ?_);obtain⟨lw',hl⟩:=hi3.step h51;obtain⟨k1,k2,k3,k4⟩:=z2v hi3.fi q;rw[show(i:Int)+1=((i+1:Nat):Int) from by omega];refine⟨(false,z21 f q,lw',at4,i+1),⟨⟨⟨e1,by dsimp only;omega⟩,hl,fun h=>by cases h⟩,by dsimp only;omega⟩,fun z=>if z=8 then 12 else if z=9 then 13 else if z=10 then 14 else if z=11 then 15 else z,?_⟩;simp only[plGF,qw,Qo];rw[k1,k2,k3,k4];exact(Zg (fun z=>if z=8 then 12 else if z=9 then 13 else if z=10 then 14 else if z=11 then 15 else z))
     ·intro h51
      refine za (zd (hN1 _ _ ?_));refine Zrg [0,2,4,6,7] ?_;refine zd (hL1 _ _ ?_);rw[show(i:Int)+1=((i+1:Nat):Int) from by omega];refine⟨(false,f,lw,at4,i+1),⟨⟨⟨e1,by dsimp only;omega⟩,hi3,fun h=>by cases h⟩,by dsimp only;omega⟩,id,?_⟩;simp only[plGF,qw,Qo];exact(Zg id)
   ·intro h19
    refine zm (hEL1 _ _ _ (hX0 _ _ ?_));refine Zrs [6] ?_;refine ze (hQ _ _ ?_);refine zu (fun z=>if z=6 then 8 else if z=7 then 9 else if z=8 then 10 else if z=9 then 11 else z) (.agg [.slc true 6 0 0 f.ns.length,.int .i64 f.ht,.slc true 7 0 0 f.ly.length,.slc true 9 0 0 f.cb.length]) (⟨10,[(0,zw 1 mm at2),(6,uQ (.row ⟨true,false,62,3,f.ns.length,nds f.ns⟩)),(7,uQ (.row ⟨true,false,89,5,f.ly.length,lyR 8 f.ly⟩)),(8,(3*f.ly.length+1,fam true 3 1 (lyF true f.ly))),(9,uQ (.row ⟨true,false,58,3,f.cb.length,cbs f.cb⟩))]⟩) (.inl rfl) ?_;refine Zou ?_;refine⟨Zs,Zs,(Zg (fun z=>if z=6 then 8 else if z=7 then 9 else if z=8 then 10 else if z=9 then 11 else z)),Zs,?_⟩;exact⟨false,f,lw,at2,⟨hi1,hi3,fun h=>by cases h⟩,rfl,rfl⟩
  iterate 5 (refine Zo Zl ?_)
  refine z11 ?_;refine z1w rfl rfl ?_;refine Zgr ?_
  first|refine z1r ?_ ?_|refine(fun(h1:false=true->_) (h2:false=false->_)=>qe h1 fun _=>h2 rfl) ?_ ?_|refine qe ?_ ?_
  ·intro hg5
   first
    |(simp at hg5;done)
    |skip
     try replace hg5:=Znb hg5
     refine Zo id ?_;refine Zca (leftT_spec ls mm at2) (id) ?_;rintro s0 H0 ⟨⟨bb,rfl⟩,rfl⟩ s1 H1 hs1 hH1;obtain⟨hs2,hH2⟩:=Zaf hs1 hH1;clear hs1 hH1;subst hs2 hH2;repeat(with_reducible apply qe;exact sdE)
     refine Zo Zl ?_;refine z8 ?_;refine Zpr ?_;refine hk2 _ ?_;intro hb;simp at hb<;>omega
  ·intro hg5;refine⟨.bool false,?_⟩
   first
    |(simp at hg5;done)
    |skip
     try replace hg5:=Znb hg5
     refine Zo Zl ?_;refine z8 ?_;refine Zpr ?_;refine hk2 _ ?_;intro hb;simp at hb hg5<;>omega
 ·skip
  refine z6 ?_;refine sg [0,2,4,6,7,19] rfl ?_;intro K hK
  have hk2:∀B:Bool,(B=true->i<N)->K [(0,.ptr 0 0 0 0),(2,.int .i64 N),(4,.ptr 6 0 0 0),(6,.ptr 7 0 0 0),(7,.int .i64 i),(19,.bool B)] ⟨8,[(0,zw 1 mm at2),(6,uQ (.row ⟨true,true,34,4,1,fun _=>[.slc true 2 0 0 f.ns.length,.int .i64 f.ht,.slc true 3 0 0 f.ly.length,.slc true 5 0 0 f.cb.length]⟩)),(7,uQ (.row ⟨true,true,34,4,1,fun _=>[.nils,.int .i64 0,.nils,.nils]⟩)),(1,z19 ls),(2,uQ (.row ⟨false,false,62,3,f.ns.length,nds f.ns⟩)),(3,uQ (.row ⟨false,false,89,5,f.ly.length,lyR 4 f.ly⟩)),(4,(3*f.ly.length+1,fam false 3 1 (lyF false f.ly))),(5,uQ (.row ⟨false,false,58,3,f.cb.length,cbs f.cb⟩))]⟩:=by
   intro B hB;refine hK _ _ ?_;clear hK K;refine z7 _ rfl ?_ ?_
   ·intro h19;have hin:=hB h19;refine za (z6 (zb fun Q1 hN1 hX1 hR1 hE1=> ?_));refine sg [0,2,4,6,7,8] rfl ?_;intro K hK;iterate 4 (refine Zo Zl ?_)
    refine Zo Zl ?_;refine Zca (z20 ls mm at2 f.cb.length hx hm hi1 (by omega)) (id) ?_;rintro s0 H0 ⟨q,at3,g1,g2,g3,g4,rfl,rfl⟩ s1 H1 hs1 hH1;obtain⟨hs2,hH2⟩:=Zaf hs1 hH1;clear hs1 hH1;subst hs2 hH2;repeat(with_reducible apply qe;exact sdE)
    refine Zo Zl ?_;refine z8 (Zpr (hK _ _ ?_));clear hK K;refine z6 ?_;refine sg [0,2,4,6,7,8,28] rfl ?_;intro K hK;refine Zo Zl ?_;refine Zo Zl ?_;refine Zca (bool_spec ls mm at3 4 hx hm g1 (by omega) (by omega)) (id) ?_;rintro s0 H0 ⟨b4,at4,e1,rfl,rfl⟩ s1 H1 hs1 hH1;obtain⟨hs2,hH2⟩:=Zaf hs1 hH1;clear hs1 hH1;subst hs2 hH2;repeat(with_reducible apply qe;exact sdE)
    refine z8 (Zpr (hK _ _ ?_));clear hK K;refine z7 _ rfl ?_ ?_
    ·intro h28
     refine z6 (z6 ?_);refine Zrt [0,2,4,6,7,9,10] (.op 0 (.op 1 (.op 2 (.op 5 (.op 6 (.op 7 (.two 3 13 (.op 4 (.two 8 13 (.two 9 13 (.op 10 (.op 11 (.op 12 (.op 13 (.op 14 (.op 15 .done)))))) (.op 9 (.op 10 (.op 11 (.op 12 (.op 14 (.op 15 .done))))))) (.op 8 (.op 9 (.op 10 (.op 11 (.op 12 (.op 14 (.op 15 .done))))))))) (.op 3 (.op 4 (.op 8 (.op 9 (.op 10 (.op 11 (.op 12 (.op 14 (.op 15 .done)))))))))))))))) [[],[],[],[0],[],[],[],[],[0],[],[],[],[],[],[],[]] [[0],[0],[],[0],[0],[0],[0],[0],[0],[0],[0],[0],[0],[0],[0],[0]] ?_;intro K hK hG
     have hk6:∀(kind v:Int) (at5:Nat),at5<=mm->K [(0,.ptr 0 0 0 0),(2,.int .i64 N),(4,.ptr 6 0 0 0),(6,.ptr 7 0 0 0),(7,.int .i64 i),(9,.ptr 12 0 0 0),(10,.int .i64 (z28 f q kind v))] ⟨13,[(0,zw 1 mm at5),(12,uQ (.row ⟨true,true,34,4,1,fun _=>[.slc true 8 0 0 (z15 f q kind v).ns.length,.int .i64 (z15 f q kind v).ht,.slc true 9 0 0 (z15 f q kind v).ly.length,.slc true 11 0 0 (z15 f q kind v).cb.length]⟩)),(8,uQ (.row ⟨true,false,62,3,(z15 f q kind v).ns.length,nds (z15 f q kind v).ns⟩)),(9,uQ (.row ⟨true,false,89,5,(z15 f q kind v).ly.length,lyR 10 (z15 f q kind v).ly⟩)),(10,(3*(z15 f q kind v).ly.length+1,fam true 3 1 (lyF true (z15 f q kind v).ly))),(11,uQ (.row ⟨true,false,58,3,(z15 f q kind v).cb.length,cbs (z15 f q kind v).cb⟩)),(6,uQ (.row ⟨true,true,34,4,1,fun _=>[.slc true 2 0 0 f.ns.length,.int .i64 f.ht,.slc true 3 0 0 f.ly.length,.slc true 5 0 0 f.cb.length]⟩)),(7,uQ (.row ⟨true,true,34,4,1,fun _=>[.nils,.int .i64 0,.nils,.nils]⟩)),(1,z19 ls),(2,uQ (.row ⟨false,false,62,3,f.ns.length,nds f.ns⟩)),(3,uQ (.row ⟨false,false,89,5,f.ly.length,lyR 4 f.ly⟩)),(4,(3*f.ly.length+1,fam false 3 1 (lyF false f.ly))),(5,uQ (.row ⟨false,false,58,3,f.cb.length,cbs f.cb⟩))]⟩:=by
      intro kind v at5 hk5;refine hK _ _ ?_;clear hG hK K;refine Zrs [0,2,4,6,7,9,43] ?_;refine z7 _ rfl ?_ ?_
      ·intro h43
       refine Zrg [0,2,4,6,7] ?_;refine zm (hX1 _ _ ?_);refine Zrg [0,2,4,6,7] ?_;refine zd (hL1 _ _ ?_);have hse:z28 f q kind v=0:=by simpa using h43
       rw[show(i:Int)+1=((i+1:Nat):Int) from by omega];refine⟨(false,z15 f q kind v,lw,at5,i+1),⟨⟨⟨hk5,by dsimp only;omega⟩,hi3.start hse,fun h=>by cases h⟩,by dsimp only;omega⟩,id,?_⟩;simp only[plGF,qw,Qo];exact(Zg id)
      ·intro h43
       refine za (zm (hX1 _ _ ?_));refine Zrg [0,2,4,6,7] ?_;refine zd (hL1 _ _ ?_);rw[show(i:Int)+1=((i+1:Nat):Int) from by omega];refine⟨(true,f,lw,at5,i+1),⟨⟨⟨hk5,by dsimp only;omega⟩,hi3,hi4⟩,by dsimp only;omega⟩,id,?_⟩;simp only[plGF,Qi];exact(Zg id)
     refine Zo (ZT [] [0] []) ?_;refine Zo (ZT [] [0] []) ?_;refine Zo (ZT [] [] []) ?_;refine Zo (ZT [] [0] []) ?_;refine Zo (ZT [] [0] []) ?_;refine Zo (ZT [] [0] []) ?_;refine z26 ?_ ?_
     ·skip
      refine Zo (ZT [0] [0] []) ?_;refine Zca (z20 ls mm at4 2 hx hm e1 (by omega)) (id) ?_;rintro s0 H0 ⟨v,at5,d1,d2,d3,d4,rfl,rfl⟩ s1 H1 hs1 hH1;obtain⟨hs2,hH2⟩:=Zaf hs1 hH1;clear hs1 hH1;subst hs2 hH2;repeat(with_reducible apply qe;exact sdE)
      have d5:=d3 (by omega);refine Zo (ZT [] [0] []) ?_;refine z26 ?_ ?_
      ·skip
       refine Zo (ZT [0] [0] []) ?_;refine Zca (id_spec ls mm at5 hx hm d1 f.ns f.ns.length rfl (by omega)) (fun z=>if z=2 then 2 else z) ?_;rintro s0 H0 ⟨w,at6,c1,rfl,rfl⟩ s1 H1 hs1 hH1;obtain⟨hs2,hH2⟩:=Zaf hs1 hH1;clear hs1 hH1;subst hs2 hH2;repeat(with_reducible apply qe;exact sdE)
       refine z26 ?_ ?_
       ·skip
        refine Zo (ZT [] [0] []) ?_;refine Zc1 (z4a f lw hi3.fi f.ns.length f.ly.length f.cb.length q (1+v) w rfl rfl rfl) (fun z=>z+2) ?_;refine Zo (ZT [] [0] []) ?_;refine Zo (ZT [] [0] []) ?_;refine Zo (ZT [] [0] []) ?_;refine Zo (ZT [] [0] [12]) ?_;refine Zo (ZT [12] [0] [12]) ?_;refine Zo (ZT [12] [0] [12]) ?_;refine z17 ?_;refine Zpr ?_;exact hG _ _ _ _ id (Zg id) (hk6 (1+v) w at6 c1)
       ·skip
        refine Zo (ZT [] [0] [8]) ?_;refine Zo (ZT [8] [0] [8]) ?_;refine Zc1 (z4a f lw hi3.fi f.ns.length f.ly.length f.cb.length q (1+v) w rfl rfl rfl) (fun z=>z+2) ?_;refine Zo (ZT [8] [0] [8]) ?_;refine Zo (ZT [8] [0] [8]) ?_;refine Zo (ZT [8] [0] [8]) ?_;refine Zo (ZT [8] [0] [8]) ?_;refine Zo (ZT [8] [0] [8]) ?_;refine z17 ?_;refine Zpr ?_;exact hG _ _ _ _ (fun z=>if z=8 then 9 else if z=9 then 10 else if z=10 then 11 else if z=11 then 12 else if z=12 then 8 else z) (Zg (fun z=>if z=8 then 9 else if z=9 then 10 else if z=10 then 11 else if z=11 then 12 else if z=12 then 8 else z)) (hk6 (1+v) w at6 c1)
      ·skip
       refine Zo (ZT [] [0] [8]) ?_;refine Zo (ZT [0,8] [0] [8]) ?_;refine Zca (id_spec ls mm at5 hx hm d1 f.ns f.ns.length rfl (by omega)) (fun z=>if z=2 then 2 else z) ?_;rintro s0 H0 ⟨w,at6,c1,rfl,rfl⟩ s1 H1 hs1 hH1;obtain⟨hs2,hH2⟩:=Zaf hs1 hH1;clear hs1 hH1;subst hs2 hH2;repeat(with_reducible apply qe;exact sdE)
       refine Zo (ZT [8] [0] [8]) ?_;refine Zc1 (z4a f lw hi3.fi f.ns.length f.ly.length f.cb.length q (1+v) w rfl rfl rfl) (fun z=>z+2) ?_;refine Zo (ZT [8] [0] [8]) ?_;refine Zo (ZT [8] [0] [8]) ?_;refine Zo (ZT [8] [0] [8]) ?_;refine Zo (ZT [8] [0] [8]) ?_;refine Zo (ZT [8] [0] [8]) ?_;refine z17 ?_;refine Zpr ?_;exact hG _ _ _ _ (fun z=>if z=8 then 9 else if z=9 then 10 else if z=10 then 11 else if z=11 then 12 else if z=12 then 8 else z) (Zg (fun z=>if z=8 then 9 else if z=9 then 10 else if z=10 then 11 else if z=11 then 12 else if z=12 then 8 else z)) (hk6 (1+v) w at6 c1)
     ·skip
      refine Zo (ZT [] [0] [8]) ?_;refine Zo (ZT [0,8] [0] [8]) ?_;refine Zca (z20 ls mm at4 2 hx hm e1 (by omega)) (id) ?_;rintro s0 H0 ⟨v,at5,d1,d2,d3,d4,rfl,rfl⟩ s1 H1 hs1 hH1;obtain⟨hs2,hH2⟩:=Zaf hs1 hH1;clear hs1 hH1;subst hs2 hH2;repeat(with_reducible apply qe;exact sdE)
      have d5:=d3 (by omega);refine Zo (ZT [8] [0] [8]) ?_;refine Zo (ZT [0,8] [0] [8]) ?_;refine Zca (id_spec ls mm at5 hx hm d1 f.ns f.ns.length rfl (by omega)) (fun z=>if z=2 then 2 else z) ?_;rintro s0 H0 ⟨w,at6,c1,rfl,rfl⟩ s1 H1 hs1 hH1;obtain⟨hs2,hH2⟩:=Zaf hs1 hH1;clear hs1 hH1;subst hs2 hH2;repeat(with_reducible apply qe;exact sdE)
      refine Zo (ZT [8] [0] [8]) ?_;refine Zc1 (z4a f lw hi3.fi f.ns.length f.ly.length f.cb.length q (1+v) w rfl rfl rfl) (fun z=>z+2) ?_;refine Zo (ZT [8] [0] [8]) ?_;refine Zo (ZT [8] [0] [8]) ?_;refine Zo (ZT [8] [0] [8]) ?_;refine Zo (ZT [8] [0] [8]) ?_;refine Zo (ZT [8] [0] [8]) ?_;refine z17 ?_;refine Zpr ?_;exact hG _ _ _ _ (fun z=>if z=8 then 9 else if z=9 then 10 else if z=10 then 11 else if z=11 then 12 else if z=12 then 8 else z) (Zg (fun z=>if z=8 then 9 else if z=9 then 10 else if z=10 then 11 else if z=11 then 12 else if z=12 then 8 else z)) (hk6 (1+v) w at6 c1)
    ·intro h28
     refine za ?_;refine sg [0,2,4,6,7,11,12] rfl ?_;intro K hK;iterate 2 (refine Zo Zl ?_)
     refine Zo Zl ?_;refine Zc1 (Step_spec f lw hi3.fi f.ns.length f.ly.length f.cb.length q rfl rfl rfl) (fun z=>z+2) ?_;iterate 6 (refine Zo Zl ?_)
     refine z8 (Zpr (hK _ _ ?_));clear hK K;refine Zrs [0,2,4,6,7,11,51] ?_;refine z7 _ rfl ?_ ?_
     ·intro h51
      refine Zrg [0,2,4,6,7] ?_;refine zd (hN1 _ _ ?_);refine Zrg [0,2,4,6,7] ?_;refine zd (hL1 _ _ ?_);obtain⟨lw',hl⟩:=hi3.step h51;obtain⟨k1,k2,k3,k4⟩:=z2v hi3.fi q;rw[show(i:Int)+1=((i+1:Nat):Int) from by omega];refine⟨(false,z21 f q,lw',at4,i+1),⟨⟨⟨e1,by dsimp only;omega⟩,hl,fun h=>by cases h⟩,by dsimp only;omega⟩,id,?_⟩;simp only[plGF,qw,Qo];rw[k1,k2,k3,k4];exact(Zg id)
     ·intro h51
      refine za (zd (hN1 _ _ ?_));refine Zrg [0,2,4,6,7] ?_;refine zd (hL1 _ _ ?_);rw[show(i:Int)+1=((i+1:Nat):Int) from by omega];refine⟨(true,f,lw,at4,i+1),⟨⟨⟨e1,by dsimp only;omega⟩,hi3,hi4⟩,by dsimp only;omega⟩,id,?_⟩;simp only[plGF,Qi];exact(Zg id)
   ·intro h19
    refine zm (hEL1 _ _ _ (hX0 _ _ ?_));refine Zrs [6] ?_;refine ze (hQ _ _ ?_);refine zu (id) (.agg [.slc true 2 0 0 f.ns.length,.int .i64 f.ht,.slc true 3 0 0 f.ly.length,.slc true 5 0 0 f.cb.length]) (⟨6,[(0,zw 1 mm at2)]⟩) (.inl rfl) ?_;refine Zou ?_;refine⟨Zs,Zs,(Zg (id)),Zs,?_⟩;exact⟨true,f,lw,at2,⟨hi1,hi3,hi4⟩,rfl,rfl⟩
  iterate 5 (refine Zo Zl ?_)
  refine z11 ?_;refine z1w rfl rfl ?_;refine Zgr ?_
  first|refine z1r ?_ ?_|refine(fun(h1:false=true->_) (h2:false=false->_)=>qe h1 fun _=>h2 rfl) ?_ ?_|refine qe ?_ ?_
  ·intro hg5
   first
    |(simp at hg5;done)
    |skip
     try replace hg5:=Znb hg5
     refine Zo id ?_;refine Zca (leftT_spec ls mm at2) (id) ?_;rintro s0 H0 ⟨⟨bb,rfl⟩,rfl⟩ s1 H1 hs1 hH1;obtain⟨hs2,hH2⟩:=Zaf hs1 hH1;clear hs1 hH1;subst hs2 hH2;repeat(with_reducible apply qe;exact sdE)
     refine Zo Zl ?_;refine z8 ?_;refine Zpr ?_;refine hk2 _ ?_;intro hb;simp at hb<;>omega
  ·intro hg5;refine⟨.bool false,?_⟩
   first
    |(simp at hg5;done)
    |skip
     try replace hg5:=Znb hg5
     refine Zo Zl ?_;refine z8 ?_;refine Zpr ?_;refine hk2 _ ?_;intro hb;simp at hb hg5<;>omega
end
section
theorem newF_lens (ns:List Nd)(dn:List Int)(m:Nat)(ht:Int):(z3x ns dn m ht).ns=ns/\(z3x ns dn m ht).ht=ht/\(z3x ns dn m ht).cb=List.replicate m noCb/\(z3x ns dn m ht).cb.length=m:=⟨rfl,rfl,rfl,Qr⟩
theorem FI.nested {fo:Fo}{ls:Nat->List Int}(h:FI fo ls){lv:Int}(l1:1<=lv)(lh:lv<=fo.ht){v:Int}(hv:v∈z1n fo lv):hasI (z1n fo (lv-1)) v=true:=by
 obtain⟨_,x,hx,e,hm⟩:=presF_mem.1 hv;subst e;rw[hasI_con,jV,presF_mem];exact⟨⟨by omega,by omega⟩,x,hx,rfl,h.nest hx l1 lh hm⟩
open JoQm (gxE axE exE)
open JnNm (oxE)
open D0 (sdE)
theorem keepsF_spec (ls:List Int)(hx:ls.length<=9223372036854775807):
  zf prog 6 [.slc false 0 0 0 ls.length] ⟨1,[(0,z19 ls)]⟩ (fun s _=>s= .bool true):=by
 refine zf.ofC false 66 [.tmp 2] func6 rfl rfl ntmps6 results6 rfl ?_;intro w0 own0 β0 Q hQ hQn;simp only[z1c];refine Zrs [0] ?_;refine sg [3] rfl ?_;intro K hK;refine Zo Zl ?_;refine Zo Zl ?_;refine Zca (new_spec ls hx) (id) ?_;rintro s0 H0 ⟨mm,hm,rfl,rfl⟩ s1 H1 hs1 hH1;obtain⟨hs2,hH2⟩:=Zaf hs1 hH1;clear hs1 hH1;subst hs2 hH2;repeat(with_reducible apply qe;exact sdE)
 refine Zo Zl ?_;refine z8 (Zpr (hK _ _ ?_));clear hK K;refine sg [3,4,5] rfl ?_;intro K hK;refine Zo Zl ?_;refine Zo Zl ?_;refine Zca (made_spec ls mm 0 hx hm (qo _)) (fun q=>if q=0 then 1 else 0) ?_;rintro s0 H0 ⟨ns,dn,m,ht,at1,⟨hmk,ha1⟩,rfl,rfl⟩ s1 H1 hs1 hH1;obtain⟨hs2,hH2⟩:=Zaf hs1 hH1;clear hs1 hH1;subst hs2 hH2;repeat(with_reducible apply qe;exact sdE)
 have hF0:=FI_new hmk dn;obtain⟨n1,n2,n3,n4⟩:=newF_lens ns dn m ht;obtain⟨fo,hfo⟩:∃fo,z3x ns dn m ht=fo:=⟨_,rfl⟩;obtain⟨lv0,hlv⟩:∃lv0:Nat->List Int,(fun i=>ordN (keyL (shA (z36 ns ht.toNat) i).2) (innL dn (shA (z36 ns ht.toNat) i).2) (shA (z36 ns ht.toNat) i).2.length)=lv0:=⟨_,rfl⟩;rw[hlv] at hF0;rw[hfo] at hF0 n1 n2 n3 n4 ⊢;rw[<-n3,<-n4,<-n2,<-n1];iterate 6 (refine Zo Zl ?_)
 refine z8 (Zpr (hK _ _ ?_));clear hK K;refine z6 ?_;refine sg [3,4,24] rfl ?_;intro K hK;iterate 4 (refine Zo Zl ?_)
 refine z11 ?_;refine z1w rfl rfl ?_;refine Zgr ?_;refine⟨fun _=> ?_,fun h=>(by cases h)⟩;refine Zo id ?_;refine Zc1 (Check_spec fo lv0 hF0 fo.ns.length fo.ly.length fo.cb.length rfl rfl rfl) (fun q=>q+2) ?_;iterate 2 (refine Zo Zl ?_)
 refine z8 (Zpr (hK _ _ ?_));clear hK K;refine z7 _ rfl ?_ ?_
 ·intro h24
  exfalso;cases h24
 ·intro h24
  refine za (z6 ?_);refine Zrs [3,4,6] ?_;refine zb fun Q0 hN0 hX0 hR0 hE0=> ?_;refine zn (σ:=Fo×(Nat->List Int)×Nat×Nat) (fun σ=>FI σ.1 σ.2.1/\σ.2.2.1<=mm/\σ.2.2.2<=60) (fun σ=>60-σ.2.2.2) (fun σ=>[(3,.ptr 1 0 0 0),(4,.ptr 6 0 0 0),(6,.int .i64 σ.2.2.2)]) (fun σ=>⟨7,[(1,zw 0 mm σ.2.2.1),(6,uQ (.row ⟨true,true,34,4,1,fun _=>[.slc true 2 0 0 σ.1.ns.length,.int .i64 σ.1.ht,.slc true 3 0 0 σ.1.ly.length,.slc true 5 0 0 σ.1.cb.length]⟩)),(2,uQ (.row ⟨false,false,62,3,σ.1.ns.length,nds σ.1.ns⟩)),(3,uQ (.row ⟨false,false,89,5,σ.1.ly.length,lyR 4 σ.1.ly⟩)),(4,(3*σ.1.ly.length+1,fam false 3 1 (lyF false σ.1.ly))),(5,uQ (.row ⟨false,false,58,3,σ.1.cb.length,cbs σ.1.cb⟩)),(0,z19 ls)]⟩) (fo,lv0,at1,0) ⟨hF0,ha1,qo _⟩ (ρ:=id) (Zg id) ?_;rintro⟨f,lw,at2,i⟩ hi QL1 hL1 hRL1 hEL1;obtain⟨hI,hi3,hi4⟩:=hi;dsimp only at hI hi3 hi4;have h64:=hI.sh.few;have hpl:=presF_len f;refine z6 ?_;refine sg [3,4,6,30] rfl ?_;intro K hK
  have hk6:∀B:Bool,(B=true->i<60)->K [(3,.ptr 1 0 0 0),(4,.ptr 6 0 0 0),(6,.int .i64 i),(30,.bool B)] ⟨7,[(1,zw 0 mm at2),(6,uQ (.row ⟨true,true,34,4,1,fun _=>[.slc true 2 0 0 f.ns.length,.int .i64 f.ht,.slc true 3 0 0 f.ly.length,.slc true 5 0 0 f.cb.length]⟩)),(2,uQ (.row ⟨false,false,62,3,f.ns.length,nds f.ns⟩)),(3,uQ (.row ⟨false,false,89,5,f.ly.length,lyR 4 f.ly⟩)),(4,(3*f.ly.length+1,fam false 3 1 (lyF false f.ly))),(5,uQ (.row ⟨false,false,58,3,f.cb.length,cbs f.cb⟩)),(0,z19 ls)]⟩:=by
   intro B hB;refine hK _ _ ?_;clear hK K;refine z7 _ rfl ?_ ?_
   ·intro h30;have hi60:=hB h30;refine za (z6 (zb fun Q1 hN1 hX1 hR1 hE1=> ?_));refine z6 ?_;refine Cs.regG [3,4,6] rfl ?_;intro K hK hG
    have hk8:∀(g:Fo) (lu:Nat->List Int) (at3:Nat),FI g lu/\at3<=mm->K [(3,.ptr 1 0 0 0),(4,.ptr 6 0 0 0),(6,.int .i64 i)] ⟨7,[(1,zw 0 mm at3),(6,uQ (.row ⟨true,true,34,4,1,fun _=>[.slc true 2 0 0 g.ns.length,.int .i64 g.ht,.slc true 3 0 0 g.ly.length,.slc true 5 0 0 g.cb.length]⟩)),(2,uQ (.row ⟨false,false,62,3,g.ns.length,nds g.ns⟩)),(3,uQ (.row ⟨false,false,89,5,g.ly.length,lyR 4 g.ly⟩)),(4,(3*g.ly.length+1,fam false 3 1 (lyF false g.ly))),(5,uQ (.row ⟨false,false,58,3,g.cb.length,cbs g.cb⟩)),(0,z19 ls)]⟩:=by
     intro g lu at3 hg;obtain⟨hJ,hj3⟩:=hg;have h64:=hJ.sh.few;have hpl:=presF_len g;have hg0:=hJ.sh.h0;have hg16:=hJ.sh.h16;refine hK _ _ ?_;clear hG hK K;refine z6 ?_;refine sg [3,4,6,38] rfl ?_;intro K hK;refine Zo Zl ?_;refine Zo Zl ?_;refine Zc1 (Check_spec g lu hJ g.ns.length g.ly.length g.cb.length rfl rfl rfl) (fun q=>q+2) ?_;refine Zo Zl ?_;refine z8 (Zpr (hK _ _ ?_));clear hK K;refine z7 _ rfl ?_ ?_
     ·intro h38
      exfalso;cases h38
     ·intro h38
      refine za ?_;refine Zrs [3,4,6,7] ?_;refine zb fun Q2 hN2 hX2 hR2 hE2=> ?_;refine zn (σ:=Nat) (fun h=>1<=h/\(h:Int)<=g.ht+1) (fun h=>18-h) (fun h=>[(3,.ptr 1 0 0 0),(4,.ptr 6 0 0 0),(6,.int .i64 i),(7,.int .i64 h)]) (fun _=>⟨7,[(1,zw 0 mm at3),(6,uQ (.row ⟨true,true,34,4,1,fun _=>[.slc true 2 0 0 g.ns.length,.int .i64 g.ht,.slc true 3 0 0 g.ly.length,.slc true 5 0 0 g.cb.length]⟩)),(2,uQ (.row ⟨false,false,62,3,g.ns.length,nds g.ns⟩)),(3,uQ (.row ⟨false,false,89,5,g.ly.length,lyR 4 g.ly⟩)),(4,(3*g.ly.length+1,fam false 3 1 (lyF false g.ly))),(5,uQ (.row ⟨false,false,58,3,g.cb.length,cbs g.cb⟩)),(0,z19 ls)]⟩) 1 ⟨qc _,by omega⟩ (ρ:=id) (Zg id) ?_;rintro h hh QL2 hL2 hRL2 hEL2;refine z6 ?_;refine Zrs [3,4,6,7,42] ?_;refine z7 _ rfl ?_ ?_
      ·intro h42;replace h42:=Znb h42;obtain⟨hh1,hh2⟩:=hh;refine za (z6 (zb fun Q3 hN3 hX3 hR3 hE3=> ?_));refine z6 ?_;refine Zrd [3,4,6,7,8,9] [0,1,2,4,5,3,6,7,8] [[],[],[],[],[],[],[],[],[]] [[],[],[],[],[],[],[],[],[]] ?_;intro K hK;iterate 5 (refine Zo (Zi [] []) ?_)
       refine Zo (Zi [] []) ?_;refine Zc1 (z4x g lu hJ g.ns.length g.ly.length g.cb.length (h-1) rfl rfl rfl) (fun q=>q+2) ?_;refine Zo (Zi [] []) ?_;refine Zc1 (z4x g lu hJ g.ns.length g.ly.length g.cb.length h rfl rfl rfl) (fun q=>q+2) ?_;iterate 2 (refine Zo (Zi [] []) ?_)
       refine zx (Zpr (hK _ _ ?_));clear hK K;refine Zrs [3,4,6,7,8,9,10] ?_;refine zb fun Q4 hN4 hX4 hR4 hE4=> ?_;refine zn (σ:=Nat) (fun j=>j<=(z1n g h).length) (fun j=>(z1n g h).length-j) (fun j=>[(3,.ptr 1 0 0 0),(4,.ptr 6 0 0 0),(6,.int .i64 i),(7,.int .i64 h),(8,.slc true 7 0 0 (z1n g (h-1)).length),(9,.slc true 8 0 0 (z1n g h).length),(10,.int .i64 j)]) (fun _=>⟨9,[(8,uQ (.row ⟨true,false,3,1,(z1n g h).length,ints (z1n g h)⟩)),(7,uQ (.row ⟨true,false,3,1,(z1n g (h-1)).length,ints (z1n g (h-1))⟩)),(1,zw 0 mm at3),(6,uQ (.row ⟨true,true,34,4,1,fun _=>[.slc true 2 0 0 g.ns.length,.int .i64 g.ht,.slc true 3 0 0 g.ly.length,.slc true 5 0 0 g.cb.length]⟩)),(2,uQ (.row ⟨false,false,62,3,g.ns.length,nds g.ns⟩)),(3,uQ (.row ⟨false,false,89,5,g.ly.length,lyR 4 g.ly⟩)),(4,(3*g.ly.length+1,fam false 3 1 (lyF false g.ly))),(5,uQ (.row ⟨false,false,58,3,g.cb.length,cbs g.cb⟩)),(0,z19 ls)]⟩) 0 (qo _) (ρ:=id) (Zg id) ?_;rintro j hj QL3 hL3 hRL3 hEL3;refine z6 ?_;refine Zrs [3,4,6,7,8,9,10,55] ?_;refine z7 _ rfl ?_ ?_
       ·intro h55;replace h55:=Znb h55;have hjl:j<(z1n g h).length:=by omega
        have hpl1:=hpl h;have hpl2:=hpl (h-1);refine za (z6 (zb fun Q5 hN5 hX5 hR5 hE5=> ?_));refine sg [3,4,6,7,8,9,10,64] rfl ?_;intro K hK;iterate 5 (refine Zo Zl ?_)
        refine Zo Zl ?_;refine Zc1 (refHas_spec (z1n g (h-1)) (nth (z1n g h) j) (z1n g (h-1)).length rfl (by omega)) (fun _=>7) ?_;rw[hJ.nested (by omega) (by omega) (by rw[z2n hjl];exact qN _)];refine Zo Zl ?_;refine z8 (Zpr (hK _ _ ?_));clear hK K;refine z7 _ rfl ?_ ?_
        ·intro h64
         exfalso;cases h64
        ·intro h64
         refine za (zd (hN5 _ _ ?_));refine Zrg [3,4,6,7,8,9,10] ?_;refine zd (hL3 _ _ ?_);rw[show(j:Int)+1=((j+1:Nat):Int) from by omega];exact⟨j+1,⟨by omega,by omega⟩,id,(Zg id)⟩
       ·intro h55
        refine zm (hEL3 _ _ _ (hX4 _ _ (zd (hN3 _ _ ?_))));refine Zrg [3,4,6,7] ?_;refine zd (hL2 _ _ ?_);rw[show(h:Int)+1=((h+1:Nat):Int) from by omega];exact⟨h+1,⟨⟨by omega,by omega⟩,by omega⟩,id,(Zg id)⟩
      ·intro h42
       refine zm (hEL2 _ _ _ (hX2 _ _ (zd (hN1 _ _ ?_))));refine Zrg [3,4,6] ?_;refine zd (hL1 _ _ ?_);rw[show(i:Int)+1=((i+1:Nat):Int) from by omega];exact⟨(g,lu,at3,i+1),⟨⟨hJ,hj3,by dsimp only;omega⟩,by dsimp only;omega⟩,id,(Zg id)⟩
    iterate 2 (refine Zo Zl ?_)
    refine Zo Zl ?_;refine Zca (playF_spec ls mm at2 hx hm hi3 f lw hI f.ns.length f.ly.length f.cb.length rfl rfl rfl 1 (by omega)) (fun q=>if q=0 then 1 else if q=1 then 0 else q) ?_;rintro s0 H0 ⟨_|_,g,lu,at3,⟨h1,h2,h3⟩,rfl,rfl⟩ s1 H1 hs1 hH1
    all_goals simp only[plSF,plHF,qw,Qo,Qi] at hs1 hH1
    all_goals obtain⟨hs2,hH2⟩:=Zaf hs1 hH1
    all_goals clear hs1 hH1
    all_goals subst hs2 hH2
    all_goals repeat(with_reducible apply qe;exact sdE)
    ·skip
     refine Zo Zl ?_;refine z8 ?_;refine Zpr ?_;exact hG _ _ _ _ (fun q=>if q=2 then 7 else if q=3 then 8 else if q=4 then 9 else if q=5 then 10 else q) (Zg (fun q=>if q=2 then 7 else if q=3 then 8 else if q=4 then 9 else if q=5 then 10 else q)) (hk8 g lu at3 ⟨h2.fi,h1⟩)
    ·skip
     refine Zo Zl ?_;refine z8 ?_;refine Zpr ?_;have h4:g=f:=h3 rfl;subst h4;exact hG _ _ _ _ id (Zg id) (hk8 g lu at3 ⟨h2.fi,h1⟩)
   ·intro h30
    refine zm (hEL1 _ _ _ (hX0 _ _ ?_));refine sg [2] rfl ?_;intro K hK;refine Zo Zl ?_;refine Zc1 (sane13_spec) (id) ?_;refine Zo Zl ?_;refine z8 (Zpr (hK _ _ ?_));clear hK K;refine ze (hQ _ _ ?_);refine zc (H':=⟨1,[]⟩) (.inl rfl) ?_;refine Zou ?_;refine⟨Zs,(Zg id),Zs,?_⟩
    all_goals first|trivial|rfl|exact⟨rfl,trivial⟩
  iterate 4 (refine Zo Zl ?_)
  refine z11 ?_;refine z1w rfl rfl ?_;refine Zgr ?_
  first|refine z1r ?_ ?_|refine(fun(h1:false=true->_) (h2:false=false->_)=>qe h1 fun _=>h2 rfl) ?_ ?_|refine qe ?_ ?_
  ·intro hg4
   first
    |(simp at hg4;done)
    |skip
     try replace hg4:=Znb hg4
     refine Zo id ?_;refine Zca (leftT_spec ls mm at2) (fun q=>if q=0 then 1 else 0) ?_;rintro s0 H0 ⟨⟨b,rfl⟩,rfl⟩ s1 H1 hs1 hH1;obtain⟨hs2,hH2⟩:=Zaf hs1 hH1;clear hs1 hH1;subst hs2 hH2;repeat(with_reducible apply qe;exact sdE)
     refine Zo Zl ?_;refine z8 ?_;refine Zpr ?_;refine hk6 _ ?_;intro hb;simp at hb<;>omega
  ·intro hg4;refine⟨.bool false,?_⟩
   first
    |(simp at hg4;done)
    |skip
     try replace hg4:=Znb hg4
     refine Zo Zl ?_;refine z8 ?_;refine Zpr ?_;refine hk6 _ ?_;intro hb;simp at hb hg4<;>omega
end
end Go.Proofs
namespace Go.Proofs.YtpnefndionckaaaGreatDoor
open _root_.Go.Proofs.Tryz
open Go.ChangeShapes Go.WideShapes Go.RowKit Go.Sk Go.Proofs
theorem own:ownKnob Tryz.prog.godebug=none:=by kernel_rfl
theorem laid:laidOutB prog=true:=by kernel_rfl
theorem rowed:mapsRowed prog=true:=by kernel_rfl
theorem fullS:∀t e,t<Tryz.prog.types.size->Tryz.prog.underlying t=some (.slice e)->0<Tryz.prog.cellsOf e:=slices_full_of _ (by kernel_rfl)
theorem uInts:Tryz.prog.underlying 22=some (.slice 3):=by kernel_rfl
theorem uStr:Tryz.prog.underlying 9=some .string:=by kernel_rfl
theorem uBool:Tryz.prog.underlying 4=some .bool:=by kernel_rfl
theorem fInt:flatB prog 3 [.i .i64]=true:=by kernel_rfl
theorem gTab:Tryz.prog.globalNamed "skipgraph/skipgraphworld.letters" =some 0:=by kernel_rfl
theorem gTabType:(Tryz.prog.globals[0]?).map (·.type)=some 127:=by kernel_rfl
theorem uTab:Tryz.prog.underlying 127=some (.array 6 9):=by kernel_rfl
theorem cTab:Tryz.prog.cellsOf 127=6:=by kernel_rfl
theorem cStr:Tryz.prog.cellsOf 9=1:=by kernel_rfl
theorem oneTab:(List.range Tryz.prog.globals.size).all (fun i=> !tabG prog i||i==0)=true:=by kernel_rfl
theorem tabs {W:World}(h:laidMetH prog [("math/bits.deBruijn32tab",Rows.laid_math_bits_deBruijn32tab),("skipgraph/skipgraphworld.letters",Rows.laid_skipgraph_skipgraphworld_letters)] W):∀i,tabG prog i=true->i<W.heap.size/\TabAt W i:=
 tabs_of_mem gTab gTabType uTab uStr cStr cTab oneTab (laid:=[("math/bits.deBruijn32tab",Rows.laid_math_bits_deBruijn32tab),("skipgraph/skipgraphworld.letters",Rows.laid_skipgraph_skipgraphworld_letters)]) (by exact .tail _ (.head _)) h
theorem gTabB:Tryz.prog.globalNamed "math/bits.deBruijn32tab" =some 1:=by kernel_rfl
theorem gTabBType:(Tryz.prog.globals[1]?).map (·.type)=some 211:=by kernel_rfl
theorem uTabB:Tryz.prog.underlying 211=some (.array 32 5):=by kernel_rfl
theorem uByte:Tryz.prog.underlying 5=some (.int .u8):=by kernel_rfl
theorem cTabB:Tryz.prog.cellsOf 211=32:=by kernel_rfl
theorem cByte:Tryz.prog.cellsOf 5=1:=by kernel_rfl
theorem oneTabB:(List.range Tryz.prog.globals.size).all (fun i=> !tabBG prog i||i==1)=true:=by kernel_rfl
theorem tabsB {W:World}(h:laidMetH prog [("math/bits.deBruijn32tab",Rows.laid_math_bits_deBruijn32tab),("skipgraph/skipgraphworld.letters",Rows.laid_skipgraph_skipgraphworld_letters)] W):∀i,tabBG prog i=true->i<W.heap.size/\TabBAt W i:=
 tabsB_of_mem gTabB gTabBType uTabB uByte cByte cTabB oneTabB (laid:=[("math/bits.deBruijn32tab",Rows.laid_math_bits_deBruijn32tab),("skipgraph/skipgraphworld.letters",Rows.laid_skipgraph_skipgraphworld_letters)]) (by exact .head _) h
def toInt:List Value->Int
 |[.int _ z]=>z
 |_=>0
def toInts (rows:List (List Value)):List Int:=rows.map toInt
theorem ints_rows {w:World}{v:Value}{q:Option Sk.Loc}{rows:List (List Value)}(h:RwIn w v q [.i .i64] rows)(i:Nat)(r:List Value)(hr:rows[i]? =some r):ints (toInts rows) i=r.map svOf:=by
 have hok:=h.ok r (q7 hr);rcases r with _|⟨v,_|⟨v',r⟩⟩
 ·exact hok.elim
 ·obtain⟨⟨z,rfl,_⟩,_⟩:=hok;simp only[ints,nth,toInts,List.getD,qG,hr,jj,jQ,toInt,Qk,jf,svOf]
 ·exact hok.2.elim
theorem ints_in {β:Env}{w:World}{v:Value}{q:Option Sk.Loc}{rows:List (List Value)}(h:RwIn w v q [.i .i64] rows){id:Nat}(hq:β id 0=q):
  den β (.slc false id 0 0 (toInts rows).length) v/\(Sk.Obj.row ⟨false,false,3,1,(toInts rows).length,ints (toInts rows)⟩).holds β w q:=by
 have:=rows_in h hq 3 (ints (toInts rows)) (ints_rows h);simpa [toInts] using this
theorem ints_len {w:World}{v:Value}{q:Option Sk.Loc}{rows:List (List Value)}(h:RwIn w v q [.i .i64] rows):(toInts rows).length<=9223372036854775807:=by
 have:=h.len;simpa [toInts,maxLen] using this
theorem ints_ltO (m:Nat)(xs:List Int):(Sk.Obj.row ⟨false,false,3,1,xs.length,ints xs⟩).lt m:=Sk.Obj.lt_row.2 fun i _=>by simp[ints,SV.ltL,SV.lt]
def putCells (l:List Value):Go.Obj->Go.Obj
 |.cells _ t frozen=> .cells l.toArray t frozen
 |o=>o
noncomputable def z62 (os:Os):World:=
 {World.holding prog os ⟨#[],#[],[]⟩ with heap:=((World.holding prog os ⟨#[],#[],[]⟩).heap.modify 0 (putCells (letters.map Value.string))).modify 1 (putCells (db32.map (Value.int IntKind.u8)))}
end Go.Proofs.YtpnefndionckaaaGreatDoor
namespace Go.Proofs.YtpnefndionckaaaGreatDoor.joinKeepsTop
open _root_.Go.Proofs.Tryz
open Go.ChangeShapes Go.WideShapes Go.RowKit Go.Sk Go.Proofs
theorem top (W:World)(v0:Value)(q0:Option Sk.Loc)(r0:List (List Value))(h0:RwIn W v0 q0 [.i .i64] r0)
  (htab:∀i,tabG prog i=true->i<W.heap.size/\TabAt W i) (htabB:∀i,tabBG prog i=true->i<W.heap.size/\TabBAt W i):Calls prog 6 #[v0] W fun e w'=>e= .returned (.bool true)/\Below W.heap.size W w':=by
 let β:Env:=fun _ _=>q0
 obtain⟨a0,b0⟩:=ints_in (β:=β) (id:=0) h0 rfl;refine zf.top (Ent.of func6 (by kernel_rfl) (by kernel_rfl)) (keepsF_spec (toInts r0) (ints_len h0)) β W [v0] (fun id k o ho=> ?_) ⟨v0,[],a0,rfl,rfl⟩ (by simp[SV.ltL,SV.lt]) htab htabB;obtain⟨c,F,hf,hk,rfl⟩:=z1h ho;simp only[Sk.find,z19,uQ] at hf
 split at hf
 ·rename_i e;subst e;cases hf
  exact⟨rfl,by show(0:Nat)<1;omega,ints_ltO _ _,b0⟩
 ·cases hf
theorem contract (H:Type)(enc:TypeId×Value->H)(W:World)(base:Nat)(args:Array Value)(ds gs:List (DataW H))(before:List MemPlace)
  (hval:∀(j:Nat) t v,Tryz.f6.params[j]? =some t->args[j]? =some v->Value.okWide prog W .any base t v)
  (hW:DataW.Whole enc prog Tryz.f6.params.toList Rows.joinKeepsSpec.vars false W args.toList ds gs before) (hL:laidMetH prog Rows.joinKeepsRow.laid W):
  Calls prog 6 args W fun e W'=> ∃v,e= .returned v/\Rows.joinKeepsSpec.post enc prog Tryz.f6 false true false false W args v W':=by
 have hW1:=hW;obtain⟨p,q,hA0,hV,rfl,_,_⟩:=hW;have hA:DataW.TrodAll enc prog W 0 (fun _=>true) true Tryz.f6.params.toList args.toList ds p:=hA0;have hval1:∀(j:Nat) t v,Tryz.f6.params[j]? =some t->args[j]? =some v->Value.okWide prog W .any base t v:=hval;rw[params6] at hA hval1;obtain⟨v0,vs0,d0,ds0,p0,q0,ha0,rfl,rfl,h0,r0⟩:=trodAll_cons hA;obtain⟨rfl,rfl,rfl⟩:=trodAll_nil r0;obtain rfl:args= #[v0]:=by cases args;simp_all
 obtain⟨_,_,x0⟩:=rows_open uInts fInt (by simp) (hval1 0 _ v0 rfl rfl) h0;refine(top W v0 _ _ x0 (tabs hL) (tabsB hL)).mono fun e W1 ⟨he,hb⟩=> ?_;subst he;refine⟨_,rfl,law_post laid rowed fullS (by decide+kernel) rfl hW1 hb rfl uBool fun ds hd=> ?_⟩;have hd1:ds.length=1:=hd
 match ds,hd1 with
 |[_],_=>rfl
theorem laid_met (os:Os):laidMet prog Rows.joinKeepsRow.laid ((z62 os).forCall (fun _ _=>0) ⟨#[],#[.slice none 0 0],[]⟩).memory:=
 laidMet_of_run' 8 (by kernel_rfl) (by kernel_rfl)
theorem reads (os:Os){H:Type}(enc:TypeId×Value->H):∃places,DataW.whole enc prog ((z62 os).forCall (fun _ _=>0) ⟨#[],#[.slice none 0 0],[]⟩).memory Tryz.f6.params.toList Rows.joinKeepsSpec.vars false #[Value.slice none 0 0].toList 8=some ([.nil],[],places):=
 ⟨[],by kernel_rfl⟩
set_option maxRecDepth 100000 in
theorem lifted (os:Os)(started:os.Started)(H:Type)(enc:TypeId×Value->H)(F:Stop.Interp):
  ReturnsInHanded {} Tryz.checked os 6 .any ((OpenSpec.ofChange Rows.joinKeepsSpec).preRow enc prog Tryz.f6 Rows.joinKeepsRow.domain false Rows.joinKeepsRow.laid) (((OpenSpec.ofChange Rows.joinKeepsSpec).at F).post enc prog Tryz.f6 false true false false):=by
 obtain⟨places,hx⟩:=reads os enc
 refine returnsInHanded_of_row (C:=Tryz.checked) (s:=OpenSpec.ofChange Rows.joinKeepsSpec) own started (by kernel_rfl) func6
  (witness_row_at (enc:=enc) (C:=Tryz.checked) false (z62 os) #[.slice none 0 0] rfl (by kernel_rfl) (by kernel_rfl) (by kernel_rfl)
   (OpenSpec.preRow_of_cond 8 hx (by kernel_rfl) (fun k hk=>by cases hk) (by kernel_rfl) (laid_met os))) ?_
 intro W base args ds gs before hval hW _ _ _ hL _ _;exact contract H enc W base args ds gs before hval hW hL
theorem said:Rows.JoinKeepsSaid:=
 OpenClaim.holds_of_cond 6 Tryz.f6 rfl rfl rfl rfl rfl rfl rfl ⟨rfl,rfl,rfl,rfl,rfl⟩ rfl rfl rfl rfl rfl (by kernel_rfl) func6 (by kernel_rfl)
  (jy (by kernel_rfl)) (by unfold Func.isWrapper;first|(rw[qf (by decide+kernel)];kernel_rfl)|(rw[qb (by decide+kernel)];exact⟨rfl,rfl⟩))
  (fun os started H enc _ F=>by rw[OpenClaim.pre_eq_preRow];exact lifted os started H enc F)
theorem plain (f:FuncId)(fn:Func)(hf:Tryz.pinned.checked.prog.funcNamed "skipgraph/skipgraphlaw13.JoinKeeps" =some f)(hfn:Tryz.pinned.checked.prog.funcs[f]? =some fn):
  false=Tryz.pinned.checked.prog.looks []/\∀(j:Nat) t,fn.params[j]? =some t->Tryz.pinned.checked.prog.wantsStandIn t=false:=by
 obtain rfl:f=6:=Qz ((show Tryz.prog.funcNamed "skipgraph/skipgraphlaw13.JoinKeeps" =some 6 by kernel_rfl).symm.trans hf)|>.symm
 obtain rfl:fn=Tryz.f6:=(Qz (Tryz.func6.symm.trans hfn)).symm;refine⟨by kernel_rfl,fun j t ht=> ?_⟩;rw[params6] at ht;have hm:t∈[22]:=by simpa using jr ht
 have hall:([22].all fun u=> !Tryz.prog.wantsStandIn u)=true:=by kernel_rfl
 exact(show Tryz.prog.wantsStandIn t=false by simpa using qu.1 hall t hm)
theorem proved:Rows.JoinKeepsCardSaid:=
 Claim7.holds_tied_plain_at .later [] _ _ _ _ said (fun _ h=>by cases h) (by kernel_rfl) (fun _ h=>by cases h) joinKeeps_row_tie rfl ⟨rfl,rfl⟩ (by kernel_rfl) rfl plain (by kernel_rfl)
end Go.Proofs.YtpnefndionckaaaGreatDoor.joinKeepsTop
#print axioms Go.Proofs.YtpnefndionckaaaGreatDoor.joinKeepsTop.proved
