/-
  JoinPresent: for every input the law returns true, and the input reads as before.
  Conditions: those that each statement names.
-/
import Derived.Test.YtpnefndionckaaaGreatDoorRmh
import Derived.Deep.Slices
import Derived.Lib.LaidTab
import Derived.Test.YtpnefndionckaaaGreatDoorRmj
import Derived.Test.YtpnefndionckaaaGreatDoorRmi
import Derived.Test.YtpnefndionckaaaGreatDoorRmc
import Derived.Test.YtpnefndionckaaaGreatDoorRmg
import Derived.Test.YtpnefndionckaaaGreatDoorRmb
import Derived.Test.YtpnefndionckaaaGreatDoorRmk
import Derived.Test.YtpnefndionckaaaGreatDoorRmf
import Derived.Test.YtpnefndionckaaaGreatDoorRows
import Derived.Test.YtpnefndionckaaaGreatDoorCards
import Derived.Test.YtpnefndionckaaaGreatDoorTie
import Derived.WalkKit
import Derived.ProofKit
import Derived.OpenShut
import Derived.Deep.DeepHandedRow
set_option linter.unusedSimpArgs false
set_option linter.unusedVariables false
set_option linter.defProp false
set_option maxRecDepth 4000
set_option maxHeartbeats 8000000
namespace Go.Sk
open Go.RowKit Go.WideShapes Go.ChangeShapes
inductive FK where
 |i (k:IntKind)|s|b
def FK.is (P:Program)(t:TypeId):FK->Bool
 |.i k=>match P.underlying t with|some (.int k')=>k'==k|_=>false
 |.s=>match P.underlying t with|some .string=>true|_=>false
 |.b=>match P.underlying t with|some .bool=>true|_=>false
def FK.ok:FK->Value->Prop
 |.i k,v=> ∃z,v= .int k z/\(Lit.int k z).wf=true
 |.s,v=> ∃x:ByteArray,v= .string x/\x.size<=maxLen
 |.b,v=> ∃x,v= .bool x
def svOf:Value->SV
 |.int k z=> .int k z
 |.string x=> .str x
 |.bool x=> .bool x
 |v=> .raw v
theorem FK.den {β:Env}{k:FK}{v:Value}(h:k.ok v):den β (svOf v) v/\(svOf v).scalar=true/\∀m,(svOf v).lt m:=by
 cases k<;>simp only[FK.ok] at h
 ·obtain⟨z,rfl,_⟩:=h;exact⟨rfl,rfl,fun _=>trivial⟩
 ·obtain⟨z,rfl,_⟩:=h;exact⟨rfl,rfl,fun _=>trivial⟩
 ·obtain⟨z,rfl⟩:=h;exact⟨rfl,rfl,fun _=>trivial⟩
def okRow:List FK->List Value->Prop
 |[],[]=>True
 |k::ks,v::vs=>k.ok v/\okRow ks vs
 |_,_=>False
theorem okRow_len:∀{ks:List FK} {vs:List Value},okRow ks vs->vs.length=ks.length
 |[],[],_=>rfl
 |_::_,_::_,h=>by simp[okRow_len h.2]
 |[],_::_,h=>h.elim
 |_::_,[],h=>h.elim
theorem okRow_get:∀{ks:List FK} {vs:List Value},okRow ks vs->∀(j:Nat) (v:Value),vs[j]? =some v->∃k:FK,k.ok v
 |[],[],_,j,v,h=>by simp at h
 |k::_,_::_,h,j,v,hj=>by
  cases j with
  |zero=>simp at hj;subst hj;exact⟨k,h.1⟩
  |succ j=>simp at hj;exact okRow_get h.2 j v hj
 |[],_::_,h,_,_,_=>h.elim
 |_::_,[],h,_,_,_=>h.elim
def fldsB (P:Program)(fs:Array Field):Nat->List FK->Bool
 |i,[]=>i==fs.size
 |i,k::ks=>(match fs[i]? with|some f=>f.offset==i && P.cellsOf f.type==1 && k.is P f.type|none=>false) && fldsB P fs (i+1) ks
def flatB (P:Program)(t:TypeId)(ks:List FK):Bool:=
 P.cellsOf t==ks.length && (match P.underlying t with
  |some (.struct fs)=>fldsB P fs 0 ks
  |_=>match ks with|[k]=>k.is P t|_=>false)
section
variable {H:Type} {enc:TypeId×Value->H} {P:Program} {w:World} {base:Nat} {sp:Nat->Bool} {held:Bool}
theorem one_open {k:FK}{t:TypeId}{fuel:Nat}{cs:List Value}{x:DataW H×List MemPlace}(hk:k.is P t=true)(h:DataW.trod enc P w base sp held fuel t cs=some x):∃v,cs=[v]/\k.ok v:=by
 cases k<;>simp only[FK.is] at hk
 ·split at hk
  ·rename_i k' hu;obtain rfl:=eq_of_beq hk;obtain⟨n,rfl,_,hw⟩:=Jj hu h;exact⟨_,rfl,n,rfl,hw⟩
  ·cases hk
 ·split at hk
  ·rename_i hu;obtain⟨s,rfl,_,hs⟩:=jX hu h;exact⟨_,rfl,s,rfl,hs⟩
  ·cases hk
 ·split at hk
  ·rename_i hu;obtain⟨b,rfl,_⟩:=yB hu h;exact⟨_,rfl,b,rfl⟩
  ·cases hk
theorem flds_open {fs:Array Field}{n:Nat}{cs:List Value}{xs:List (DataW H×List MemPlace)}(hx:xs.length=fs.size)(hf:∀(i:Nat) (f:Field),fs[i]? =some f->DataW.trod enc P w base sp held n f.type ((cs.drop f.offset).take (P.cellsOf f.type))=xs[i]?):
  ∀(ks:List FK) (i:Nat),fldsB P fs i ks=true->i+ks.length=cs.length->okRow ks (cs.drop i)
 |[],i,_,hl=>by rw[jR (by simp at hl;omega)];trivial
 |k::ks,i,h,hl=>by
  simp only[fldsB,qh] at h;obtain⟨h1,h2⟩:=h;simp only[QK] at hl
  split at h1
  ·rename_i f hfi;simp only[qh,qv] at h1;obtain⟨⟨h3,h4⟩,h5⟩:=h1;have h6:=hf i f hfi;have hi:i<xs.length:=by rw[hx];exact(q9.1 hfi).1
   rw[h3,h4,qF hi] at h6;obtain⟨v,hv,hok⟩:=one_open h5 h6;rw[QB (by omega),jz,jO] at hv;rw[QB (by omega)];have:cs[i]=v:=by simpa using hv
   rw[this];exact⟨hok,flds_open hx hf ks (i+1) h2 (by omega)⟩
  ·cases h1
theorem flat_open {t:TypeId}{ks:List FK}{fuel:Nat}{cs:List Value}{x:DataW H×List MemPlace}(hb:flatB P t ks=true)(h:DataW.trod enc P w base sp held fuel t cs=some x):okRow ks cs:=by
 simp only[flatB,qh,qv] at hb;obtain⟨hc,hb⟩:=hb
 split at hb
 ·rename_i fs hu;obtain⟨xs,m,_,_,hl,hxl,hf⟩:=yj hu h;have:=flds_open hxl hf ks 0 hb (by omega);rwa [jN] at this
 ·split at hb
  ·rename_i k;obtain⟨v,rfl,hok⟩:=one_open hb h;exact⟨hok,trivial⟩
  ·cases hb
structure RwIn (w:World) (v:Value) (q:Option Loc) (ks:List FK) (rows:List (List Value)):Prop where
 len:rows.length<=maxLen
 ok:∀r∈rows,okRow ks r
 val:∃a c,v= .slice a rows.length c/\rows.length<=c/\(0<rows.length->∃L,q=some L/\a=some ⟨L.blk,L.off,none⟩)
 mem:(rows.length=0/\q=none)\/∃L,q=some L/\L.sz=ks.length/\L.blk<w.heap.size/\∀(i:Nat) (r:List Value),rows[i]? =some r->∀(j:Nat) (u:Value),r[j]? =some u->w.cell? ⟨L.blk,L.off+i*ks.length+j,none⟩=some u
theorem rows_open {t e:TypeId}{ks:List FK}{v:Value}{d:DataW H}{p:List MemPlace}(ht:P.underlying t=some (.slice e))(hb:flatB P e ks=true)(hk0:0<ks.length){b0:Nat}
  (hval:Value.okWide P w .any b0 t v) (h:DataW.Trod enc P w base sp held t v d p):∃q rows,RwIn w v q ks rows:=by
 obtain⟨n,hn⟩:=h;obtain⟨a0,l0,c0,rfl⟩:=okWide_slice ht hval;have hce:P.cellsOf e=ks.length:=by simp only[flatB,qh,qv] at hb;exact hb.1
 have hcs:(Value.slice a0 l0 c0).cells.toList=[Value.slice a0 l0 c0]:=rfl;rw[hcs] at hn;rcases Deep.open_slice ht hn with⟨hv,_⟩|⟨a,len,cap,m,n',D,Pl,hv,hbb,hlc,hcm,hmm,_,hel⟩
 ·cases hv
  exact⟨none,[],⟨by simp,by simp,⟨none,0,rfl,by simp,by simp⟩,.inl ⟨rfl,rfl⟩⟩⟩
 ·cases hv
  have hml:l0<=m:=by rw[hmm];split<;>omega
  obtain⟨R,hR⟩:=Deep.choose_lt (α:=List Value) (p:=fun i cs=>w.cells? base (a.add (i*P.cellsOf e)) (P.cellsOf e)=some cs/\DataW.trod enc P w base sp held n' e cs=some (D i,Pl i)) hel;have hrl:((List.range l0).map R).length=l0:=by simp
  have hget:∀i r,((List.range l0).map R)[i]? =some r->i<l0/\r=R i:=fun i r h=>by
   simp only[qG,qH] at h;obtain⟨k,h1,h2⟩:=h
   have hi:i<l0:=by
    rcases qZ i l0 with h|h
    ·exact h
    ·rw[qI (by simpa using h)] at h1;cases h1
   rw[jc hi] at h1
   cases h1
   exact⟨hi,h2.symm⟩
  have hok:∀i,i<m->okRow ks (R i):=fun i hi=>flat_open hb (hR i hi).2
  have hrow:∀r∈(List.range l0).map R,okRow ks r:=fun r hr=>by
   obtain⟨i,hi,rfl⟩:=Qy.1 hr;exact hok i (by have:=Qd.1 hi;omega)
  by_cases h0:l0=0
  ·subst h0;exact⟨none,[],⟨by simp,by simp,⟨some a,c0,rfl,by simp,by simp⟩,.inl ⟨rfl,rfl⟩⟩⟩
  ·have hcell:∀i,i<l0->∀(j:Nat) (u:Value),(R i)[j]? =some u->w.cell? ((a.add (i*ks.length)).add j)=some u:=fun i hi j u hj=>by
    obtain⟨h1,h2⟩:=hR i (by omega);obtain⟨_,hlen,hc⟩:=yn h1;have hjl:j<P.cellsOf e:=by rw[<-hlen];exact(q6.1 hj).1
    rw[<-hce,hc j hjl];exact hj
   have hr0:∃u,(R 0)[0]? =some u:=by
    have:=okRow_len (hok 0 (by omega));exact⟨_,qF (by omega)⟩
   obtain⟨u0,hu0⟩:=hr0;have hc0:=hcell 0 (by omega) 0 u0 hu0;have hsp:a.spot=none:=yz (by unfold Addr.add at hc0;simpa using hc0);obtain⟨b,o,s0⟩:=a;simp only at hsp;subst hsp
   have hblk:b<w.heap.size:=by
    rw[z4h,z4h] at hc0;unfold World.cell? at hc0;rcases qZ b w.heap.size with h|h
    ·exact h
    ·simp[q8 h] at hc0
   refine⟨some ⟨b,o,ks.length,0⟩,(List.range l0).map R,⟨by omega,hrow,⟨some ⟨b,o,none⟩,c0,by rw[hrl],by omega,fun _=>⟨_,rfl,rfl⟩⟩,.inr ⟨_,rfl,rfl,hblk,fun i r hr j u hj=> ?_⟩⟩⟩;obtain⟨hi,rfl⟩:=hget i r hr;have:=hcell i hi j u hj;rw[z4h,z4h] at this;exact this
end
theorem rows_in {β:Env}{w:World}{v:Value}{q:Option Loc}{ks:List FK}{rows:List (List Value)}(h:RwIn w v q ks rows){id:Nat}(hq:β id 0=q)(e:TypeId)(f:Nat->List SV)(hf:∀(i:Nat) (r:List Value),rows[i]? =some r->f i=r.map svOf):
  den β (.slc false id 0 0 rows.length) v/\(Obj.row ⟨false,false,e,ks.length,rows.length,f⟩).holds β w q:=by
 obtain⟨_,hok,⟨a,c,rfl,hc,hp⟩,hm⟩:=h;refine⟨?_,?_⟩
 ·simp only[den,z5c,qw,Qo];refine⟨a,c,rfl,hc,fun h=> ?_⟩;obtain⟨L,h1,h2⟩:=hp h;exact⟨L,hq.trans h1,by rw[h2];simp⟩
 ·rcases hm with hm|⟨L,h1,h2,h3,h4⟩
  ·exact .inl hm
  ·refine .inr ⟨L,h1,h2,h3,fun i hi=> ?_,fun h=>by cases h⟩;have hi':i<rows.length:=hi;have hr:=qF hi';have hfi:=hf i _ hr;have hoki:=hok _ (qN hi')
   show(f i).length=ks.length/\∀(j:Nat) (s:SV),(f i)[j]? =some s->_
   rw[hfi];refine⟨by rw[qA];exact okRow_len hoki,fun j s hs=> ?_⟩;rw[qG,qH] at hs;obtain⟨u,hu,rfl⟩:=hs;obtain⟨k,hk⟩:=okRow_get hoki j u hu;obtain⟨g1,g2,_⟩:=FK.den (β:=β) hk;refine⟨g2,u,?_,g1⟩;rw[h2];exact h4 i _ hr j u hu
def strData {H:Type}(ss:List ByteArray):DataW H:= .agg (ss.map fun s=> .lit (.string s.data.toList))
theorem cells_of_strs {H:Type}{enc:TypeId×Value->H}{P:Program}{w:World}{base:Nat}{sp:Nat->Bool}{held:Bool}{fuel:Nat}{t e:TypeId}{n:Nat}{cs:List Value}{ss:List ByteArray}{p:List MemPlace}
  (ht:P.underlying t=some (.array n e)) (he:P.underlying e=some .string) (hce:P.cellsOf e=1) (hct:P.cellsOf t=n)
  (h:DataW.trod enc P w base sp held fuel t cs=some (strData ss,p)):cs=ss.map Value.string:=by
 cases fuel with
 |zero=>simp[DataW.trod] at h
 |succ fuel=>
  simp only[DataW.trod,ht,hce,hct,jT] at h
  split at h
  ·rename_i hl;obtain⟨xs,hm,hx⟩:=qH.1 h
   have hxs:xs.map (·.1)=ss.map fun s=>(DataW.lit (.string s.data.toList):DataW H):=by
    have:=Qj Prod.fst hx;simpa [strData] using this
   have hxl:xs.length=n:=by simpa using Lib.mapM_length hm
   have hzl:ss.length=n:=by
    have:=Qj List.length hxs;simp at this;omega
   apply jp;intro i
   by_cases hi:i<n
   ·obtain⟨b,hb,hf⟩:=Lib.mapM_at hm i i (by simp[hi]);obtain⟨z,hc,rfl,_⟩:=jX he hf
    have h1:cs[i]? =some (.string z):=by
     have:=Qj (·[0]?) hc;simpa [Qc,QF] using this
    have h2:(xs.map (·.1))[i]? =some (DataW.lit (.string z.data.toList):DataW H):=by simp[hb]
    rw[hxs] at h2;simp only[qG,qH,j9,yu] at h2;obtain⟨z',hz',he'⟩:=h2
    have:z'=z:=by
     cases z' with
     |mk a=>cases z with
      |mk b=>congr 1;exact j4.1 he'
    subst this;simp[h1,hz']
   ·rw[qI (by omega),qI (by simp;omega)]
  ·cases h
end Go.Sk
namespace Go.Sk
open Go.RowKit Go.ChangeShapes Go.WideShapes
theorem LaidVars_at {P:Program}{w:World}{n:String}{d:DataW Unit}:∀{l:List (String×DataW Unit)} {ps:List MemPlace},DataW.LaidVars P w l ps->(n,d)∈l->
  ∃g t cs fuel p,P.globalNamed n=some g/\(P.globals[g]?).map (·.type)=some t/\w.var? P n=some cs/\DataW.trod (fun _=>()) P w 0 (fun _=>true) false fuel t cs.toList=some (d,p)
 |[],_,_,h=>by cases h
 |(m,e)::r,ps,⟨g,t,cs,fuel,p,q,h1,h2,h3,h4,h5,_⟩,h=>by
  cases h with
  |head=>exact⟨g,t,cs,fuel,p,h1,h2,h3,h4⟩
  |tail _ h=>exact LaidVars_at h5 h
theorem tabs_of_mem {P:Program}{W:World}{laid:List (String×DataW Unit)}{name:String}{g:Nat}{t e:TypeId}(hg:P.globalNamed name=some g)(hty:(P.globals[g]?).map (·.type)=some t)(ht:P.underlying t=some (.array 6 e))(he:P.underlying e=some .string)(hce:P.cellsOf e=1)(hct:P.cellsOf t=6)
  (hone:(List.range P.globals.size).all (fun i=> !tabG P i||i==g)=true) (hm:(name,strData letters)∈laid) (h:laidMet P laid W):∀i,tabG P i=true->i<W.heap.size/\TabAt W i:=by
 obtain⟨ps,h,_⟩:=h;obtain⟨g',t',cs,fuel,p,hg',ht',hvar,hd⟩:=LaidVars_at h hm;obtain rfl:=Qz (hg.symm.trans hg');obtain rfl:=Qz (hty.symm.trans ht');have hcs:=cells_of_strs ht he hce hct hd;intro i hi
 have hlt:i<P.globals.size:=by
  rcases qZ i P.globals.size with h|h
  ·exact h
  ·unfold tabG at hi;rw[q8 h] at hi;cases hi
 have h1:=qu.1 hone i (Qd.2 hlt);rw[hi] at h1;have:i=g:=by simpa using h1
 subst this
 have hat:TabAt W i:=fun j s hj=>by
  have:=Jb hg hvar j;rw[this,<-Qw,hcs,qG,hj]
  rfl
 refine⟨?_,hat⟩;have h0:=hat 0 _ (show letters[0]? =some _ from rfl);unfold World.cell? at h0;rcases qZ i W.heap.size with h|h
 ·exact h
 ·simp[q8 h] at h0
def byteData {H:Type}(ns:List Int):DataW H:= .agg (ns.map fun n=> .lit (.int .u8 n))
theorem cells_of_bytes {H:Type}{enc:TypeId×Value->H}{P:Program}{w:World}{base:Nat}{sp:Nat->Bool}{held:Bool}{fuel:Nat}{t e:TypeId}{n:Nat}{cs:List Value}{ss:List Int}{p:List MemPlace}
  (ht:P.underlying t=some (.array n e)) (he:P.underlying e=some (.int .u8)) (hce:P.cellsOf e=1) (hct:P.cellsOf t=n)
  (h:DataW.trod enc P w base sp held fuel t cs=some (byteData ss,p)):cs=ss.map (Value.int .u8 ·):=by
 cases fuel with
 |zero=>simp[DataW.trod] at h
 |succ fuel=>
  simp only[DataW.trod,ht,hce,hct,jT] at h
  split at h
  ·rename_i hl;obtain⟨xs,hm,hx⟩:=qH.1 h
   have hxs:xs.map (·.1)=ss.map fun s=>(DataW.lit (.int .u8 s):DataW H):=by
    have:=Qj Prod.fst hx;simpa [byteData] using this
   have hxl:xs.length=n:=by simpa using Lib.mapM_length hm
   have hzl:ss.length=n:=by
    have:=Qj List.length hxs;simp at this;omega
   apply jp;intro i
   by_cases hi:i<n
   ·obtain⟨b,hb,hf⟩:=Lib.mapM_at hm i i (by simp[hi]);obtain⟨z,hc,rfl,_⟩:=Jj he hf
    have h1:cs[i]? =some (.int .u8 z):=by
     have:=Qj (·[0]?) hc;simpa [Qc,QF] using this
    have h2:(xs.map (·.1))[i]? =some (DataW.lit (.int .u8 z):DataW H):=by simp[hb]
    rw[hxs] at h2;simp only[qG,qH,j9,Lit.int.injEq,QT] at h2;obtain⟨z',hz',rfl⟩:=h2;simp[h1,hz']
   ·rw[qI (by omega),qI (by simp;omega)]
  ·cases h
theorem tabsB_of_mem {P:Program}{W:World}{laid:List (String×DataW Unit)}{name:String}{g:Nat}{t e:TypeId}(hg:P.globalNamed name=some g)(hty:(P.globals[g]?).map (·.type)=some t)(ht:P.underlying t=some (.array 32 e))(he:P.underlying e=some (.int .u8))(hce:P.cellsOf e=1)(hct:P.cellsOf t=32)
  (hone:(List.range P.globals.size).all (fun i=> !tabBG P i||i==g)=true) (hm:(name,byteData db32)∈laid) (h:laidMet P laid W):∀i,tabBG P i=true->i<W.heap.size/\TabBAt W i:=by
 obtain⟨ps,h,_⟩:=h;obtain⟨g',t',cs,fuel,p,hg',ht',hvar,hd⟩:=LaidVars_at h hm;obtain rfl:=Qz (hg.symm.trans hg');obtain rfl:=Qz (hty.symm.trans ht');have hcs:=cells_of_bytes ht he hce hct hd;intro i hi
 have hlt:i<P.globals.size:=by
  rcases qZ i P.globals.size with h|h
  ·exact h
  ·unfold tabBG at hi;rw[q8 h] at hi;cases hi
 have h1:=qu.1 hone i (Qd.2 hlt);rw[hi] at h1;have:i=g:=by simpa using h1
 subst this
 have hat:TabBAt W i:=fun j s hj=>by
  have:=Jb hg hvar j;rw[this,<-Qw,hcs,qG,hj]
  rfl
 refine⟨?_,hat⟩;have h0:=hat 0 _ (show db32[0]? =some _ from rfl);unfold World.cell? at h0;rcases qZ i W.heap.size with h|h
 ·exact h
 ·simp[q8 h] at h0
end Go.Sk
namespace Go.Proofs
open Tryz
open Go.Sk
section
def Ex (fo:Fo)(E:Int->Bool):Prop:=
 (∀x∈fo.ns,busyF fo.cb x.id=false->z4c fo.ly x.id 0= !E x.id)/\∀q,q<fo.cb.length->(cbA fo.cb q).kind≠0->E (cbA fo.cb q).node=((cbA fo.cb q).kind==1)
theorem goneF_begin {L:List Ly}{p:Int}{c:Cb}(hi:(plI L c.node c.lvl).toNat<L.length)(id lv:Int):z4c (beginL L p c) id lv=z4c L id lv:=by
 rw[beginL,goneF_up hi]
 split
 ·rename_i e;rw[z4c,e]
 ·rfl
theorem cbA_set {C:List Cb}{p:Nat}(hp:p<C.length)(c:Cb)(q:Nat):cbA (C.set p c) q=if q=p then c else cbA C q:=by
 split
 ·rename_i e;subst e;exact z3m hp
 ·rename_i e;exact z5a (QD e)
theorem nxC_facts (c:Cb):(nxC c).node=c.node/\(nxC c).kind=c.kind/\(nxC c).lvl=if c.kind=1 then c.lvl+1 else c.lvl-1:=by
 refine⟨?_,?_,?_⟩<;>unfold nxC<;>split<;>rfl
section
variable {fo:Fo} {ls:Nat->List Int} {E:Int->Bool}
theorem FI.ex_start (h:FI fo ls){p kind id:Int}(he:z28 fo p kind id=0)(hx:Ex fo E):Ex (z15 fo p kind id) (fun v=>if v=id then kind==1 else E v)/\E id=(kind==2):=by
 obtain⟨x,s⟩:=h.sok he;have hf:=z1z.1 s.free;have hp:=s.pl;rw[z15,qf he];have hb:(begC fo.ht kind id).kind=kind:=rfl;have hbn:(begC fo.ht kind id).node=id:=rfl;have hbl:(begC fo.ht kind id).lvl=if kind=2 then fo.ht else 0:=rfl;have h0:=h.sh.h0;obtain⟨i,k,a⟩:=h.sh.place s.mm (lv:=(begC fo.ht kind id).lvl) (by rw[hbl];split<;>omega) (by rw[hbl];split<;>omega);have hI:=a.pI;rw[s.ide] at hI;have hi:(plI fo.ly (begC fo.ht kind id).node (begC fo.ht kind id).lvl).toNat<fo.ly.length:=by rw[hbn,hI,qz];exact a.hi
 refine⟨⟨fun y hy hbz=> ?_,fun q hq hk=> ?_⟩,?_⟩
 ·dsimp only at hy hbz ⊢;have hbz:=z1z.1 hbz
  have hne:y.id≠id:=fun e=>by
   have:=hbz p.toNat (by rw[qD];exact hp) (by rw[z3m hp,hb];have:=s.k;omega);rw[z3m hp,hbn] at this;exact this e.symm
  rw[goneF_begin hi,qb hne];refine hx.1 y hy (z1z.2 fun q hq hk=> ?_);have:=hbz q (by rw[qD];exact hq);rw[cbA_set hp] at this
  by_cases e:q=p.toNat
  ·subst e;exact absurd s.idle hk
  ·rw[qb e] at this;exact this hk
 ·dsimp only at hq hk ⊢;rw[qD] at hq;rw[cbA_set hp] at hk ⊢
  by_cases e:q=p.toNat
  ·rw[qf e,hbn,hb,qf rfl]
  ·rw[qb e] at hk ⊢;rw[qb (hf q hq hk)];exact hx.2 q hq hk
 ·have:=hx.1 x s.mm (by rw[s.ide];exact s.free);have hm:=memF_gone h.sh s.mm (jC 0) h0;rw[s.ide,s.mem] at hm;rw[s.ide] at this;rw[this] at hm;rw[hm,jB]
theorem FI.ex_step (h:FI fo ls){p:Int}(hs:z3w fo p=true)(hx:Ex fo E):Ex (z21 fo p) E:=by
 have hs0:=hs;unfold z3w at hs;rw[h.vf,qV,qh,qh,inC_iff,qU] at hs;obtain⟨⟨⟨p0,pl⟩,hk⟩,hs⟩:=hs;have hp:p.toNat<fo.cb.length:=by omega
 unfold z21;rw[h.vf,hs0];simp only[Qp,qw,Qo,Qi];obtain⟨x,i,k,hw,ha,hc1,hc2,hc3,hc4⟩:=h.stands hp hk;have hI:=ha.pI;rw[hw.id] at hI;have hcur:curI fo p=i:=by rw[curI,hI,qz]
 obtain⟨hnn,hnk,hnl⟩:=nxC_facts (cbA fo.cb p.toNat);have h0:=h.sh.h0
 by_cases he:endB fo p=true
 ·rw[qf he] at hs;rw[qf he];rw[endB,hcur,qv] at he;have hlow:=h.low p.toNat hp hk;have hgn:=ha.gone;rw[hw.id] at hgn;have hl0:=hw.l0;have hlh:=hw.lh
  have here:z4c fo.ly (cbA fo.cb p.toNat).node (cbA fo.cb p.toNat).lvl=((cbA fo.cb p.toNat).kind==2):=by
   rw[hgn];rcases hw.k with e|e
   ·have:=hc4.i2 (by rw[hc2,e]) (by omega);rw[hc1] at this;rw[this,e];rfl
   ·have:=hc4.r2 (by rw[hc2,e]) (by omega);rw[hc1] at this;rw[this,e];rfl
  by_cases ho:outB fo.ht (nxC (cbA fo.cb p.toNat))=true
  ·rw[qf ho];rw[outB,qr,qj,qj,hnl] at ho
   have hz:z4c fo.ly (cbA fo.cb p.toNat).node 0=((cbA fo.cb p.toNat).kind==2):=by
    by_cases e:(0:Int)=(cbA fo.cb p.toNat).lvl
    ·rw[e];exact here
    ·have:=hlow 0 (jC 0) h0;rcases hw.k with e1|e1
     ·rw[qf e1] at ho;rw[this.1 (by omega),e1];rfl
     ·rw[qb (by omega)] at ho;omega
   refine⟨fun y hy hbz=> ?_,fun q hq hkq=> ?_⟩
   ·dsimp only at hy hbz ⊢
    by_cases e:y.id=(cbA fo.cb p.toNat).node
    ·rw[e,hz,hx.2 p.toNat hp hk];rcases hw.k with e1|e1<;>rw[e1]<;>rfl
    ·refine hx.1 y hy (z1z.2 fun q hq hkq=> ?_);have:=z1z.1 hbz q (by rw[qD];exact hq);rw[cbA_set hp] at this
     by_cases e2:q=p.toNat
     ·subst e2;exact fun g=>e g.symm
     ·rw[qb e2] at this;exact this hkq
   ·dsimp only at hq hkq ⊢;rw[qD] at hq;rw[cbA_set hp] at hkq ⊢
    by_cases e2:q=p.toNat
    ·rw[qf e2] at hkq;exact absurd rfl hkq
    ·rw[qb e2] at hkq ⊢;exact hx.2 q hq hkq
  ·rw[qb ho];have ho:outB fo.ht (nxC (cbA fo.cb p.toNat))=false:=by simpa using ho
   rw[outB,qi,qg,qg] at ho;obtain⟨j,m,b⟩:=h.sh.place hw.mm (lv:=(nxC (cbA fo.cb p.toNat)).lvl) (by omega) (by omega);have hJ:=b.pI;rw[hw.id,<-hnn] at hJ;have hj:(plI fo.ly (nxC (cbA fo.cb p.toNat)).node (nxC (cbA fo.cb p.toNat)).lvl).toNat<fo.ly.length:=by rw[hJ,qz];exact b.hi
   have hcb:∀q,(cbA (fo.cb.set p.toNat (nxC (cbA fo.cb p.toNat))) q).kind=(cbA fo.cb q).kind/\(cbA (fo.cb.set p.toNat (nxC (cbA fo.cb p.toNat))) q).node=(cbA fo.cb q).node:=fun q=>by
    rw[cbA_set hp]
    split
    ·rename_i e;subst e;exact⟨hnk,hnn⟩
    ·exact⟨rfl,rfl⟩
   refine⟨fun y hy hbz=> ?_,fun q hq hkq=> ?_⟩
   ·dsimp only at hy hbz ⊢;rw[goneF_begin hj];refine hx.1 y hy (z1z.2 fun q hq hkq=> ?_);have:=z1z.1 hbz q (by rw[qD];exact hq);rw[(hcb q).1,(hcb q).2] at this;exact this hkq
   ·dsimp only at hq hkq ⊢;rw[qD] at hq;rw[(hcb q).1] at hkq;rw[(hcb q).1,(hcb q).2];exact hx.2 q hq hkq
 ·rw[qb he] at hs;rw[qb he];rw[hcur] at hs ⊢;have hinv:=h.inv i ha.hi
  have hq:goesB (lyA fo.ly i).ps p=true:=by
   rw[goesB,(h.sh.at_ i ha.hi).pn,qk,qi,qg,qg];omega
  have hr:stepR (lyA fo.ly i).cs (lyA fo.ly i).ps p=(z2a (lyA fo.ly i).cs p.toNat (pr (lyA fo.ly i).ps p.toNat),(lyA fo.ly i).ps.set p.toNat (z2d (lyA fo.ly i).cs (pr (lyA fo.ly i).ps p.toNat))):=by
   rw[stepOk,hinv.vb,qV] at hs;rw[stepR,hinv.vb,hs];rfl
  rw[stepOk,hinv.vb,qV,hq,qV] at hs;rw[hr];have t:=Tr.of (p:=p.toNat) hs;have hact:=step_act hs;obtain⟨l',hi,hl',hF,off⟩:=h.layer hp hk hI hact t;refine⟨fun y hy hbz=> ?_,hx.2⟩;dsimp only at hy hbz ⊢;have hne:=z1z.1 hbz p.toNat hp hk;rw[off y hy 0 (jC 0) h0 (.inl (QD hne))];exact hx.1 y hy hbz
theorem Ex.idle (hx:Ex fo E)(hi:∀q,q<fo.cb.length->(cbA fo.cb q).kind=0){x:Nd}(hm:x∈fo.ns):z4c fo.ly x.id 0= !E x.id:=
 hx.1 x hm (z1z.2 fun q hq hk=>absurd (hi q hq) hk)
theorem Ex.of (hi:∀q,q<fo.cb.length->(cbA fo.cb q).kind=0)(he:∀x∈fo.ns,z4c fo.ly x.id 0= !E x.id):Ex fo E:=
 ⟨fun x hm _=>he x hm,fun q hq hk=>absurd (hi q hq) hk⟩
theorem z2v (h:FI fo ls)(p:Int):(z21 fo p).ns=fo.ns/\(z21 fo p).ht=fo.ht/\(z21 fo p).cb.length=fo.cb.length/\(z21 fo p).ly.length=fo.ly.length:=by
 unfold z21;rw[h.vf];simp only[Qp,qw,Qo]
 split
 ·split
  ·split
   ·exact⟨rfl,rfl,qD,rfl⟩
   ·exact⟨rfl,rfl,qD,z5f ..⟩
  ·exact⟨rfl,rfl,rfl,z5f ..⟩
 ·exact⟨rfl,rfl,rfl,rfl⟩
theorem stepFR_not (h:FI fo ls){p:Int}(hs:z3w fo p=false):z21 fo p=fo:=by
 unfold z21;rw[h.vf,hs];rfl
theorem startFR_keeps {p kind id:Int}(he:z28 fo p kind id=0):(z15 fo p kind id).ns=fo.ns/\(z15 fo p kind id).ht=fo.ht/\(z15 fo p kind id).cb.length=fo.cb.length/\(z15 fo p kind id).ly.length=fo.ly.length:=by
 rw[z15,qf he];exact⟨rfl,rfl,qD,z5f ..⟩
def Turn (fo:Fo)(ls:Nat->List Int)(K n:Nat):Prop:=∃c,Phi fo ls K*fo.cb.length<=n+c/\c<fo.cb.length/\∀i,1<=i->i<=c->z3w fo (((n+i)%fo.cb.length:Nat):Int)=false
theorem busyN_zero {C:List Cb}(h:z2c C=0)(p:Nat)(hp:p<C.length):(cbA C p).kind=0:=by
 have:=sumR_ge (f:=fun p=>((cbA C p).kind !=0).toNat) hp;unfold z2c at h;rw[h] at this
 by_cases e:(cbA C p).kind=0
 ·exact e
 ·rw[qU.2 e] at this;exact absurd this (by decide)
theorem busyN_pos {C:List Cb}(h:0<z2c C):∃p,p<C.length/\(cbA C p).kind≠0:=by
 rcases Classical.em (∃p,p<C.length/\(cbA C p).kind≠0) with g|g
 ·exact g
 ·have:z2c C=0:=by
   rw[z2c,sumR_congr (f:=fun _=>0),sumR_zero];intro i hi;have:(cbA C i).kind=0:=QH fun e=>g ⟨i,hi,e⟩;simp[this]
  omega
theorem FI.turn_step (h:FI fo ls){M n:Nat}(hM:z2c fo.cb<=M)(hb:0<z2c fo.cb)(ht:Turn fo ls (z2o fo M) (n+1)):
  ∃ls',FI (z21 fo (((n+1)%fo.cb.length:Nat):Int)) ls'/\Turn (z21 fo (((n+1)%fo.cb.length:Nat):Int)) ls' (z2o fo M) n:=by
 obtain⟨c,h1,h2,h3⟩:=ht;obtain⟨_,_,hl,_⟩:=z2v h (((n+1)%fo.cb.length:Nat):Int)
 cases hs:z3w fo (((n+1)%fo.cb.length:Nat):Int) with
 |true=>
  obtain⟨ls',g1,g2⟩:=h.step hs hM;refine⟨ls',g1,0,?_,by rw[hl];omega,fun i h4 h5=>by omega⟩;rw[hl];have:=qQ fo.cb.length g2;rw[Nat.succ_mul] at this;omega
 |false=>
  rw[stepFR_not h hs]
  have h4:∀i,1<=i->i<=c+1->z3w fo (((n+i)%fo.cb.length:Nat):Int)=false:=fun i hi hi2=>by
   by_cases e:i=1
   ·subst e;exact hs
   ·have:=h3 (i-1) (by omega) (by omega);rw[show n+1+(i-1)=n+i by omega] at this;exact this
  refine⟨ls,h,c+1,by omega,QH fun hc=> ?_,h4⟩;have hc:c+1=fo.cb.length:=by omega
  obtain⟨p,hp,hk⟩:=busyN_pos hb;obtain⟨q,hq,_,hqs⟩:=h.can hp hk
  obtain⟨i,i1,i2,i3⟩:∃i,1<=i/\i<=c+1/\(n+i)%fo.cb.length=q:=by
   have hm:0<fo.cb.length:=by omega
   have hr:=Nat.mod_lt n hm;have hd:=Nat.div_add_mod n fo.cb.length
   by_cases g:n%fo.cb.length<q
   ·refine⟨q-n%fo.cb.length,by omega,by omega,?_⟩;rw[show n+(q-n%fo.cb.length)=q+fo.cb.length*(n/fo.cb.length) by omega,Nat.add_mul_mod_self_left,yw hq]
   ·refine⟨q+fo.cb.length-n%fo.cb.length,by omega,by omega,?_⟩;rw[show n+(q+fo.cb.length-n%fo.cb.length)=q+fo.cb.length*(n/fo.cb.length+1) by rw[J7];omega,Nat.add_mul_mod_self_left,yw hq]
  have:=h4 i i1 i2;rw[i3,hqs] at this;cases this
theorem FI.phi_busy (h:FI fo ls){M:Nat}(hM:z2c fo.cb<=M)(hb:0<z2c fo.cb):0<Phi fo ls (z2o fo M):=by
 obtain⟨p,hp,hk⟩:=busyN_pos hb;obtain⟨q,hq,_,hqs⟩:=h.can hp hk;obtain⟨ls',_,g⟩:=h.step hqs hM;omega
theorem FI.turn_end (h:FI fo ls){M:Nat}(hM:z2c fo.cb<=M)(ht:Turn fo ls (z2o fo M) 0):z2c fo.cb=0:=by
 obtain⟨c,h1,h2,_⟩:=ht;refine QH fun hb=> ?_;have:=h.phi_busy hM (by omega);have:=qQ fo.cb.length this;omega
theorem stepsN_keeps (h:FI fo ls)(p:Int)(M:Nat):z2o (z21 fo p) M=z2o fo M:=by rw[z2o,z2o,(z2v h p).1]
theorem busyN_step (h:FI fo ls)(p:Int):z2c (z21 fo p).cb<=z2c fo.cb:=by
 unfold z21;rw[h.vf];simp only[Qp,qw,Qo]
 split
 ·rename_i hs;have hs:=hs;unfold z3w at hs;rw[h.vf,qV,qh,qh,inC_iff,qU] at hs;obtain⟨⟨⟨p0,pl⟩,hk⟩,hs⟩:=hs;have hp:p.toNat<fo.cb.length:=by omega
  have set_le:∀c:Cb,z2c (fo.cb.set p.toNat c)<=z2c fo.cb:=fun c=>by
   unfold z2c;rw[qD];refine sumR_le fun i hi=> ?_;rw[cbA_set hp]
   split
   ·rename_i e;subst e;rw[qU.2 hk];exact Bool.toNat_le _
   ·exact qc _
  split
  ·split
   ·exact set_le _
   ·exact set_le _
  ·exact qc _
 ·exact qc _
end
end
section
section
variable {fo:Fo} {ls:Nat->List Int}
end
end
section
theorem newF_len4 (ns:List Nd)(dn:List Int)(m:Nat)(ht:Int):(z3x ns dn m ht).ns=ns/\(z3x ns dn m ht).ht=ht/\(z3x ns dn m ht).cb=List.replicate m noCb/\(z3x ns dn m ht).cb.length=m:=⟨rfl,rfl,rfl,Qr⟩
theorem FI.bnd {fo:Fo}{ls:Nat->List Int}(h:FI fo ls):∃B:Nat,boundF fo=B/\Phi fo ls (z2o fo (z2c fo.cb))<=B/\B<=1000000:=by
 have h0:=h.sh.h0;have h16:=h.sh.h16;have h8:=h.sh.m8;have h64:=h.sh.few;have hb:z2c fo.cb<=fo.cb.length:=bsyN_le _ _;have hB:=jx (jx (show z2c fo.cb<=8 by omega) (show fo.ht.toNat+1<=17 by omega)) (Nat.add_le_add_right (jx (show z2c fo.cb+1<=9 by omega) (show fo.ns.length+7<=71 by omega)) 7);refine⟨_,?_,h.bound,qT hB (by decide)⟩;obtain⟨t,ht⟩:∃t:Nat,fo.ht=t:=⟨fo.ht.toNat,by omega⟩;rw[boundF,z2o,ht,qz]
 push_cast
 rfl
theorem hasI_ct (l:List Int)(v:Int):hasI l v=l.contains v:=by
 rw[Qe,jV]
 constructor
 ·intro h;refine QH fun g=> ?_
  have:hasI l v=false:=z1y fun i hi=>by
   rw[qg,z2n hi];intro e;exact g (e ▸ qN hi)
  rw[this] at h;cases h
 ·intro h;obtain⟨i,hi,e⟩:=Qg h;exact z3p hi (by rw[z2n hi,e];exact qL rfl)
theorem hasI_pres {fo:Fo}{ls:Nat->List Int}(h:FI fo ls){x:Nd}(hx:x∈fo.ns):hasI (z1n fo 0) x.id= !z4c fo.ly x.id 0:=by
 have h0:=h.sh.h0;rw[hasI_ct,<-memF_gone h.sh hx (jC 0) h0,Qe,jV,presF_mem];exact⟨fun⟨_,_,_,_,g⟩=>g,fun g=>⟨⟨jC 0,h0⟩,x,hx,rfl,g⟩⟩
theorem busyN_rep (m:Nat):z2c (List.replicate m noCb)=0:=by
 rw[z2c,sumR_congr (f:=fun _=>0),sumR_zero];intro i _
 have:cbA (List.replicate m noCb) i=noCb:=by
  simp only[cbA,qt,jJ]
  split<;>rfl
 rw[this];rfl
end
section
open JnNm (oxE gxE exE)
open D0 (sdE)
theorem busyC_spec (C:List Cb)(n k m:Nat)(hm:C.length=m)(hx:m<=1000000)(ht:Int):
  zf prog 36 [.agg [.slc false 0 0 0 n,.int .i64 ht,.slc false 1 0 0 k,.slc false 3 0 0 m]] ⟨4,[(3,uQ (.row ⟨false,false,58,3,m,cbs C⟩))]⟩
   (fun s H1=>s= .int .i64 (z2c C:Nat)/\H1=⟨4,[]⟩):=by
 subst hm;refine zf.ofC false 22 [.tmp 2] func36 rfl rfl ntmps36 results36 rfl ?_;intro w0 own0 β0 Q hQ hQn;simp only[z1c];refine Zrs [1] ?_;refine Zrs [1,3] ?_;refine z6 ?_;refine Zrs [1,3,4] ?_;refine zb fun Q0 hN0 hX0 hR0 hE0=> ?_;refine zn (σ:=Nat) (fun i=>i<=C.length) (fun i=>C.length-i) (fun i=>[(1,.ptr 4 0 0 0),(3,.int .i64 (bsyN C i)),(4,.int .i64 i)]) (fun _=>⟨5,[(4,uQ (.row ⟨true,true,34,4,1,fun _=>[.slc false 0 0 0 n,.int .i64 ht,.slc false 1 0 0 k,.slc false 3 0 0 C.length]⟩)),(3,uQ (.row ⟨false,false,58,3,C.length,cbs C⟩))]⟩) 0 (qo _) (ρ:=id) (have xE:=aj @bsyN.eq_1 (aj @sumR.eq_1 @sumR.eq_2);Zgx id) ?_;rintro i hi QL1 hL1 hRL1 hEL1;refine z6 ?_;refine Zrs [1,3,4,9] ?_;refine z7 _ rfl ?_ ?_
 ·intro h9;replace h9:=Znb h9;have hbl:=bsyN_le C i;refine za (z6 (zb fun Q1 hN1 hX1 hR1 hE1=> ?_));refine Zrs [1,3,4,18] ?_;refine z7 _ rfl ?_ ?_
  ·intro h18;have e1:bsyN C (i+1)=bsyN C i+1:=by rw[bsyN,sumR,h18];rfl
   refine Zrg [1,3,4] ?_;refine zd (hN1 _ _ ?_);refine Zrg [1,3,4] ?_;refine zd (hL1 _ _ ?_);rw[show(i:Int)+1=((i+1:Nat):Int) from by omega,show(bsyN C i:Int)+1=((bsyN C (i+1):Nat):Int) from by omega];exact⟨i+1,⟨by omega,by omega⟩,id,(Zg id)⟩
  ·intro h18;have e1:bsyN C (i+1)=bsyN C i:=by rw[bsyN,sumR,h18];rfl
   refine za (zd (hN1 _ _ ?_));refine Zrg [1,3,4] ?_;refine zd (hL1 _ _ ?_);rw[show(i:Int)+1=((i+1:Nat):Int) from by omega,<-e1];exact⟨i+1,⟨by omega,by omega⟩,id,(Zg id)⟩
 ·intro h9;replace h9:=Znb h9;have hie:i=C.length:=by omega
  subst hie;refine zm (hEL1 _ _ _ (hX0 _ _ ?_));refine Zrs [2] ?_;refine ze (hQ _ _ ?_);refine zc (H':=⟨4,[]⟩) (.inl rfl) ?_;refine Zou ?_;refine⟨Zs,(Zg id),Zs,?_⟩;exact⟨rfl,by trivial⟩
end
section
def updW (E:Int->Bool)(W:List Cb):Int->Bool:=W.foldl (fun E c v=>if v=c.node then c.kind==1 else E v) E
theorem updW_nil (E:Int->Bool):updW E []=E:=rfl
theorem updW_snoc (E:Int->Bool)(W:List Cb)(c:Cb):updW E (W++[c])=fun v=>if v=c.node then c.kind==1 else updW E W v:=by
 rw[updW,List.foldl_append];rfl
def Chn (E:Int->Bool)(W:List Cb):Prop:=∀k,k<W.length->((cbA W k).kind=1\/(cbA W k).kind=2)/\updW E (W.take k) (cbA W k).node=((cbA W k).kind==2)
theorem updW_take {E:Int->Bool}{W:List Cb}{k:Nat}(h:k<W.length):updW E (W.take (k+1))=fun v=>if v=(cbA W k).node then(cbA W k).kind==1 else updW E (W.take k) v:=by
 rw[cbA_lt h,QU h,updW_snoc]
theorem Chn.snoc {E:Int->Bool}{W:List Cb}(h:Chn E W){c:Cb}(hk:c.kind=1\/c.kind=2)(hc:updW E W c.node=(c.kind==2)):Chn E (W++[c]):=fun k hl=>by
 rw[Qn,QC] at hl
 by_cases e:k<W.length
 ·have:=h k e;rw[cbA_lt (by simp;omega),JA e,<-cbA_lt e,Jf (Nat.le_of_lt e)];exact this
 ·have e:k=W.length:=by omega
  subst e;rw[cbA_lt (by simp),List.getElem_append_right (qc _),List.take_left];simpa using⟨hk,hc⟩
theorem Chn.ne {E:Int->Bool}{W:List Cb}(h:Chn E W){k:Nat}(hk:k<W.length):(updW E (W.take k) (cbA W k).node==((cbA W k).kind==1))=false:=by
 obtain⟨h1,h2⟩:=h k hk;rw[h2];rcases h1 with e|e<;>rw[e]<;>rfl
theorem FI.turn_bnd {fo:Fo}{ls:Nat->List Int}(h:FI fo ls){B:Nat}(hP:Phi fo ls (z2o fo (z2c fo.cb))<=B):Turn fo ls (z2o fo (z2c fo.cb)) (B*fo.cb.length):=
 ⟨0,qQ _ hP,h.sh.m1,fun i h4 h5=>by omega⟩
theorem FI.ex_any {fo:Fo}{ls:Nat->List Int}{E:Int->Bool}(h:FI fo ls)(p:Int)(hx:Ex fo E):Ex (z21 fo p) E:=by
 cases hs:z3w fo p with
 |true=>exact h.ex_step hs hx
 |false=>rw[stepFR_not h hs];exact hx
structure Way (f g:Fo) (lu:Nat->List Int) (E:Int->Bool) (n:Nat):Prop where
 fi:FI g lu
 ns:g.ns=f.ns
 ht:g.ht=f.ht
 cl:g.cb.length=f.cb.length
 ex:Ex g E
 tn:∃M,z2c g.cb<=M/\Turn g lu (z2o g M) n
theorem Way.begin {f:Fo}{ls:Nat->List Int}{E:Int->Bool}(h:FI f ls)(hx:Ex f E){B:Nat}(hP:Phi f ls (z2o f (z2c f.cb))<=B):Way f f ls E (B*f.cb.length):=
 ⟨h,rfl,rfl,rfl,hx,_,qc _,h.turn_bnd hP⟩
theorem Way.step {f g:Fo}{lu:Nat->List Int}{E:Int->Bool}{n:Nat}(a:Way f g lu E (n+1))(hb:0<z2c g.cb):∃lw,Way f (z21 g (((n+1)%g.cb.length:Nat):Int)) lw E n:=by
 obtain⟨M,hM,hT⟩:=a.tn;obtain⟨lw,hF,hT2⟩:=a.fi.turn_step hM hb hT;obtain⟨k1,k2,k3,k4⟩:=z2v a.fi (((n+1)%g.cb.length:Nat):Int);exact⟨lw,hF,k1.trans a.ns,k2.trans a.ht,k3.trans a.cl,a.fi.ex_any _ a.ex,M,qT (busyN_step a.fi _) hM,by rw[stepsN_keeps a.fi];exact hT2⟩
theorem Way.zero {f g:Fo}{lu:Nat->List Int}{E:Int->Bool}(a:Way f g lu E 0):z2c g.cb=0:=by
 obtain⟨M,hM,hT⟩:=a.tn;exact a.fi.turn_end hM hT
theorem Way.fin {f g:Fo}{lu:Nat->List Int}{E:Int->Bool}{n:Nat}(a:Way f g lu E n)(hb:z2c g.cb=0){x:Nd}(hx:x∈g.ns):hasI (z1n g 0) x.id=E x.id:=by
 rw[hasI_pres a.fi hx,a.ex.idle (busyN_zero hb) hx,jB]
theorem FI.ex_first {fo:Fo}{ls:Nat->List Int}(h:FI fo ls)(hb:z2c fo.cb=0){E:Int->Bool}(hE:∀v,E v=hasI (z1n fo 0) v):Ex fo E:=
 Ex.of (busyN_zero hb) fun x hx=>by rw[hE,hasI_pres h hx,jB]
theorem hasI_snoc (l:List Int){i:Nat}(hi:i<l.length)(v:Int):hasI (l.take (i+1)) v=if v=nth l i then true else hasI (l.take i) v:=by
 rw[hasI_ct,hasI_ct,QU hi,z2n hi,Qe]
 split
 ·rename_i e;simp only[jV,Qf,qY,e,or_true]
 ·rename_i e;simp only[jV,Qf,qY,e,Je]
theorem hasI_nil (v:Int):hasI [] v=false:=by rw[hasI_ct];rfl
theorem boolF {E:Int->Bool}{a:Int}{b:Bool}:(fun x=>if x=a then SV.bool b else SV.bool (E x))=fun x=>SV.bool (if x=a then b else E x):=by
 funext x;split<;>rfl
theorem rowsOf_cb (a b c:Int):z42 3 1 [SV.int .i64 a,SV.int .i64 b,SV.int .i64 c]=cbs [⟨a,b,c⟩]:=by
 funext i
 cases i with
 |zero=>rfl
 |succ i=>rfl
theorem app_cbs1 (W:List Cb)(a b c:Int):app (cbs W) W.length (z42 3 1 [SV.int .i64 a,SV.int .i64 b,SV.int .i64 c])=cbs (W++[⟨a,b,c⟩]):=by
 rw[rowsOf_cb]
 funext i
 simp only[app,cbs,cbA,qt]
 split
 ·rename_i h;rw[Qv h]
 ·rename_i h;rw[QI (by omega)]
end
end Go.Proofs
namespace Go.Sk
open Go.RowKit
section
variable {X:Cx} {Q:Exit->Fr->AH->Prop} {fr:Fr} {H:AH} {l:List Code}
theorem Cs.tell {c:Code}(id:Nat){o o':Obj}(hf:find H.os id=some (1,fun _=>o))(hg:o≠ .gone)(hg':o'≠ .gone)(ho:o'.own=o.own)(hh:∀β w q,o.holds β w q->o'.holds β w q)(hlt:o'.lt H.nxt)
  (h:Cs X (c::l) Q fr ⟨H.nxt,setO H.os id 0 o'⟩):Cs X (c::l) Q fr H:=fun β a w hF hS=>by
 refine h β a w hF ?_;have hl0:look H.os id 0=some o:=(z10 hf qm).trans (Obj.opt_of hg)
 have hlk:∀id' k',look (setO H.os id 0 o') id' k'=if id'=id/\k'=0 then some o' else look H.os id' k':=fun id' k'=>by
  rw[z32 _ _ _ _ _ hl0,Obj.opt_of hg']
 have hcp:∀{id' k' u},look (setO H.os id 0 o') id' k'=some u->∃u0,look H.os id' k'=some u0/\u0.own=u.own:=fun {id' k' u} hg=>by
  rw[hlk] at hg
  split at hg
  ·rename_i e;obtain⟨rfl,rfl⟩:=e;cases hg;exact⟨_,hl0,ho.symm⟩
  ·exact⟨u,hg,rfl⟩
 have hpc:∀{id' k' u},look H.os id' k'=some u->∃u0,look (setO H.os id 0 o') id' k'=some u0/\u0.own=u.own:=fun {id' k' u} h=>by
  by_cases e:id'=id/\k'=0
  ·obtain⟨rfl,rfl⟩:=e;rw[hl0] at h;cases h
   exact⟨o',by rw[hlk];simp,ho⟩
  ·exact⟨u,by rw[hlk,qb e];exact h,rfl⟩
 refine⟨hS.os,hS.tape,hS.output,hS.size,hS.fix,fun id' k' u hg=> ?_,fun id1 k1 id2 k2 u1 u2 L1 L2 g1 g2 go e1 e2 e3=> ?_,fun b hb hn=> ?_,fun id' k' u L h ho hb=> ?_,fun id' k' ho=> ?_,hS.m0,fun id' k' u hg=> ?_,hS.tabs,hS.drawn⟩
 ·rw[hlk] at hg
  split at hg
  ·rename_i e;obtain⟨rfl,rfl⟩:=e;cases hg
   exact hh _ _ _ (hS.holds _ _ _ hl0)
  ·exact hS.holds _ _ _ hg
 ·obtain⟨v1,p1,o1⟩:=hcp g1;obtain⟨v2,p2,_⟩:=hcp g2;exact hS.sep _ _ _ _ _ _ _ _ p1 p2 (o1.trans go) e1 e2 e3
 ·refine hS.old b hb fun id' k' u L h ho hbb=> ?_;obtain⟨u0,p,o⟩:=hpc h;exact hn id' k' u0 L p (o.trans ho) hbb
 ·obtain⟨u0,p,o⟩:=hcp h;exact hS.mine _ _ _ _ p (o.trans ho) hb
 ·obtain⟨h0,u,p,o⟩:=hS.keep id' k' ho;obtain⟨u0,p0,o0⟩:=hpc p;exact⟨h0,u0,p0,o0.trans o⟩
 ·rw[hlk] at hg
  split at hg
  ·rename_i e;obtain⟨rfl,rfl⟩:=e;cases hg
   exact⟨(hS.lt _ _ _ hl0).1,hlt⟩
  ·exact hS.lt _ _ _ hg
theorem Cs.mapB {c:Code}(id:Nat)(hf:find H.os id=some (1,fun _=> .blk true (.ints [])))
  (h:Cs X (c::l) Q fr ⟨H.nxt,setO H.os id 0 (.mapo true (.ints 0 (fun _=>false) (fun _=> .bool false) (.bool false)))⟩):Cs X (c::l) Q fr H:=by
 refine Cs.tell (o':= .mapo true (.ints 0 (fun _=>false) (fun _=> .bool false) (.bool false))) id hf Obj.noConfusion Obj.noConfusion rfl (fun β w q hq=> ?_) ⟨trivial,fun v=> ?_⟩ h
 ·obtain⟨L,b,e1,e2,es,clk,e3,e4,_⟩:=hq;have hn:es.toList=[]:=List.map_eq_nil_iff.1 e4;refine⟨L,b,e1,e2,es,clk,e3,by rw[<-QV,hn];rfl,by rw[hn];exact JD,fun k=> ?_,(fun e he=>by rw[hn] at he;cases he),fun k _ v hv=> ?_⟩
  ·simp only[z2y.has,hn];split<;>simp
  ·simp only[z2y.val];split<;>exact hv
 ·simp only[z2y.val];split<;>trivial
end
end Go.Sk
namespace Go.Proofs
open Tryz
open Go.Sk
theorem Tryz.tyMapB:z1s prog 56=⟨true,.map 3 4,1,8,[]⟩:=by kernel_rfl
theorem Tryz.zsBool:zeroS prog 4=some (.bool false):=by kernel_rfl
def JpGm.exE:=aj9 @z1b @zg @zh @zq @zk @z14 @z1a ec2 (aj9 @zi @zy @zo @zl z5u @zp z47 z4n (aj9 @zz ec3 ec5 @z19.eq_1 @z12.eq_1 @ints.eq_1 ec34 ec35 (aj6 ec36 ec0 @zw.eq_1 @z1f @Tryz.tyMapB @Tryz.zsBool)))
def JpGm.gxE:=aj9 @z1b z47 ec16 z4n ec3 ec7 ec8 @z19.eq_1 (aj9 @z12.eq_1 @z1x @z1u ec37 ec26 ec29 @zw.eq_1 @mapGives.eq_1 @mapo_lt)
def JpGm.axE:=aj9 @z1b @zg @zh @zq @zk @z14 @z1a ec2 (aj9 @zi @zy @zo @zl z5u @zp z47 z4n (aj9 @zz ec3 ec5 @z19.eq_1 @z12.eq_1 ec34 ec35 ec0 (aj9 @zw.eq_1 @z1f @Tryz.tyMapB @Tryz.zsBool @z1v @z2e @z2t @z34 (aj ec38 @z3z))))
open JpGm (gxE axE exE)
open JnNm (oxE)
open D0 (sdE)
theorem presentF_spec (ls:List Int)(hx:ls.length<=9223372036854775807):
  zf prog 7 [.slc false 0 0 0 ls.length] ⟨1,[(0,z19 ls)]⟩ (fun s _=>s= .bool true):=by
 refine zf.ofC false 169 [.tmp 2] func7 rfl rfl ntmps7 results7 rfl ?_;intro w0 own0 β0 Q hQ hQn;simp only[z1c];refine Zrs [0] ?_;refine sg [3] rfl ?_;intro K hK;refine Zo Zl ?_;refine Zo Zl ?_;refine Zca (new_spec ls hx) (id) ?_;rintro s0 H0 ⟨mm,hm,rfl,rfl⟩ s1 H1 hs1 hH1;obtain⟨hs2,hH2⟩:=Zaf hs1 hH1;clear hs1 hH1;subst hs2 hH2;repeat(with_reducible apply qe;exact sdE)
 refine Zo Zl ?_;refine z8 (Zpr (hK _ _ ?_));clear hK K;refine sg [3,4,5] rfl ?_;intro K hK;refine Zo Zl ?_;refine Zo Zl ?_;refine Zca (made_spec ls mm 0 hx hm (qo _)) (fun q=>if q=0 then 1 else 0) ?_;rintro s0 H0 ⟨ns,dn,m,ht,at1,⟨hmk,ha1⟩,rfl,rfl⟩ s1 H1 hs1 hH1;obtain⟨hs2,hH2⟩:=Zaf hs1 hH1;clear hs1 hH1;subst hs2 hH2;repeat(with_reducible apply qe;exact sdE)
 have hF0:=FI_new hmk dn;obtain⟨n1,n2,n3,n4⟩:=newF_len4 ns dn m ht;obtain⟨fo,hfo⟩:∃fo,z3x ns dn m ht=fo:=⟨_,rfl⟩;obtain⟨lv0,hlv⟩:∃lv0:Nat->List Int,(fun i=>ordN (keyL (shA (z36 ns ht.toNat) i).2) (innL dn (shA (z36 ns ht.toNat) i).2) (shA (z36 ns ht.toNat) i).2.length)=lv0:=⟨_,rfl⟩;rw[hlv] at hF0;rw[hfo] at hF0 n1 n2 n3 n4 ⊢;have hid0:z2c fo.cb=0:=by rw[n3];exact busyN_rep m
 rw[<-n3,<-n4,<-n2,<-n1];have f64:=hF0.sh.few;have hpl0:=presF_len fo 0;iterate 6 (refine Zo Zl ?_)
 refine z8 (Zpr (hK _ _ ?_));clear hK K;refine z6 ?_;refine Zrs [3,4,28] ?_;refine z7 _ rfl ?_ ?_
 ·intro h28
  exfalso;cases h28
 ·intro h28
  refine za ?_;refine Zrs [3,4,6] ?_;refine z6 ?_;refine Cs.mapB 7 rfl ?_;dsimp only[setO];refine z4p [3,4,6,7] rfl ?_;intro K hK;refine Zo Zl ?_;refine Zo Zl ?_;refine Zc1 (z4x fo lv0 hF0 fo.ns.length fo.ly.length fo.cb.length 0 rfl rfl rfl) (fun q=>q+2) ?_;refine Zo Zl ?_;refine z8 (Zpr (hK _ _ ?_));clear hK K;refine z6 ?_;refine Zrs [3,4,6,7,8] ?_;refine zb fun Q0 hN0 hX0 hR0 hE0=> ?_;refine zn (σ:=Nat×(Int->Bool)×Nat×(Int->Bool)) (fun σ=>σ.1<=(z1n fo 0).length/\∀v,σ.2.1 v=hasI ((z1n fo 0).take σ.1) v) (fun σ=>(z1n fo 0).length-σ.1) (fun σ=>[(3,.ptr 1 0 0 0),(4,.ptr 6 0 0 0),(6,.mp 7 0),(7,.slc true 8 0 0 (z1n fo 0).length),(8,.int .i64 σ.1)]) (fun σ=>⟨9,[(8,uQ (.row ⟨true,false,3,1,(z1n fo 0).length,ints (z1n fo 0)⟩)),(7,uQ (.mapo true (.ints σ.2.2.1 σ.2.2.2 (fun v=> .bool (σ.2.1 v)) (.bool false)))),(1,zw 0 mm at1),(6,uQ (.row ⟨true,true,34,4,1,fun _=>[.slc true 2 0 0 fo.ns.length,.int .i64 fo.ht,.slc true 3 0 0 fo.ly.length,.slc true 5 0 0 fo.cb.length]⟩)),(2,uQ (.row ⟨false,false,62,3,fo.ns.length,nds fo.ns⟩)),(3,uQ (.row ⟨false,false,89,5,fo.ly.length,lyR 4 fo.ly⟩)),(4,(3*fo.ly.length+1,fam false 3 1 (lyF false fo.ly))),(5,uQ (.row ⟨false,false,58,3,fo.cb.length,cbs fo.cb⟩)),(0,z19 ls)]⟩) (0,fun _=>false,0,fun _=>false) ⟨qo _,fun v=>(hasI_nil v).symm⟩ (ρ:=id) (Zg id) ?_;rintro⟨j,E,n,has⟩ hj QL1 hL1 hRL1 hEL1
  obtain⟨hj1,hj2⟩:=hj;dsimp only at hj1 hj2;refine z6 ?_;refine Zrs [3,4,6,7,8,35] ?_;refine z7 _ rfl ?_ ?_
  ·intro h35;replace h35:=Znb h35;have hjl:j<(z1n fo 0).length:=by omega
   refine za (z6 (zb fun Q1 hN1 hX1 hR1 hE1=> ?_));refine Zrg [3,4,6,7,8] ?_;refine zd (hN1 _ _ ?_);refine Zrg [3,4,6,7,8] ?_;refine zd (hL1 _ _ ?_);rw[show(j:Int)+1=((j+1:Nat):Int) from by omega]
   try rw[boolF]
   exact⟨(j+1,fun x=>if x=nth (z1n fo 0) j then true else E x,if has (nth (z1n fo 0) j) then n else n+1,fun x=>x==nth (z1n fo 0) j||has x),⟨⟨by dsimp only;omega,fun v=>by dsimp only;rw[hasI_snoc _ hjl,hj2]⟩,by dsimp only;omega⟩,id,(Zg id)⟩
  ·intro h35;replace h35:=Znb h35;have hjl:j=(z1n fo 0).length:=by omega
   subst hjl;have hE:∀v,E v=hasI (z1n fo 0) v:=fun v=>by rw[hj2,QZ]
   refine zm (hEL1 _ _ _ (hX0 _ _ (z6 ?_)));refine Zrs [3,4,6,9] ?_;refine zb fun Q2 hN2 hX2 hR2 hE2=> ?_;refine zn (σ:=Fo×(Nat->List Int)×Nat×Nat×(Int->Bool)×Nat×(Int->Bool)) (fun σ=>(FI σ.1 σ.2.1/\σ.2.2.1<=mm/\σ.2.2.2.1<=6)/\z2c σ.1.cb=0/\Ex σ.1 σ.2.2.2.2.1) (fun σ=>6-σ.2.2.2.1) (fun σ=>[(3,.ptr 1 0 0 0),(4,.ptr 6 0 0 0),(6,.mp 7 0),(9,.int .i64 σ.2.2.2.1)]) (fun σ=>⟨8,[(7,uQ (.mapo true (.ints σ.2.2.2.2.2.1 σ.2.2.2.2.2.2 (fun v=> .bool (σ.2.2.2.2.1 v)) (.bool false)))),(1,zw 0 mm σ.2.2.1),(6,uQ (.row ⟨true,true,34,4,1,fun _=>[.slc true 2 0 0 σ.1.ns.length,.int .i64 σ.1.ht,.slc true 3 0 0 σ.1.ly.length,.slc true 5 0 0 σ.1.cb.length]⟩)),(2,uQ (.row ⟨false,false,62,3,σ.1.ns.length,nds σ.1.ns⟩)),(3,uQ (.row ⟨false,false,89,5,σ.1.ly.length,lyR 4 σ.1.ly⟩)),(4,(3*σ.1.ly.length+1,fam false 3 1 (lyF false σ.1.ly))),(5,uQ (.row ⟨false,false,58,3,σ.1.cb.length,cbs σ.1.cb⟩)),(0,z19 ls)]⟩) (fo,lv0,at1,0,E,n,has) ⟨⟨hF0,ha1,qo _⟩,hid0,hF0.ex_first hid0 hE⟩ (ρ:=id) (Zg id) ?_;rintro⟨f,lw,at2,i,E,n,has⟩ hi QL2 hL2 hRL2 hEL2;obtain⟨⟨hI,hi3,hi4⟩,hi5,hi6⟩:=hi;dsimp only at hI hi3 hi4 hi5 hi6;refine z6 ?_;refine Zrs [3,4,6,9,44] ?_;refine z7 _ rfl ?_ ?_
   ·intro h44;replace h44:=Znb h44;refine za (z6 (zb fun Q3 hN3 hX3 hR3 hE3=> ?_));refine Zrs [3,4,6,9,10] ?_;refine z6 ?_;refine Zrs [3,4,6,9,10,11] ?_;refine z29 10 58 3 (cbs []) rfl ?_;dsimp only;refine zb fun Q4 hN4 hX4 hR4 hE4=> ?_;refine zn (σ:=Fo×Nat×List Cb×Nat) (fun σ=>(FI σ.1 lw/\σ.2.1<=mm/\σ.2.2.2<=f.cb.length/\σ.1.cb.length=f.cb.length)/\Ex σ.1 (updW E σ.2.2.1)/\Chn E σ.2.2.1/\σ.2.2.1.length<=σ.2.2.2) (fun σ=>f.cb.length-σ.2.2.2) (fun σ=>[(3,.ptr 1 0 0 0),(4,.ptr 6 0 0 0),(6,.mp 7 0),(9,.int .i64 i),(10,.slc true 8 0 0 σ.2.2.1.length),(11,.int .i64 σ.2.2.2)]) (fun σ=>⟨9,[(8,uQ (.row ⟨true,false,58,3,σ.2.2.1.length,cbs σ.2.2.1⟩)),(7,uQ (.mapo true (.ints n has (fun v=> .bool (E v)) (.bool false)))),(1,zw 0 mm σ.2.1),(6,uQ (.row ⟨true,true,34,4,1,fun _=>[.slc true 2 0 0 σ.1.ns.length,.int .i64 σ.1.ht,.slc true 3 0 0 σ.1.ly.length,.slc true 5 0 0 σ.1.cb.length]⟩)),(2,uQ (.row ⟨false,false,62,3,σ.1.ns.length,nds σ.1.ns⟩)),(3,uQ (.row ⟨false,false,89,5,σ.1.ly.length,lyR 4 σ.1.ly⟩)),(4,(3*σ.1.ly.length+1,fam false 3 1 (lyF false σ.1.ly))),(5,uQ (.row ⟨false,false,58,3,σ.1.cb.length,cbs σ.1.cb⟩)),(0,z19 ls)]⟩) (f,at2,[],0) ⟨⟨hI,hi3,qo _,rfl⟩,hi6,fun k hk=>absurd hk (qR _),qc _⟩ (ρ:=id) (Zg id) ?_;rintro⟨g,at3,W,q⟩ hj QL3 hL3 hRL3 hEL3;obtain⟨⟨hJ,hj3,hj4,hj5⟩,hj6,hj7,hj8⟩:=hj
    dsimp only at hJ hj3 hj4 hj5 hj6 hj7 hj8;have g64:=hJ.sh.few;have g8:=hJ.sh.m8;have g1:=hJ.sh.m1;refine z6 ?_;refine Zrs [3,4,6,9,10,11,51] ?_;refine z7 _ rfl ?_ ?_
    ·intro h51;replace h51:=Znb h51;have hql:q<g.cb.length:=by omega
     refine za (z6 (zb fun Q5 hN5 hX5 hR5 hE5=> ?_));refine z6 ?_;refine Zrd [3,4,6,9,10,11,12,13] [0,3,4,5,1,2,6,7,8] [[],[1],[],[],[],[],[1],[],[]] [[],[1],[1],[1],[1],[1],[1],[1],[1]] ?_;intro K hK;refine Zo (Zi [] []) ?_;iterate 3 (refine Zo (Zi [] [1]) ?_)
     refine Zo (Zi [1] [1]) ?_;refine Zca (z20 ls mm at3 2 hx hm hj3 (by omega)) (fun q=>if q=0 then 1 else 0) ?_;rintro s0 H0 ⟨v,at4,d1,d2,d3,d4,rfl,rfl⟩ s1 H1 hs1 hH1;obtain⟨hs2,hH2⟩:=Zaf hs1 hH1;clear hs1 hH1;subst hs2 hH2;repeat(with_reducible apply qe;exact sdE)
     have d5:=d3 (by omega);refine Zo (Zi [] [1]) ?_;refine Zo (Zi [1] [1]) ?_;refine Zca (id_spec ls mm at4 hx hm d1 g.ns g.ns.length rfl (by omega)) (fun q=>if q=0 then 1 else if q=1 then 0 else q) ?_;rintro s0 H0 ⟨w,at5,c1,rfl,rfl⟩ s1 H1 hs1 hH1;obtain⟨hs2,hH2⟩:=Zaf hs1 hH1;clear hs1 hH1;subst hs2 hH2;repeat(with_reducible apply qe;exact sdE)
     iterate 2 (refine Zo (Zi [] [1]) ?_)
     refine zx (Zpr (hK _ _ ?_));clear hK K;refine sg [3,4,6,9,10,11,12,13,14,15] rfl ?_;intro K hK;iterate 4 (refine Zo Zl ?_)
     refine Zo Zl ?_;refine Zc1 (z4a g lw hJ g.ns.length g.ly.length g.cb.length q (1+v) w rfl rfl rfl) (fun z=>z+2) ?_;iterate 6 (refine Zo Zl ?_)
     refine z8 (Zpr (hK _ _ ?_));clear hK K;refine Zrs [3,4,6,9,10,11,12,13,14,70] ?_;refine z7 _ rfl ?_ ?_
     ·intro h70;have hse:z28 g q (1+v) w=0:=by simpa using h70
      refine Zrs [3,4,6,9,10,11,12,13] ?_;refine Zrg [3,4,6,9,10,11] ?_;refine zd (hN5 _ _ ?_);refine Zrg [3,4,6,9,10,11] ?_;refine zd (hL3 _ _ ?_);obtain⟨e1,e2⟩:=hJ.ex_start hse hj6;obtain⟨k1,k2,k3,k4⟩:=startFR_keeps hse;rw[show(q:Int)+1=((q+1:Nat):Int) from by omega];rw[app_cbs1,show W.length+1=(W++[(⟨1+v,w,0⟩:Cb)]).length from by simp];refine⟨((z15 g q (1+v) w),at5,W++[⟨1+v,w,0⟩],q+1),⟨⟨⟨hJ.start hse,c1,by dsimp only;omega,k3.trans hj5⟩,by dsimp only;rw[updW_snoc];exact e1,hj7.snoc (by dsimp only;omega) e2,by dsimp only;simp;omega⟩,by dsimp only;omega⟩,fun q=>if q=2 then 9 else if q=3 then 10 else if q=4 then 11 else if q=5 then 12 else if q=8 then 15 else q,?_⟩;exact(Zg (fun q=>if q=2 then 9 else if q=3 then 10 else if q=4 then 11 else if q=5 then 12 else if q=8 then 15 else q))
     ·intro h70
      refine za (zd (hN5 _ _ ?_));refine Zrg [3,4,6,9,10,11] ?_;refine zd (hL3 _ _ ?_);rw[show(q:Int)+1=((q+1:Nat):Int) from by omega];exact⟨(g,at5,W,q+1),⟨⟨⟨hJ,c1,by dsimp only;omega,hj5⟩,hj6,hj7,by dsimp only;omega⟩,by dsimp only;omega⟩,id,(Zg id)⟩
    ·intro h51;replace h51:=Znb h51;obtain⟨B,hB,hPhi,hBx⟩:=hJ.bnd;have hmx:max (g.cb.length:Int) 1=g.cb.length:=Int.max_eq_left (by omega);have hBm:B*g.cb.length<=8000000:=jx hBx g8;refine zm (hEL3 _ _ _ (hX4 _ _ (z6 (z6 ?_))));refine Zrd [3,4,6,9,10,16] [0,2,3,4,5,1,6,7] [[],[],[],[],[],[],[],[]] [[],[],[],[],[],[],[],[]] ?_;intro K hK;iterate 5 (refine Zo (Zi [] []) ?_)
     refine Zo (Zi [] []) ?_;refine Zc1 (Bound_spec g lw hJ g.ns.length g.ly.length g.cb.length rfl rfl rfl) (fun q=>q+2) ?_;rw[hB,hmx];have hB0:(0:Int)<=(B:Int)*(g.cb.length:Int):=Int.mul_nonneg (by omega) (by omega);have hB1:(B:Int)*(g.cb.length:Int)<=8000000:=by rw[<-Int.natCast_mul];omega
     iterate 2 (refine Zo (Zi [] []) ?_)
     refine zx (Zpr (hK _ _ ?_));clear hK K;refine zb fun Q6 hN6 hX6 hR6 hE6=> ?_;refine zn (σ:=Fo×(Nat->List Int)×Nat) (fun σ=>Way g σ.1 σ.2.1 (updW E W) σ.2.2/\σ.2.2<=B*g.cb.length) (fun σ=>σ.2.2) (fun σ=>[(3,.ptr 1 0 0 0),(4,.ptr 6 0 0 0),(6,.mp 7 0),(9,.int .i64 i),(10,.slc true 8 0 0 W.length),(16,.int .i64 σ.2.2)]) (fun σ=>⟨9,[(8,uQ (.row ⟨true,false,58,3,W.length,cbs W⟩)),(7,uQ (.mapo true (.ints n has (fun v=> .bool (E v)) (.bool false)))),(1,zw 0 mm at3),(6,uQ (.row ⟨true,true,34,4,1,fun _=>[.slc true 2 0 0 σ.1.ns.length,.int .i64 σ.1.ht,.slc true 3 0 0 σ.1.ly.length,.slc true 5 0 0 σ.1.cb.length]⟩)),(2,uQ (.row ⟨false,false,62,3,σ.1.ns.length,nds σ.1.ns⟩)),(3,uQ (.row ⟨false,false,89,5,σ.1.ly.length,lyR 4 σ.1.ly⟩)),(4,(3*σ.1.ly.length+1,fam false 3 1 (lyF false σ.1.ly))),(5,uQ (.row ⟨false,false,58,3,σ.1.cb.length,cbs σ.1.cb⟩)),(0,z19 ls)]⟩) (g,lw,B*g.cb.length) ⟨Way.begin hJ hj6 hPhi,qc _⟩ (ρ:=id) (Zg id) ?_;rintro⟨y,lu,r⟩ ha QL4 hL4 hRL4 hEL4;obtain⟨a,hrB⟩:=ha;dsimp only at a hrB;have y64:=a.fi.sh.few;have y8:=a.fi.sh.m8;have y1:=a.fi.sh.m1;have hpl:=presF_len y 0;refine z6 ?_;refine sg [3,4,6,9,10,16,91] rfl ?_;intro K hK
     have hk24:∀b:Bool,(b=true->0<r/\0<z2c y.cb)->(b=false->z2c y.cb=0)->K [(3,.ptr 1 0 0 0),(4,.ptr 6 0 0 0),(6,.mp 7 0),(9,.int .i64 i),(10,.slc true 8 0 0 W.length),(16,.int .i64 r),(91,.bool b)] ⟨9,[(8,uQ (.row ⟨true,false,58,3,W.length,cbs W⟩)),(7,uQ (.mapo true (.ints n has (fun v=> .bool (E v)) (.bool false)))),(1,zw 0 mm at3),(6,uQ (.row ⟨true,true,34,4,1,fun _=>[.slc true 2 0 0 y.ns.length,.int .i64 y.ht,.slc true 3 0 0 y.ly.length,.slc true 5 0 0 y.cb.length]⟩)),(2,uQ (.row ⟨false,false,62,3,y.ns.length,nds y.ns⟩)),(3,uQ (.row ⟨false,false,89,5,y.ly.length,lyR 4 y.ly⟩)),(4,(3*y.ly.length+1,fam false 3 1 (lyF false y.ly))),(5,uQ (.row ⟨false,false,58,3,y.cb.length,cbs y.cb⟩)),(0,z19 ls)]⟩:=by
      intro b hb1 hb2;refine hK _ _ ?_;clear hK K;refine z7 _ rfl ?_ ?_
      ·intro h91;obtain⟨hn1,hbz⟩:=hb1 h91;obtain⟨k,rfl⟩:∃k,r=k+1:=⟨r-1,by omega⟩;have hmy:max (y.cb.length:Int) 1=y.cb.length:=Int.max_eq_left (by omega);have hrm:Int.tmod ((k+1:Nat):Int) (y.cb.length:Int)=(((k+1)%y.cb.length:Nat):Int):=by rw[Jr (by omega)];rfl
       refine za (z6 (zb fun Q7 hN7 hX7 hR7 hE7=> ?_));refine Zrd [3,4,6,9,10,16] [0,1,2,3,4,5,6,7,8,9,10,11] [[],[],[],[],[],[],[],[],[],[],[],[6]] [[],[],[],[],[],[],[],[],[],[],[6],[6]] ?_;intro K hK;iterate 7 (refine Zo (Zi [] []) ?_)
       refine Zo (Zi [] []) ?_;rw[hmy,hrm];refine Zc1 (Step_spec y lu a.fi y.ns.length y.ly.length y.cb.length (((k+1)%y.cb.length:Nat):Int) rfl rfl rfl) (fun z=>z+2) ?_;iterate 2 (refine Zo (Zi [] []) ?_)
       refine Zo (Zi [] [6]) ?_;refine Zo (Zi [6] [6]) ?_;refine zx (Zpr (hK _ _ ?_));clear hK K;refine zd (hN7 _ _ ?_);refine Zrg [3,4,6,9,10,16] ?_;refine zd (hL4 _ _ ?_);obtain⟨lw2,a2⟩:=a.step hbz;obtain⟨k1,k2,k3,k4⟩:=z2v a.fi (((k+1)%y.cb.length:Nat):Int);rw[show((k+1:Nat):Int)-1=(k:Int) from by omega];refine⟨((z21 y (((k+1)%y.cb.length:Nat):Int)),lw2,k),⟨⟨a2,by dsimp only;omega⟩,by dsimp only;omega⟩,fun q=>if q=2 then 9 else if q=3 then 10 else if q=4 then 11 else if q=5 then 12 else q,?_⟩;dsimp only;rw[k1,k2,k3,k4];exact(Zg (fun q=>if q=2 then 9 else if q=3 then 10 else if q=4 then 11 else if q=5 then 12 else q))
      ·intro h91;have hb0:=hb2 h91;refine zm (hEL4 _ _ _ (hX6 _ _ (z6 ?_)));refine Zrs [3,4,6,9,10,17] ?_;refine zb fun Q8 hN8 hX8 hR8 hE8=> ?_;refine zn (σ:=Nat×Nat×(Int->Bool)) (fun σ=>σ.1<=W.length) (fun σ=>W.length-σ.1) (fun σ=>[(3,.ptr 1 0 0 0),(4,.ptr 6 0 0 0),(6,.mp 7 0),(9,.int .i64 i),(10,.slc true 8 0 0 W.length),(17,.int .i64 σ.1)]) (fun σ=>⟨9,[(8,uQ (.row ⟨true,false,58,3,W.length,cbs W⟩)),(7,uQ (.mapo true (.ints σ.2.1 σ.2.2 (fun v=> .bool (updW E (W.take σ.1) v)) (.bool false)))),(1,zw 0 mm at3),(6,uQ (.row ⟨true,true,34,4,1,fun _=>[.slc true 2 0 0 y.ns.length,.int .i64 y.ht,.slc true 3 0 0 y.ly.length,.slc true 5 0 0 y.cb.length]⟩)),(2,uQ (.row ⟨false,false,62,3,y.ns.length,nds y.ns⟩)),(3,uQ (.row ⟨false,false,89,5,y.ly.length,lyR 4 y.ly⟩)),(4,(3*y.ly.length+1,fam false 3 1 (lyF false y.ly))),(5,uQ (.row ⟨false,false,58,3,y.cb.length,cbs y.cb⟩)),(0,z19 ls)]⟩) (0,n,has) (qo _) (ρ:=id) (have xE:=@updW_nil;Zgx id) ?_;rintro⟨j,n2,has2⟩ hl QL5 hL5 hRL5 hEL5;dsimp only at hl;refine z6 ?_;refine Zrs [3,4,6,9,10,17,108] ?_;refine z7 _ rfl ?_ ?_
       ·intro h108;replace h108:=Znb h108;have hjl:j<W.length:=by omega
        refine za (z6 (zb fun Q9 hN9 hX9 hR9 hE9=> ?_));refine z6 (z6 ?_);refine Zrd [3,4,6,9,10,17,124] [0,1,2,3,4,5,7,8,9,10,11,12,6,13] [[],[],[],[],[],[],[],[],[],[],[],[],[],[]] [[],[],[],[],[],[],[],[],[],[],[],[],[],[]] ?_;intro K hK;iterate 14 (refine Zo (Zi [] []) ?_)
        refine zx (Zpr (hK _ _ ?_));clear hK K;refine z7 _ rfl ?_ ?_
        ·intro h124
         exfalso;have:=hj7.ne hjl;rw[this] at h124;cases h124
        ·intro h124
         refine za ?_;refine Zrd [3,4,6,9,10,17] [0,1,2,3,4,5,6,7,8,9,10,11,12] [[],[],[],[],[],[],[],[],[],[],[],[],[7]] [[],[],[],[],[],[],[],[],[],[],[],[],[7]] ?_;intro K hK;iterate 12 (refine Zo (Zi [] []) ?_)
         refine Zo (Zi [7] [7]) ?_;refine zx (Zpr (hK _ _ ?_));clear hK K;refine zd (hN9 _ _ ?_);refine Zrg [3,4,6,9,10,17] ?_;refine zd (hL5 _ _ ?_);rw[show(j:Int)+1=((j+1:Nat):Int) from by omega];have hup:(fun x=>if x=(cbA W j).node then SV.bool ((cbA W j).kind==1) else SV.bool (updW E (W.take j) x))=fun x=>SV.bool (updW E (W.take (j+1)) x):=by rw[updW_take hjl,boolF]
         rw[hup];exact⟨(j+1,if has2 (cbA W j).node then n2 else n2+1,fun x=>x==(cbA W j).node||has2 x),⟨by dsimp only;omega,by dsimp only;omega⟩,id,(Zg id)⟩
       ·intro h108;replace h108:=Znb h108;have hjl:j=W.length:=by omega
        subst hjl;rw[QZ];refine zm (hEL5 _ _ _ (hX8 _ _ ?_));refine sg [3,4,6,9,18] rfl ?_;intro K hK;refine Zo Zl ?_;refine Zo Zl ?_;refine Zc1 (z4x y lu a.fi y.ns.length y.ly.length y.cb.length 0 rfl rfl rfl) (fun q=>q+2) ?_;refine Zo Zl ?_;refine z8 (Zpr (hK _ _ ?_));clear hK K;refine Zrs [3,4,6,9,18,19] ?_;refine zb fun Q10 hN10 hX10 hR10 hE10=> ?_;refine zn (σ:=Nat) (fun j=>j<=y.ns.length) (fun j=>y.ns.length-j) (fun j=>[(3,.ptr 1 0 0 0),(4,.ptr 6 0 0 0),(6,.mp 7 0),(9,.int .i64 i),(18,.slc true 9 0 0 (z1n y 0).length),(19,.int .i64 j)]) (fun j=>⟨10,[(9,uQ (.row ⟨true,false,3,1,(z1n y 0).length,ints (z1n y 0)⟩)),(7,uQ (.mapo true (.ints n2 has2 (fun v=> .bool (updW E W v)) (.bool false)))),(1,zw 0 mm at3),(6,uQ (.row ⟨true,true,34,4,1,fun _=>[.slc true 2 0 0 y.ns.length,.int .i64 y.ht,.slc true 3 0 0 y.ly.length,.slc true 5 0 0 y.cb.length]⟩)),(2,uQ (.row ⟨false,false,62,3,y.ns.length,nds y.ns⟩)),(3,uQ (.row ⟨false,false,89,5,y.ly.length,lyR 4 y.ly⟩)),(4,(3*y.ly.length+1,fam false 3 1 (lyF false y.ly))),(5,uQ (.row ⟨false,false,58,3,y.cb.length,cbs y.cb⟩)),(0,z19 ls)]⟩) 0 (qo _) (ρ:=id) (Zg id) ?_;rintro j hl6 QL6 hL6 hRL6 hEL6;refine z6 ?_;refine Zrs [3,4,6,9,18,19,143] ?_;refine z7 _ rfl ?_ ?_
        ·intro h143;replace h143:=Znb h143;have hjl:j<y.ns.length:=by omega
         have hfin:=a.fin hb0 (nd_mem hjl);refine za (z6 (zb fun Q11 hN11 hX11 hR11 hE11=> ?_));refine z6 ?_;refine Zrt [3,4,6,9,18,19,162] (.op 0 (.op 1 (.op 2 (.op 3 (.op 4 (.op 5 (.op 6 (.op 8 (.op 9 (.op 10 (.op 11 (.op 12 (.op 13 (.op 14 (.two 7 15 (.op 15 (.op 16 .done)) (.op 7 (.op 16 .done))))))))))))))))) [[],[],[],[],[],[],[],[],[],[],[],[],[],[],[],[],[]] [[],[],[],[],[],[],[],[],[],[],[],[],[],[],[],[],[]] ?_;intro K hK hG
         have hk37:∀b:Bool,b=false->K [(3,.ptr 1 0 0 0),(4,.ptr 6 0 0 0),(6,.mp 7 0),(9,.int .i64 i),(18,.slc true 9 0 0 (z1n y 0).length),(19,.int .i64 j),(162,.bool b)] ⟨10,[(9,uQ (.row ⟨true,false,3,1,(z1n y 0).length,ints (z1n y 0)⟩)),(7,uQ (.mapo true (.ints n2 has2 (fun v=> .bool (updW E W v)) (.bool false)))),(1,zw 0 mm at3),(6,uQ (.row ⟨true,true,34,4,1,fun _=>[.slc true 2 0 0 y.ns.length,.int .i64 y.ht,.slc true 3 0 0 y.ly.length,.slc true 5 0 0 y.cb.length]⟩)),(2,uQ (.row ⟨false,false,62,3,y.ns.length,nds y.ns⟩)),(3,uQ (.row ⟨false,false,89,5,y.ly.length,lyR 4 y.ly⟩)),(4,(3*y.ly.length+1,fam false 3 1 (lyF false y.ly))),(5,uQ (.row ⟨false,false,58,3,y.cb.length,cbs y.cb⟩)),(0,z19 ls)]⟩:=by
          intro b hb;refine hK _ _ ?_;clear hG hK K;refine z7 _ rfl ?_ ?_
          ·intro h162
           exfalso;rw[hb] at h162;cases h162
          ·intro h162
           refine za (zd (hN11 _ _ ?_));refine Zrg [3,4,6,9,18,19] ?_;refine zd (hL6 _ _ ?_);rw[show(j:Int)+1=((j+1:Nat):Int) from by omega];exact⟨j+1,⟨by omega,by omega⟩,id,(Zg id)⟩
         refine Zo (ZT [] [] []) ?_;refine Zo (ZT [] [] []) ?_;refine Zo (ZT [] [] []) ?_;refine Zo (ZT [] [] []) ?_;refine Zo (ZT [] [] []) ?_;refine Zo (ZT [] [] []) ?_;refine Zo (ZT [] [] []) ?_;refine Zo (ZT [] [] []) ?_;refine Zo (ZT [] [] []) ?_;refine Zo (ZT [] [] []) ?_;refine Zo (ZT [] [] []) ?_;refine Zo (ZT [] [] []) ?_;refine Zo (ZT [] [] []) ?_;refine Zo (ZT [] [] []) ?_;refine z26 ?_ ?_
         ·skip
          refine Zo (ZT [] [] []) ?_;refine Zc1 (refHas_spec (z1n y 0) (nd y.ns j).id (z1n y 0).length rfl (by omega)) (fun _=>9) ?_;rw[hfin];refine Zo (ZT [] [] []) ?_;refine Zo (ZT [] [] []) ?_;refine z17 ?_;refine Zpr ?_;exact hG _ _ _ _ id (Zg id) (hk37 (updW E W (nd y.ns j).id !=updW E W (nd y.ns j).id) (by simp))
         ·skip
          refine Zo (ZT [] [] []) ?_;refine Zo (ZT [] [] []) ?_;refine Zc1 (refHas_spec (z1n y 0) (nd y.ns j).id (z1n y 0).length rfl (by omega)) (fun _=>9) ?_;rw[hfin];refine Zo (ZT [] [] []) ?_;refine z17 ?_;refine Zpr ?_;exact hG _ _ _ _ id (Zg id) (hk37 (updW E W (nd y.ns j).id !=updW E W (nd y.ns j).id) (by simp))
        ·intro h143
         refine zm (hEL6 _ _ _ (hX10 _ _ (zd (hN3 _ _ ?_))));refine Zrg [3,4,6,9] ?_;refine zd (hL2 _ _ ?_);rw[show(i:Int)+1=((i+1:Nat):Int) from by omega];exact⟨(y,lu,at3,i+1,updW E W,n2,has2),⟨⟨⟨a.fi,hj3,by dsimp only;omega⟩,hb0,a.ex⟩,by dsimp only;omega⟩,id,(Zg id)⟩
     iterate 4 (refine Zo Zl ?_)
     refine z11 ?_;refine z1w rfl rfl ?_;refine Zgr ?_
     first|refine z1r ?_ ?_|refine(fun(h1:false=true->_) (h2:false=false->_)=>qe h1 fun _=>h2 rfl) ?_ ?_|refine qe ?_ ?_
     ·intro hg4
      first
       |(simp at hg4;done)
       |skip
        try replace hg4:=Znb hg4
        refine Zo id ?_;refine Zc1 (busyC_spec y.cb y.ns.length y.ly.length y.cb.length rfl (by omega) y.ht) (fun q=>q+2) ?_;iterate 2 (refine Zo Zl ?_)
        refine z8 ?_;refine Zpr ?_;refine hk24 _ ?_ ?_
        ·intro hb;simp at hb hg4<;>omega
        ·intro hb;simp at hb hg4<;>omega
     ·intro hg4;refine⟨.int .i64 0,?_⟩
      first
       |(simp at hg4;done)
       |skip
        try replace hg4:=Znb hg4
        iterate 2 (refine Zo Zl ?_)
        refine z8 ?_;refine Zpr ?_;refine hk24 _ ?_ ?_
        ·intro hb;simp at hb hg4<;>omega
        ·intro hb;have hn0:r=0:=by simp at hg4;omega
         subst hn0;exact a.zero
   ·intro h44
    refine zm (hEL2 _ _ _ (hX2 _ _ ?_));refine sg [2] rfl ?_;intro K hK;refine Zo Zl ?_;refine Zo Zl ?_;refine Zc1 (busyC_spec f.cb f.ns.length f.ly.length f.cb.length rfl (by have:=hI.sh.m8;omega) f.ht) (fun q=>q+2) ?_;rw[hi5];iterate 2 (refine Zo Zl ?_)
    refine z11 ?_;refine z1w rfl rfl ?_;refine Zgr ?_;refine⟨fun _=> ?_,fun h=>(by cases h)⟩;refine Zo id ?_;refine Zc1 (sane13_spec) (id) ?_;iterate 2 (refine Zo Zl ?_)
    refine z8 (Zpr (hK _ _ ?_));clear hK K;refine ze (hQ _ _ ?_);refine zc (H':=⟨1,[]⟩) (.inl rfl) ?_;refine Zou ?_;refine⟨Zs,(Zg id),Zs,?_⟩
    all_goals first|trivial|rfl|exact⟨rfl,trivial⟩
end Go.Proofs
namespace Go.Proofs.YtpnefndionckaaaGreatDoor
open _root_.Go.Proofs.Tryz
open Go.ChangeShapes Go.WideShapes Go.RowKit Go.Sk Go.Proofs
theorem own:ownKnob Tryz.prog.godebug=none:=by kernel_rfl
theorem laid:laidOutB prog=true:=by kernel_rfl
theorem rowed:mapsRowed prog=true:=by kernel_rfl
theorem fullS:∀t e,t<Tryz.prog.types.size->Tryz.prog.underlying t=some (.slice e)->0<Tryz.prog.cellsOf e:=slices_full_of _ (by kernel_rfl)
theorem uInts:Tryz.prog.underlying 22=some (.slice 3):=by kernel_rfl
theorem uStr:Tryz.prog.underlying 9=some .string:=by kernel_rfl
theorem uBool:Tryz.prog.underlying 4=some .bool:=by kernel_rfl
theorem fInt:flatB prog 3 [.i .i64]=true:=by kernel_rfl
theorem gTab:Tryz.prog.globalNamed "skipgraph/skipgraphworld.letters" =some 0:=by kernel_rfl
theorem gTabType:(Tryz.prog.globals[0]?).map (·.type)=some 127:=by kernel_rfl
theorem uTab:Tryz.prog.underlying 127=some (.array 6 9):=by kernel_rfl
theorem cTab:Tryz.prog.cellsOf 127=6:=by kernel_rfl
theorem cStr:Tryz.prog.cellsOf 9=1:=by kernel_rfl
theorem oneTab:(List.range Tryz.prog.globals.size).all (fun i=> !tabG prog i||i==0)=true:=by kernel_rfl
theorem tabs {W:World}(h:laidMetH prog [("math/bits.deBruijn32tab",Rows.laid_math_bits_deBruijn32tab),("skipgraph/skipgraphworld.letters",Rows.laid_skipgraph_skipgraphworld_letters)] W):∀i,tabG prog i=true->i<W.heap.size/\TabAt W i:=
 tabs_of_mem gTab gTabType uTab uStr cStr cTab oneTab (laid:=[("math/bits.deBruijn32tab",Rows.laid_math_bits_deBruijn32tab),("skipgraph/skipgraphworld.letters",Rows.laid_skipgraph_skipgraphworld_letters)]) (by exact .tail _ (.head _)) h
theorem gTabB:Tryz.prog.globalNamed "math/bits.deBruijn32tab" =some 1:=by kernel_rfl
theorem gTabBType:(Tryz.prog.globals[1]?).map (·.type)=some 211:=by kernel_rfl
theorem uTabB:Tryz.prog.underlying 211=some (.array 32 5):=by kernel_rfl
theorem uByte:Tryz.prog.underlying 5=some (.int .u8):=by kernel_rfl
theorem cTabB:Tryz.prog.cellsOf 211=32:=by kernel_rfl
theorem cByte:Tryz.prog.cellsOf 5=1:=by kernel_rfl
theorem oneTabB:(List.range Tryz.prog.globals.size).all (fun i=> !tabBG prog i||i==1)=true:=by kernel_rfl
theorem tabsB {W:World}(h:laidMetH prog [("math/bits.deBruijn32tab",Rows.laid_math_bits_deBruijn32tab),("skipgraph/skipgraphworld.letters",Rows.laid_skipgraph_skipgraphworld_letters)] W):∀i,tabBG prog i=true->i<W.heap.size/\TabBAt W i:=
 tabsB_of_mem gTabB gTabBType uTabB uByte cByte cTabB oneTabB (laid:=[("math/bits.deBruijn32tab",Rows.laid_math_bits_deBruijn32tab),("skipgraph/skipgraphworld.letters",Rows.laid_skipgraph_skipgraphworld_letters)]) (by exact .head _) h
def toInt:List Value->Int
 |[.int _ z]=>z
 |_=>0
def toInts (rows:List (List Value)):List Int:=rows.map toInt
theorem ints_rows {w:World}{v:Value}{q:Option Sk.Loc}{rows:List (List Value)}(h:RwIn w v q [.i .i64] rows)(i:Nat)(r:List Value)(hr:rows[i]? =some r):ints (toInts rows) i=r.map svOf:=by
 have hok:=h.ok r (q7 hr);rcases r with _|⟨v,_|⟨v',r⟩⟩
 ·exact hok.elim
 ·obtain⟨⟨z,rfl,_⟩,_⟩:=hok;simp only[ints,nth,toInts,List.getD,qG,hr,jj,jQ,toInt,Qk,jf,svOf]
 ·exact hok.2.elim
theorem ints_in {β:Env}{w:World}{v:Value}{q:Option Sk.Loc}{rows:List (List Value)}(h:RwIn w v q [.i .i64] rows){id:Nat}(hq:β id 0=q):
  den β (.slc false id 0 0 (toInts rows).length) v/\(Sk.Obj.row ⟨false,false,3,1,(toInts rows).length,ints (toInts rows)⟩).holds β w q:=by
 have:=rows_in h hq 3 (ints (toInts rows)) (ints_rows h);simpa [toInts] using this
theorem ints_len {w:World}{v:Value}{q:Option Sk.Loc}{rows:List (List Value)}(h:RwIn w v q [.i .i64] rows):(toInts rows).length<=9223372036854775807:=by
 have:=h.len;simpa [toInts,maxLen] using this
theorem ints_ltO (m:Nat)(xs:List Int):(Sk.Obj.row ⟨false,false,3,1,xs.length,ints xs⟩).lt m:=Sk.Obj.lt_row.2 fun i _=>by simp[ints,SV.ltL,SV.lt]
def putCells (l:List Value):Go.Obj->Go.Obj
 |.cells _ t frozen=> .cells l.toArray t frozen
 |o=>o
noncomputable def z62 (os:Os):World:=
 {World.holding prog os ⟨#[],#[],[]⟩ with heap:=((World.holding prog os ⟨#[],#[],[]⟩).heap.modify 0 (putCells (letters.map Value.string))).modify 1 (putCells (db32.map (Value.int IntKind.u8)))}
end Go.Proofs.YtpnefndionckaaaGreatDoor
namespace Go.Proofs.YtpnefndionckaaaGreatDoor.joinPresentTop
open _root_.Go.Proofs.Tryz
open Go.ChangeShapes Go.WideShapes Go.RowKit Go.Sk Go.Proofs
theorem top (W:World)(v0:Value)(q0:Option Sk.Loc)(r0:List (List Value))(h0:RwIn W v0 q0 [.i .i64] r0)
  (htab:∀i,tabG prog i=true->i<W.heap.size/\TabAt W i) (htabB:∀i,tabBG prog i=true->i<W.heap.size/\TabBAt W i):Calls prog 7 #[v0] W fun e w'=>e= .returned (.bool true)/\Below W.heap.size W w':=by
 let β:Env:=fun _ _=>q0
 obtain⟨a0,b0⟩:=ints_in (β:=β) (id:=0) h0 rfl;refine zf.top (Ent.of func7 (by kernel_rfl) (by kernel_rfl)) (presentF_spec (toInts r0) (ints_len h0)) β W [v0] (fun id k o ho=> ?_) ⟨v0,[],a0,rfl,rfl⟩ (by simp[SV.ltL,SV.lt]) htab htabB;obtain⟨c,F,hf,hk,rfl⟩:=z1h ho;simp only[Sk.find,z19,uQ] at hf
 split at hf
 ·rename_i e;subst e;cases hf
  exact⟨rfl,by show(0:Nat)<1;omega,ints_ltO _ _,b0⟩
 ·cases hf
theorem contract (H:Type)(enc:TypeId×Value->H)(W:World)(base:Nat)(args:Array Value)(ds gs:List (DataW H))(before:List MemPlace)
  (hval:∀(j:Nat) t v,Tryz.f7.params[j]? =some t->args[j]? =some v->Value.okWide prog W .any base t v)
  (hW:DataW.Whole enc prog Tryz.f7.params.toList Rows.joinPresentSpec.vars false W args.toList ds gs before) (hL:laidMetH prog Rows.joinPresentRow.laid W):
  Calls prog 7 args W fun e W'=> ∃v,e= .returned v/\Rows.joinPresentSpec.post enc prog Tryz.f7 false true false false W args v W':=by
 have hW1:=hW;obtain⟨p,q,hA0,hV,rfl,_,_⟩:=hW;have hA:DataW.TrodAll enc prog W 0 (fun _=>true) true Tryz.f7.params.toList args.toList ds p:=hA0;have hval1:∀(j:Nat) t v,Tryz.f7.params[j]? =some t->args[j]? =some v->Value.okWide prog W .any base t v:=hval;rw[params7] at hA hval1;obtain⟨v0,vs0,d0,ds0,p0,q0,ha0,rfl,rfl,h0,r0⟩:=trodAll_cons hA;obtain⟨rfl,rfl,rfl⟩:=trodAll_nil r0;obtain rfl:args= #[v0]:=by cases args;simp_all
 obtain⟨_,_,x0⟩:=rows_open uInts fInt (by simp) (hval1 0 _ v0 rfl rfl) h0;refine(top W v0 _ _ x0 (tabs hL) (tabsB hL)).mono fun e W1 ⟨he,hb⟩=> ?_;subst he;refine⟨_,rfl,law_post laid rowed fullS (by decide+kernel) rfl hW1 hb rfl uBool fun ds hd=> ?_⟩;have hd1:ds.length=1:=hd
 match ds,hd1 with
 |[_],_=>rfl
theorem laid_met (os:Os):laidMet prog Rows.joinPresentRow.laid ((z62 os).forCall (fun _ _=>0) ⟨#[],#[.slice none 0 0],[]⟩).memory:=
 laidMet_of_run' 8 (by kernel_rfl) (by kernel_rfl)
theorem reads (os:Os){H:Type}(enc:TypeId×Value->H):∃places,DataW.whole enc prog ((z62 os).forCall (fun _ _=>0) ⟨#[],#[.slice none 0 0],[]⟩).memory Tryz.f7.params.toList Rows.joinPresentSpec.vars false #[Value.slice none 0 0].toList 8=some ([.nil],[],places):=
 ⟨[],by kernel_rfl⟩
set_option maxRecDepth 100000 in
theorem lifted (os:Os)(started:os.Started)(H:Type)(enc:TypeId×Value->H)(F:Stop.Interp):
  ReturnsInHanded {} Tryz.checked os 7 .any ((OpenSpec.ofChange Rows.joinPresentSpec).preRow enc prog Tryz.f7 Rows.joinPresentRow.domain false Rows.joinPresentRow.laid) (((OpenSpec.ofChange Rows.joinPresentSpec).at F).post enc prog Tryz.f7 false true false false):=by
 obtain⟨places,hx⟩:=reads os enc
 refine returnsInHanded_of_row (C:=Tryz.checked) (s:=OpenSpec.ofChange Rows.joinPresentSpec) own started (by kernel_rfl) func7
  (witness_row_at (enc:=enc) (C:=Tryz.checked) false (z62 os) #[.slice none 0 0] rfl (by kernel_rfl) (by kernel_rfl) (by kernel_rfl)
   (OpenSpec.preRow_of_cond 8 hx (by kernel_rfl) (fun k hk=>by cases hk) (by kernel_rfl) (laid_met os))) ?_
 intro W base args ds gs before hval hW _ _ _ hL _ _;exact contract H enc W base args ds gs before hval hW hL
theorem said:Rows.JoinPresentSaid:=
 OpenClaim.holds_of_cond 7 Tryz.f7 rfl rfl rfl rfl rfl rfl rfl ⟨rfl,rfl,rfl,rfl,rfl⟩ rfl rfl rfl rfl rfl (by kernel_rfl) func7 (by kernel_rfl)
  (jy (by kernel_rfl)) (by unfold Func.isWrapper;first|(rw[qf (by decide+kernel)];kernel_rfl)|(rw[qb (by decide+kernel)];exact⟨rfl,rfl⟩))
  (fun os started H enc _ F=>by rw[OpenClaim.pre_eq_preRow];exact lifted os started H enc F)
theorem plain (f:FuncId)(fn:Func)(hf:Tryz.pinned.checked.prog.funcNamed "skipgraph/skipgraphlaw13.JoinPresent" =some f)(hfn:Tryz.pinned.checked.prog.funcs[f]? =some fn):
  false=Tryz.pinned.checked.prog.looks []/\∀(j:Nat) t,fn.params[j]? =some t->Tryz.pinned.checked.prog.wantsStandIn t=false:=by
 obtain rfl:f=7:=Qz ((show Tryz.prog.funcNamed "skipgraph/skipgraphlaw13.JoinPresent" =some 7 by kernel_rfl).symm.trans hf)|>.symm
 obtain rfl:fn=Tryz.f7:=(Qz (Tryz.func7.symm.trans hfn)).symm;refine⟨by kernel_rfl,fun j t ht=> ?_⟩;rw[params7] at ht;have hm:t∈[22]:=by simpa using jr ht
 have hall:([22].all fun u=> !Tryz.prog.wantsStandIn u)=true:=by kernel_rfl
 exact(show Tryz.prog.wantsStandIn t=false by simpa using qu.1 hall t hm)
theorem proved:Rows.JoinPresentCardSaid:=
 Claim7.holds_tied_plain_at .later [] _ _ _ _ said (fun _ h=>by cases h) (by kernel_rfl) (fun _ h=>by cases h) joinPresent_row_tie rfl ⟨rfl,rfl⟩ (by kernel_rfl) rfl plain (by kernel_rfl)
end Go.Proofs.YtpnefndionckaaaGreatDoor.joinPresentTop
#print axioms Go.Proofs.YtpnefndionckaaaGreatDoor.joinPresentTop.proved
