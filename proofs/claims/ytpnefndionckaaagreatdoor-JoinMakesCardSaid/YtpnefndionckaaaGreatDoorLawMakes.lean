/-
  JoinMakes: for every input the law returns true, and the input reads as before.
  Conditions: those that each statement names.
-/
import Derived.Test.YtpnefndionckaaaGreatDoorRoh
import Derived.Deep.Slices
import Derived.Lib.LaidTab
import Derived.Test.YtpnefndionckaaaGreatDoorRol
import Derived.Test.YtpnefndionckaaaGreatDoorRok
import Derived.Test.YtpnefndionckaaaGreatDoorRoc
import Derived.Test.YtpnefndionckaaaGreatDoorRows
import Derived.Test.YtpnefndionckaaaGreatDoorCards
import Derived.Test.YtpnefndionckaaaGreatDoorTie
import Derived.WalkKit
import Derived.ProofKit
import Derived.OpenShut
import Derived.Deep.DeepHandedRow
set_option linter.unusedSimpArgs false
set_option linter.unusedVariables false
set_option linter.defProp false
set_option maxRecDepth 4000
set_option maxHeartbeats 8000000
namespace Go.Sk
open Go.RowKit Go.WideShapes Go.ChangeShapes
inductive FK where
 |i (k:IntKind)|s|b
def FK.is (P:Program)(t:TypeId):FK->Bool
 |.i k=>match P.underlying t with|some (.int k')=>k'==k|_=>false
 |.s=>match P.underlying t with|some .string=>true|_=>false
 |.b=>match P.underlying t with|some .bool=>true|_=>false
def FK.ok:FK->Value->Prop
 |.i k,v=> ∃z,v= .int k z/\(Lit.int k z).wf=true
 |.s,v=> ∃x:ByteArray,v= .string x/\x.size<=maxLen
 |.b,v=> ∃x,v= .bool x
def svOf:Value->SV
 |.int k z=> .int k z
 |.string x=> .str x
 |.bool x=> .bool x
 |v=> .raw v
theorem FK.den {β:Env}{k:FK}{v:Value}(h:k.ok v):den β (svOf v) v/\(svOf v).scalar=true/\∀m,(svOf v).lt m:=by
 cases k<;>simp only[FK.ok] at h
 ·obtain⟨z,rfl,_⟩:=h;exact⟨rfl,rfl,fun _=>trivial⟩
 ·obtain⟨z,rfl,_⟩:=h;exact⟨rfl,rfl,fun _=>trivial⟩
 ·obtain⟨z,rfl⟩:=h;exact⟨rfl,rfl,fun _=>trivial⟩
def okRow:List FK->List Value->Prop
 |[],[]=>True
 |k::ks,v::vs=>k.ok v/\okRow ks vs
 |_,_=>False
theorem okRow_len:∀{ks:List FK} {vs:List Value},okRow ks vs->vs.length=ks.length
 |[],[],_=>rfl
 |_::_,_::_,h=>by simp[okRow_len h.2]
 |[],_::_,h=>h.elim
 |_::_,[],h=>h.elim
theorem okRow_get:∀{ks:List FK} {vs:List Value},okRow ks vs->∀(j:Nat) (v:Value),vs[j]? =some v->∃k:FK,k.ok v
 |[],[],_,j,v,h=>by simp at h
 |k::_,_::_,h,j,v,hj=>by
  cases j with
  |zero=>simp at hj;subst hj;exact⟨k,h.1⟩
  |succ j=>simp at hj;exact okRow_get h.2 j v hj
 |[],_::_,h,_,_,_=>h.elim
 |_::_,[],h,_,_,_=>h.elim
def fldsB (P:Program)(fs:Array Field):Nat->List FK->Bool
 |i,[]=>i==fs.size
 |i,k::ks=>(match fs[i]? with|some f=>f.offset==i && P.cellsOf f.type==1 && k.is P f.type|none=>false) && fldsB P fs (i+1) ks
def flatB (P:Program)(t:TypeId)(ks:List FK):Bool:=
 P.cellsOf t==ks.length && (match P.underlying t with
  |some (.struct fs)=>fldsB P fs 0 ks
  |_=>match ks with|[k]=>k.is P t|_=>false)
section
variable {H:Type} {enc:TypeId×Value->H} {P:Program} {w:World} {base:Nat} {sp:Nat->Bool} {held:Bool}
theorem one_open {k:FK}{t:TypeId}{fuel:Nat}{cs:List Value}{x:DataW H×List MemPlace}(hk:k.is P t=true)(h:DataW.trod enc P w base sp held fuel t cs=some x):∃v,cs=[v]/\k.ok v:=by
 cases k<;>simp only[FK.is] at hk
 ·split at hk
  ·rename_i k' hu;obtain rfl:=eq_of_beq hk;obtain⟨n,rfl,_,hw⟩:=DataW.trod_int hu h;exact⟨_,rfl,n,rfl,hw⟩
  ·cases hk
 ·split at hk
  ·rename_i hu;obtain⟨s,rfl,_,hs⟩:=DataW.trod_string hu h;exact⟨_,rfl,s,rfl,hs⟩
  ·cases hk
 ·split at hk
  ·rename_i hu;obtain⟨b,rfl,_⟩:=DataW.trod_bool hu h;exact⟨_,rfl,b,rfl⟩
  ·cases hk
theorem flds_open {fs:Array Field}{n:Nat}{cs:List Value}{xs:List (DataW H×List MemPlace)}(hx:xs.length=fs.size)(hf:∀(i:Nat) (f:Field),fs[i]? =some f->DataW.trod enc P w base sp held n f.type ((cs.drop f.offset).take (P.cellsOf f.type))=xs[i]?):
  ∀(ks:List FK) (i:Nat),fldsB P fs i ks=true->i+ks.length=cs.length->okRow ks (cs.drop i)
 |[],i,_,hl=>by rw[List.drop_eq_nil_of_le (by simp at hl;omega)];trivial
 |k::ks,i,h,hl=>by
  simp only[fldsB,qh] at h;obtain⟨h1,h2⟩:=h;simp only[QI] at hl
  split at h1
  ·rename_i f hfi;simp only[qh,qy] at h1;obtain⟨⟨h3,h4⟩,h5⟩:=h1;have h6:=hf i f hfi;have hi:i<xs.length:=by rw[hx];exact(q6.1 hfi).1
   rw[h3,h4,qK hi] at h6;obtain⟨v,hv,hok⟩:=one_open h5 h6;rw[jo (by omega),jM,jJ] at hv;rw[jo (by omega)];have:cs[i]=v:=by simpa using hv
   rw[this];exact⟨hok,flds_open hx hf ks (i+1) h2 (by omega)⟩
  ·cases h1
theorem flat_open {t:TypeId}{ks:List FK}{fuel:Nat}{cs:List Value}{x:DataW H×List MemPlace}(hb:flatB P t ks=true)(h:DataW.trod enc P w base sp held fuel t cs=some x):okRow ks cs:=by
 simp only[flatB,qh,qy] at hb;obtain⟨hc,hb⟩:=hb
 split at hb
 ·rename_i fs hu;obtain⟨xs,m,_,_,hl,hxl,hf⟩:=DataW.trod_struct hu h;have:=flds_open hxl hf ks 0 hb (by omega);rwa [jX] at this
 ·split at hb
  ·rename_i k;obtain⟨v,rfl,hok⟩:=one_open hb h;exact⟨hok,trivial⟩
  ·cases hb
structure RwIn (w:World) (v:Value) (q:Option Loc) (ks:List FK) (rows:List (List Value)):Prop where
 len:rows.length<=maxLen
 ok:∀r∈rows,okRow ks r
 val:∃a c,v= .slice a rows.length c/\rows.length<=c/\(0<rows.length->∃L,q=some L/\a=some ⟨L.blk,L.off,none⟩)
 mem:(rows.length=0/\q=none)\/∃L,q=some L/\L.sz=ks.length/\L.blk<w.heap.size/\∀(i:Nat) (r:List Value),rows[i]? =some r->∀(j:Nat) (u:Value),r[j]? =some u->w.cell? ⟨L.blk,L.off+i*ks.length+j,none⟩=some u
theorem rows_open {t e:TypeId}{ks:List FK}{v:Value}{d:DataW H}{p:List MemPlace}(ht:P.underlying t=some (.slice e))(hb:flatB P e ks=true)(hk0:0<ks.length){b0:Nat}
  (hval:Value.okWide P w .any b0 t v) (h:DataW.Trod enc P w base sp held t v d p):∃q rows,RwIn w v q ks rows:=by
 obtain⟨n,hn⟩:=h;obtain⟨a0,l0,c0,rfl⟩:=okWide_slice ht hval;have hce:P.cellsOf e=ks.length:=by simp only[flatB,qh,qy] at hb;exact hb.1
 have hcs:(Value.slice a0 l0 c0).cells.toList=[Value.slice a0 l0 c0]:=rfl;rw[hcs] at hn;rcases Deep.open_slice ht hn with⟨hv,_⟩|⟨a,len,cap,m,n',D,Pl,hv,hbb,hlc,hcm,hmm,_,hel⟩
 ·cases hv
  exact⟨none,[],⟨by simp,by simp,⟨none,0,rfl,by simp,by simp⟩,.inl ⟨rfl,rfl⟩⟩⟩
 ·cases hv
  have hml:l0<=m:=by rw[hmm];split<;>omega
  obtain⟨R,hR⟩:=Deep.choose_lt (α:=List Value) (p:=fun i cs=>w.cells? base (a.add (i*P.cellsOf e)) (P.cellsOf e)=some cs/\DataW.trod enc P w base sp held n' e cs=some (D i,Pl i)) hel;have hrl:((List.range l0).map R).length=l0:=by simp
  have hget:∀i r,((List.range l0).map R)[i]? =some r->i<l0/\r=R i:=fun i r h=>by
   simp only[qP,qZ] at h;obtain⟨k,h1,h2⟩:=h
   have hi:i<l0:=by
    rcases Ql i l0 with h|h
    ·exact h
    ·rw[qQ (by simpa using h)] at h1;cases h1
   rw[jh hi] at h1
   cases h1
   exact⟨hi,h2.symm⟩
  have hok:∀i,i<m->okRow ks (R i):=fun i hi=>flat_open hb (hR i hi).2
  have hrow:∀r∈(List.range l0).map R,okRow ks r:=fun r hr=>by
   obtain⟨i,hi,rfl⟩:=Qq.1 hr;exact hok i (by have:=Qt.1 hi;omega)
  by_cases h0:l0=0
  ·subst h0;exact⟨none,[],⟨by simp,by simp,⟨some a,c0,rfl,by simp,by simp⟩,.inl ⟨rfl,rfl⟩⟩⟩
  ·have hcell:∀i,i<l0->∀(j:Nat) (u:Value),(R i)[j]? =some u->w.cell? ((a.add (i*ks.length)).add j)=some u:=fun i hi j u hj=>by
    obtain⟨h1,h2⟩:=hR i (by omega);obtain⟨_,hlen,hc⟩:=World.cells?_some h1;have hjl:j<P.cellsOf e:=by rw[<-hlen];exact(qY.1 hj).1
    rw[<-hce,hc j hjl];exact hj
   have hr0:∃u,(R 0)[0]? =some u:=by
    have:=okRow_len (hok 0 (by omega));exact⟨_,qK (by omega)⟩
   obtain⟨u0,hu0⟩:=hr0;have hc0:=hcell 0 (by omega) 0 u0 hu0;have hsp:a.spot=none:=World.cell?_spot (by unfold Addr.add at hc0;simpa using hc0);obtain⟨b,o,s0⟩:=a;simp only at hsp;subst hsp
   have hblk:b<w.heap.size:=by
    rw[z3y,z3y] at hc0;unfold World.cell? at hc0;rcases Ql b w.heap.size with h|h
    ·exact h
    ·simp[QG h] at hc0
   refine⟨some ⟨b,o,ks.length,0⟩,(List.range l0).map R,⟨by omega,hrow,⟨some ⟨b,o,none⟩,c0,by rw[hrl],by omega,fun _=>⟨_,rfl,rfl⟩⟩,.inr ⟨_,rfl,rfl,hblk,fun i r hr j u hj=> ?_⟩⟩⟩;obtain⟨hi,rfl⟩:=hget i r hr;have:=hcell i hi j u hj;rw[z3y,z3y] at this;exact this
end
theorem rows_in {β:Env}{w:World}{v:Value}{q:Option Loc}{ks:List FK}{rows:List (List Value)}(h:RwIn w v q ks rows){id:Nat}(hq:β id 0=q)(e:TypeId)(f:Nat->List SV)(hf:∀(i:Nat) (r:List Value),rows[i]? =some r->f i=r.map svOf):
  den β (.slc false id 0 0 rows.length) v/\(Obj.row ⟨false,false,e,ks.length,rows.length,f⟩).holds β w q:=by
 obtain⟨_,hok,⟨a,c,rfl,hc,hp⟩,hm⟩:=h;refine⟨?_,?_⟩
 ·simp only[den,z4u,qF,Qw];refine⟨a,c,rfl,hc,fun h=> ?_⟩;obtain⟨L,h1,h2⟩:=hp h;exact⟨L,hq.trans h1,by rw[h2];simp⟩
 ·rcases hm with hm|⟨L,h1,h2,h3,h4⟩
  ·exact .inl hm
  ·refine .inr ⟨L,h1,h2,h3,fun i hi=> ?_,fun h=>by cases h⟩;have hi':i<rows.length:=hi;have hr:=qK hi';have hfi:=hf i _ hr;have hoki:=hok _ (qM hi')
   show(f i).length=ks.length/\∀(j:Nat) (s:SV),(f i)[j]? =some s->_
   rw[hfi];refine⟨by rw[qB];exact okRow_len hoki,fun j s hs=> ?_⟩;rw[qP,qZ] at hs;obtain⟨u,hu,rfl⟩:=hs;obtain⟨k,hk⟩:=okRow_get hoki j u hu;obtain⟨g1,g2,_⟩:=FK.den (β:=β) hk;refine⟨g2,u,?_,g1⟩;rw[h2];exact h4 i _ hr j u hu
def strData {H:Type}(ss:List ByteArray):DataW H:= .agg (ss.map fun s=> .lit (.string s.data.toList))
theorem cells_of_strs {H:Type}{enc:TypeId×Value->H}{P:Program}{w:World}{base:Nat}{sp:Nat->Bool}{held:Bool}{fuel:Nat}{t e:TypeId}{n:Nat}{cs:List Value}{ss:List ByteArray}{p:List MemPlace}
  (ht:P.underlying t=some (.array n e)) (he:P.underlying e=some .string) (hce:P.cellsOf e=1) (hct:P.cellsOf t=n)
  (h:DataW.trod enc P w base sp held fuel t cs=some (strData ss,p)):cs=ss.map Value.string:=by
 cases fuel with
 |zero=>simp[DataW.trod] at h
 |succ fuel=>
  simp only[DataW.trod,ht,hce,hct,JJ] at h
  split at h
  ·rename_i hl;obtain⟨xs,hm,hx⟩:=qZ.1 h
   have hxs:xs.map (·.1)=ss.map fun s=>(DataW.lit (.string s.data.toList):DataW H):=by
    have:=Qr Prod.fst hx;simpa [strData] using this
   have hxl:xs.length=n:=by simpa using Lib.mapM_length hm
   have hzl:ss.length=n:=by
    have:=Qr List.length hxs;simp at this;omega
   apply jU;intro i
   by_cases hi:i<n
   ·obtain⟨b,hb,hf⟩:=Lib.mapM_at hm i i (by simp[hi]);obtain⟨z,hc,rfl,_⟩:=DataW.trod_string he hf
    have h1:cs[i]? =some (.string z):=by
     have:=Qr (·[0]?) hc;simpa [Qd,QL] using this
    have h2:(xs.map (·.1))[i]? =some (DataW.lit (.string z.data.toList):DataW H):=by simp[hb]
    rw[hxs] at h2;simp only[qP,qZ,DataW.lit.injEq,Lit.string.injEq] at h2;obtain⟨z',hz',he'⟩:=h2
    have:z'=z:=by
     cases z' with
     |mk a=>cases z with
      |mk b=>congr 1;exact Jv.1 he'
    subst this;simp[h1,hz']
   ·rw[qQ (by omega),qQ (by simp;omega)]
  ·cases h
end Go.Sk
namespace Go.Sk
open Go.RowKit Go.ChangeShapes Go.WideShapes
theorem LaidVars_at {P:Program}{w:World}{n:String}{d:DataW Unit}:∀{l:List (String×DataW Unit)} {ps:List MemPlace},DataW.LaidVars P w l ps->(n,d)∈l->
  ∃g t cs fuel p,P.globalNamed n=some g/\(P.globals[g]?).map (·.type)=some t/\w.var? P n=some cs/\DataW.trod (fun _=>()) P w 0 (fun _=>true) false fuel t cs.toList=some (d,p)
 |[],_,_,h=>by cases h
 |(m,e)::r,ps,⟨g,t,cs,fuel,p,q,h1,h2,h3,h4,h5,_⟩,h=>by
  cases h with
  |head=>exact⟨g,t,cs,fuel,p,h1,h2,h3,h4⟩
  |tail _ h=>exact LaidVars_at h5 h
theorem tabs_of_mem {P:Program}{W:World}{laid:List (String×DataW Unit)}{name:String}{g:Nat}{t e:TypeId}(hg:P.globalNamed name=some g)(hty:(P.globals[g]?).map (·.type)=some t)(ht:P.underlying t=some (.array 6 e))(he:P.underlying e=some .string)(hce:P.cellsOf e=1)(hct:P.cellsOf t=6)
  (hone:(List.range P.globals.size).all (fun i=> !tabG P i||i==g)=true) (hm:(name,strData letters)∈laid) (h:laidMet P laid W):∀i,tabG P i=true->i<W.heap.size/\TabAt W i:=by
 obtain⟨ps,h,_⟩:=h;obtain⟨g',t',cs,fuel,p,hg',ht',hvar,hd⟩:=LaidVars_at h hm;obtain rfl:=jE (hg.symm.trans hg');obtain rfl:=jE (hty.symm.trans ht');have hcs:=cells_of_strs ht he hce hct hd;intro i hi
 have hlt:i<P.globals.size:=by
  rcases Ql i P.globals.size with h|h
  ·exact h
  ·unfold tabG at hi;rw[QG h] at hi;cases hi
 have h1:=qt.1 hone i (Qt.2 hlt);rw[hi] at h1;have:i=g:=by simpa using h1
 subst this
 have hat:TabAt W i:=fun j s hj=>by
  have:=World.var?_cell hg hvar j;rw[this,<-QC,hcs,qP,hj]
  rfl
 refine⟨?_,hat⟩;have h0:=hat 0 _ (show letters[0]? =some _ from rfl);unfold World.cell? at h0;rcases Ql i W.heap.size with h|h
 ·exact h
 ·simp[QG h] at h0
def byteData {H:Type}(ns:List Int):DataW H:= .agg (ns.map fun n=> .lit (.int .u8 n))
theorem cells_of_bytes {H:Type}{enc:TypeId×Value->H}{P:Program}{w:World}{base:Nat}{sp:Nat->Bool}{held:Bool}{fuel:Nat}{t e:TypeId}{n:Nat}{cs:List Value}{ss:List Int}{p:List MemPlace}
  (ht:P.underlying t=some (.array n e)) (he:P.underlying e=some (.int .u8)) (hce:P.cellsOf e=1) (hct:P.cellsOf t=n)
  (h:DataW.trod enc P w base sp held fuel t cs=some (byteData ss,p)):cs=ss.map (Value.int .u8 ·):=by
 cases fuel with
 |zero=>simp[DataW.trod] at h
 |succ fuel=>
  simp only[DataW.trod,ht,hce,hct,JJ] at h
  split at h
  ·rename_i hl;obtain⟨xs,hm,hx⟩:=qZ.1 h
   have hxs:xs.map (·.1)=ss.map fun s=>(DataW.lit (.int .u8 s):DataW H):=by
    have:=Qr Prod.fst hx;simpa [byteData] using this
   have hxl:xs.length=n:=by simpa using Lib.mapM_length hm
   have hzl:ss.length=n:=by
    have:=Qr List.length hxs;simp at this;omega
   apply jU;intro i
   by_cases hi:i<n
   ·obtain⟨b,hb,hf⟩:=Lib.mapM_at hm i i (by simp[hi]);obtain⟨z,hc,rfl,_⟩:=DataW.trod_int he hf
    have h1:cs[i]? =some (.int .u8 z):=by
     have:=Qr (·[0]?) hc;simpa [Qd,QL] using this
    have h2:(xs.map (·.1))[i]? =some (DataW.lit (.int .u8 z):DataW H):=by simp[hb]
    rw[hxs] at h2;simp only[qP,qZ,DataW.lit.injEq,Lit.int.injEq,QX] at h2;obtain⟨z',hz',rfl⟩:=h2;simp[h1,hz']
   ·rw[qQ (by omega),qQ (by simp;omega)]
  ·cases h
theorem tabsB_of_mem {P:Program}{W:World}{laid:List (String×DataW Unit)}{name:String}{g:Nat}{t e:TypeId}(hg:P.globalNamed name=some g)(hty:(P.globals[g]?).map (·.type)=some t)(ht:P.underlying t=some (.array 32 e))(he:P.underlying e=some (.int .u8))(hce:P.cellsOf e=1)(hct:P.cellsOf t=32)
  (hone:(List.range P.globals.size).all (fun i=> !tabBG P i||i==g)=true) (hm:(name,byteData db32)∈laid) (h:laidMet P laid W):∀i,tabBG P i=true->i<W.heap.size/\TabBAt W i:=by
 obtain⟨ps,h,_⟩:=h;obtain⟨g',t',cs,fuel,p,hg',ht',hvar,hd⟩:=LaidVars_at h hm;obtain rfl:=jE (hg.symm.trans hg');obtain rfl:=jE (hty.symm.trans ht');have hcs:=cells_of_bytes ht he hce hct hd;intro i hi
 have hlt:i<P.globals.size:=by
  rcases Ql i P.globals.size with h|h
  ·exact h
  ·unfold tabBG at hi;rw[QG h] at hi;cases hi
 have h1:=qt.1 hone i (Qt.2 hlt);rw[hi] at h1;have:i=g:=by simpa using h1
 subst this
 have hat:TabBAt W i:=fun j s hj=>by
  have:=World.var?_cell hg hvar j;rw[this,<-QC,hcs,qP,hj]
  rfl
 refine⟨?_,hat⟩;have h0:=hat 0 _ (show db32[0]? =some _ from rfl);unfold World.cell? at h0;rcases Ql i W.heap.size with h|h
 ·exact h
 ·simp[QG h] at h0
end Go.Sk
namespace Go.Proofs
open Tryz
open Go.Sk
section
def newE (ns:List Nd)(dn:List Int)(m ht:Int):Int:=
 if z1o ns≠0 then 1 else if m<1\/8<m\/ht<0\/16<ht then 2 else if dn.any (fun v=>decide (z44 ns v<0))=true then 6 else if dn.Nodup then 0 else 5
def newR (ns:List Nd)(dn:List Int)(m ht:Int):Fo:=if newE ns dn m ht=0 then z3j ns dn m.toNat ht else noFo
def nf2S (e:Int):SV:= .tup [.agg [.slc true 2 0 0 0,.int .i64 0,.slc true 3 0 0 0,.slc true 5 0 0 0],.int .i64 e]
def nf2H:AH:=⟨6,[(2,uQ (.row ⟨true,false,62,3,0,nds []⟩)),(3,uQ (.row ⟨true,false,89,5,0,lyR 4 []⟩)),(4,(3*0+1,fam true 3 1 (lyF true []))),(5,uQ (.row ⟨true,false,58,3,0,cbs []⟩))]⟩
theorem newF_lenQ (ns:List Nd)(dn:List Int)(m:Nat)(ht:Int):(z3j ns dn m ht).ns=ns/\(z3j ns dn m ht).ht=ht/\(z3j ns dn m ht).cb=List.replicate m noCb/\(z3j ns dn m ht).cb.length=m:=⟨rfl,rfl,rfl,Qk⟩
theorem any_not {ns:List Nd}{dn:List Int}{i:Nat}(hi:i<dn.length)(g:z44 ns (nth dn i)<0):dn.any (fun v=>decide (z44 ns v<0))=true:=
 jx.2 ⟨nth dn i,by rw[z2v hi];exact qM _,qG g⟩
theorem any_all {ns:List Nd}{dn:List Int}(h:∀q,q<dn.length->0<=z44 ns (nth dn q)):¬dn.any (fun v=>decide (z44 ns v<0))=true:=fun g=>by
 obtain⟨v,hv,hd⟩:=jx.1 g;obtain⟨q,hq,e⟩:=Qe hv;have:=h q hq;rw[z2v hq,e] at this;have:=jt hd;omega
theorem newE_zero {ns:List Nd}{dn:List Int}{m ht:Int}(h:newE ns dn m ht=0):z1o ns=0/\(1<=m/\m<=8/\0<=ht/\ht<=16)/\(∀v∈dn,0<=z44 ns v)/\dn.Nodup:=by
 unfold newE at h
 by_cases g1:z1o ns=0
 ·rw[qb (fun g=>g g1)] at h
  by_cases g2:m<1\/8<m\/ht<0\/16<ht
  ·rw[qf g2] at h;cases h
  ·rw[qb g2] at h
   by_cases g3:dn.any (fun v=>decide (z44 ns v<0))=true
   ·rw[qf g3] at h;cases h
   ·rw[qb g3] at h
    by_cases g4:dn.Nodup
    ·refine⟨g1,by omega,fun v hv=>Je fun g=>g3 (jx.2 ⟨v,hv,qG (by omega)⟩),g4⟩
    ·rw[qb g4] at h;cases h
 ·rw[qf g1] at h;cases h
def ddI (l:List Int):List Int:=l.foldl (fun a v=>if a.contains v then a else a++[v]) []
theorem ddI_nil:ddI []=[]:=rfl
theorem ddI_take {l:List Int}{i:Nat}(h:i<l.length):ddI (l.take (i+1))=if(ddI (l.take i)).contains (nth l i) then ddI (l.take i) else ddI (l.take i)++[nth l i]:=by
 rw[take_nthN h,ddI,List.foldl_append];rfl
theorem ddI_facts {l:List Int}:∀{i:Nat},i<=l.length->(∀v,v∈ddI (l.take i)↔v∈l.take i)/\(ddI (l.take i)).length<=i/\((ddI (l.take i)).length=i↔(l.take i).Nodup)
 |0,_=>⟨fun v=>by simp[ddI],by simp[ddI],by simp[ddI]⟩
 |i+1,h=>by
  have hi:i<l.length:=h;obtain⟨h1,h2,h3⟩:=ddI_facts (Nat.le_of_lt hi)
  have hn:(l.take i++[nth l i]).Nodup↔(l.take i).Nodup/\nth l i∉l.take i:=by
   rw[je]
   constructor
   ·exact fun g=>⟨g.1,fun k=>g.2.2 _ k _ (qL.2 rfl) rfl⟩
   ·exact fun g=>⟨g.1,jD.2 ⟨QA,jI⟩,fun a ha b hb e=>g.2 (by rw[qL.1 hb] at e;exact e ▸ ha)⟩
  rw[ddI_take hi,take_nthN hi,hn]
  by_cases c:nth l i∈l.take i
  ·rw[qf (jB.2 ((h1 _).2 c))];refine⟨fun v=> ?_,by omega,fun g=>by omega,fun g=>absurd c g.2⟩;rw[h1,qR,qL];exact⟨.inl,fun g=>g.elim id fun e=>e ▸ c⟩
  ·rw[qb (fun g=>c ((h1 _).1 (jB.1 g)))];refine⟨fun v=> ?_,by simp;omega,fun g=> ?_,fun g=> ?_⟩
   ·rw[qR,qR,h1]
   ·rw[qU,Qf] at g;exact⟨h3.1 (by omega),c⟩
   ·rw[qU,Qf,h3.2 g.1]
def JqAm.exE:=aj9 @z17 @zg @zi @zn @zk @z12 @z1a ec2 (aj9 @zj @zt @zo @zl ec13 @zp z43 z4y (aj9 @zu ec3 ec5 @z1d.eq_1 @zz.eq_1 @ints.eq_1 ec33 ec34 (aj5 ec35 @ex_map @Tryz.tyMapIB @Tryz.zB @z1c)))
def JqAm.gxE:=aj9 @z17 z43 ec16 z4y ec3 ec7 ec8 @z1d.eq_1 (aj9 @zz.eq_1 @z1v @z1t ec36 ec26 ec29 @lt_blk @nf2S.eq_1 @nf2H.eq_1)
def JqAm.axE:=aj9 @z17 @zg @zi @zn @zk @z12 @z1a ec2 (aj9 @zj @zt @zo @zl ec13 @zp z43 z4y (aj9 @zu ec3 ec5 @z1d.eq_1 @zz.eq_1 ec33 ec34 @ex_map (aj9 @Tryz.tyMapIB @Tryz.zB @z1c @z1q @z26 @z2n @z31 ec37 @z40)))
open JqAm (gxE axE exE)
open JnNm (oxE)
open D0 (sdE)
theorem New_any (ns:List Nd)(dn:List Int)(n d:Nat)(m ht:Int)(hn:ns.length=n)(hd:dn.length=d)(hs:ns.length<=20)(hdx:d<=1000000):
  zf prog 16 [.slc false 0 0 0 n,.slc false 1 0 0 d,.int .i64 m,.int .i64 ht] ⟨2,[(0,uQ (.row ⟨false,false,62,3,n,nds ns⟩)),(1,uQ (.row ⟨false,false,3,1,d,ints dn⟩))]⟩
   (fun s H1=>s= .tup [.agg [.slc true 2 0 0 (newR ns dn m ht).ns.length,.int .i64 (newR ns dn m ht).ht,.slc true 3 0 0 (newR ns dn m ht).ly.length,.slc true 5 0 0 (newR ns dn m ht).cb.length],.int .i64 (newE ns dn m ht)]/\H1=⟨6,[(2,uQ (.row ⟨true,false,62,3,(newR ns dn m ht).ns.length,nds (newR ns dn m ht).ns⟩)),(3,uQ (.row ⟨true,false,89,5,(newR ns dn m ht).ly.length,lyR 4 (newR ns dn m ht).ly⟩)),(4,(3*(newR ns dn m ht).ly.length+1,fam true 3 1 (lyF true (newR ns dn m ht).ly))),(5,uQ (.row ⟨true,false,58,3,(newR ns dn m ht).cb.length,cbs (newR ns dn m ht).cb⟩))]⟩):=by
 by_cases he:newE ns dn m ht=0
 ·obtain⟨g1,g2,g3,g4⟩:=newE_zero he;obtain⟨k,rfl⟩:∃k:Nat,m=k:=⟨m.toNat,by omega⟩;have hR:newR ns dn k ht=z3j ns dn k ht:=by rw[newR,qf he,qE]
  obtain⟨n1,n2,n3,n4⟩:=newF_lenQ ns dn k ht;rw[hR,he,n1,n2,n3,Qk];subst hn hd;exact New_ok ns dn k _ _ ht rfl rfl g1 hs (by omega) (by omega) (by omega) (by omega) hdx g3 g4
 subst hn hd;refine zf.ofC false 145 [.cell 8 34,.tmp 9] func16 rfl rfl ntmps16 results16 rfl ?_;intro w0 own0 β0 Q hQ hQn;simp only[z18];refine Zrs [0,1,2,3,8] ?_;refine z6 ?_;refine sg [0,1,2,3,8,31] rfl ?_;intro K hK;refine Zo Zl ?_;refine Zo Zl ?_;refine Zc1 (check_spec ns ns.length rfl (by omega)) (id) ?_;refine Zo Zl ?_;refine z8 (Zpr (hK _ _ ?_));clear hK K;refine z7 _ rfl ?_ ?_
 ·intro h31;have g1:z1o ns≠0:=by simpa using h31
  refine Zrs [8,9] ?_;refine z23 3 1 (lyF true []) ?_;dsimp only;refine z38 2 0 62 3 (nds []) (h:= ?_);refine z38 2 2 89 5 (lyR 3 []) (h:= ?_);refine z38 2 3 58 3 (cbs []) (h:= ?_);refine zd (hQ _ _ ?_);have hE:newE ns dn m ht=1:=by rw[newE,qf g1]
  have hR:newR ns dn m ht=noFo:=by rw[newR,hE,qb (by decide)]
  rw[hE,hR];refine zm (fun x=>if x=2 then 4 else if x=3 then 5 else if x=4 then 3 else if x=5 then 6 else x) (nf2S 1) (nf2H) (.inl rfl) ?_;refine Zou ?_;refine⟨Zs,Zs,(Zg (fun x=>if x=2 then 4 else if x=3 then 5 else if x=4 then 3 else if x=5 then 6 else x)),Zs,?_⟩
  all_goals first|trivial|exact⟨rfl,trivial⟩
 ·intro h31;have g1:z1o ns=0:=by simpa using h31
  refine za (z6 ?_);refine Zrs [0,1,2,3,8,46] ?_;refine z7 _ rfl ?_ ?_
  ·intro h46;have g2:m<1\/8<m\/ht<0\/16<ht:=by simp only[qr,qh,qi,qv,qk,qq,qj,qg,qy,qz,qX,ne_eq,Qa,q9,qH,qu] at h46;omega
   refine Zrs [8,9] ?_;refine z23 3 1 (lyF true []) ?_;dsimp only;refine z38 2 0 62 3 (nds []) (h:= ?_);refine z38 2 2 89 5 (lyR 3 []) (h:= ?_);refine z38 2 3 58 3 (cbs []) (h:= ?_);refine zd (hQ _ _ ?_);have hE:newE ns dn m ht=2:=by rw[newE,qb (fun g=>g g1),qf g2]
   have hR:newR ns dn m ht=noFo:=by rw[newR,hE,qb (by decide)]
   rw[hE,hR];refine zm (fun x=>if x=2 then 4 else if x=3 then 5 else if x=4 then 3 else if x=5 then 6 else x) (nf2S 2) (nf2H) (.inl rfl) ?_;refine Zou ?_;refine⟨Zs,Zs,(Zg (fun x=>if x=2 then 4 else if x=3 then 5 else if x=4 then 3 else if x=5 then 6 else x)),Zs,?_⟩
   all_goals first|trivial|exact⟨rfl,trivial⟩
  ·intro h46;have g2:¬(m<1\/8<m\/ht<0\/16<ht):=by simp only[qr,qh,qi,qv,qk,qq,qj,qg,qy,qz,qX,ne_eq,Qa,q9,qH,qu] at h46;omega
   refine za ?_;refine Zrs [0,1,2,3,8,10] ?_;refine z6 ?_;refine Zrs [0,1,2,3,8,10,49,50,51] ?_;refine zc fun Q0 hN0 hX0 hR0 hE0=> ?_;refine zx (σ:=Nat) (fun i=>i<=dn.length/\∀q,q<i->0<=z44 ns (nth dn q)) (fun i=>dn.length-i) (fun i=>[(0,.slc false 0 0 0 ns.length),(1,.slc false 1 0 0 dn.length),(2,.int .i64 m),(3,.int .i64 ht),(8,.ptr 2 0 0 0),(10,.mp 3 0),(49,.slc false 1 0 0 dn.length),(50,.int .i64 dn.length),(51,.int .i64 i)]) (fun i=>⟨4,[(3,uQ (.blk true (.ints (ddI (dn.take i))))),(2,uQ (.row ⟨true,true,34,4,1,fun _=>[.nils,.int .i64 0,.nils,.nils]⟩)),(0,uQ (.row ⟨false,false,62,3,ns.length,nds ns⟩)),(1,uQ (.row ⟨false,false,3,1,dn.length,ints dn⟩))]⟩) 0 ⟨qp _,fun q hq=>absurd hq (qI _)⟩ (ρ:=id) (have xE:=@ddI_nil;Zgx id) ?_;rintro i hi QL1 hL1 hRL1 hEL1;refine Zrs [0,1,2,3,8,10,49,50,51,52] ?_;refine z6 ?_;refine z7 _ rfl ?_ ?_
   ·intro h52;replace h52:=Znb h52;have hq:i<dn.length:=by omega
    refine za (z6 (zc fun Q1 hN1 hX1 hR1 hE1=> ?_));refine Zrs [0,1,2,3,8,10,12,49,50,51] ?_;refine z6 ?_;refine sg [0,1,2,3,8,10,12,14,49,50,51] rfl ?_;intro K hK;iterate 2 (refine Zo Zl ?_)
    refine Zo Zl ?_;refine Zc1 (find_spec ns (nth dn i) ns.length rfl (by omega)) (id) ?_;iterate 6 (refine Zo Zl ?_)
    refine z8 (Zpr (hK _ _ ?_));clear hK K;refine Zrs [0,1,2,3,8,10,12,49,50,51,62] ?_;refine z7 _ rfl ?_ ?_
    ·intro h62;have g6:z44 ns (nth dn i)<0:=by simp at h62;omega
     refine Zrs [8,9] ?_;refine z23 3 1 (lyF true []) ?_;dsimp only;refine z38 2 0 62 3 (nds []) (h:= ?_);refine z38 2 2 89 5 (lyR 5 []) (h:= ?_);refine z38 2 3 58 3 (cbs []) (h:= ?_);refine zd (hR1 _ _ (hRL1 _ _ (hR0 _ _ (hQ _ _ ?_))));have hE:newE ns dn m ht=6:=by rw[newE,qb (fun g=>g g1),qb g2,qf (any_not hq g6)]
     have hR:newR ns dn m ht=noFo:=by rw[newR,hE,qb (by decide)]
     rw[hE,hR];refine zm (fun x=>if x=2 then 6 else if x=3 then 7 else if x=4 then 5 else if x=5 then 8 else x) (nf2S 6) (nf2H) (.inl rfl) ?_;refine Zou ?_;refine⟨Zs,Zs,(Zg (fun x=>if x=2 then 6 else if x=3 then 7 else if x=4 then 5 else if x=5 then 8 else x)),Zs,?_⟩
     all_goals first|trivial|exact⟨rfl,trivial⟩
    ·intro h62;have g6:0<=z44 ns (nth dn i):=by simp at h62;omega
     refine za ?_;refine z3c [0,1,2,3,8,10,49,50,51] rfl ?_;intro K hK;iterate 3 (refine Zo Zl ?_)
     rw[<-ddI_take hq];repeat(with_reducible apply qe;exact sdE)
     refine z8 (Zpr (hK _ _ ?_));clear hK K;refine ze (hN1 _ _ ?_);refine Zrg [0,1,2,3,8,10,49,50,51] ?_;refine ze (hL1 _ _ ?_);rw[show(i:Int)+1=((i+1:Nat):Int) from by omega]
     exact⟨i+1,⟨⟨by omega,fun q hq=>by
      by_cases e:q=i
      ·subst e;exact g6
      ·exact hi.2 q (by omega)⟩,by omega⟩,id,(Zg id)⟩
   ·intro h52;replace h52:=Znb h52;have hid:i=dn.length:=by omega
    subst hid;rw[QV];have hdd:=ddI_facts (l:=dn) (qd _);rw[QV] at hdd;refine zw (hEL1 _ _ _ (hX0 _ _ (z6 ?_)));refine Zrs [0,2,3,8,10,71] ?_;refine z7 _ rfl ?_ ?_
    ·intro h71;replace h71:=Znb h71;have g5:¬dn.Nodup:=fun g=>by have:=hdd.2.2.2 g;omega
     refine Zrs [8,9] ?_;refine z23 3 1 (lyF true []) ?_;dsimp only;refine z38 2 0 62 3 (nds []) (h:= ?_);refine z38 2 2 89 5 (lyR 4 []) (h:= ?_);refine z38 2 3 58 3 (cbs []) (h:= ?_);refine zd (hQ _ _ ?_);have hE:newE ns dn m ht=5:=by rw[newE,qb (fun g=>g g1),qb g2,qb (any_all hi.2),qb g5]
     have hR:newR ns dn m ht=noFo:=by rw[newR,hE,qb (by decide)]
     rw[hE,hR];refine zm (fun x=>if x=2 then 5 else if x=3 then 6 else if x=4 then 4 else if x=5 then 7 else x) (nf2S 5) (nf2H) (.inl rfl) ?_;refine Zou ?_;refine⟨Zs,Zs,(Zg (fun x=>if x=2 then 5 else if x=3 then 6 else if x=4 then 4 else if x=5 then 7 else x)),Zs,?_⟩
     all_goals first|trivial|exact⟨rfl,trivial⟩
    ·intro h71
     exfalso
     replace h71:=Znb h71;have g5:dn.Nodup:=hdd.2.2.1 (by omega);exact absurd (by rw[newE,qb (fun g=>g g1),qb g2,qb (any_all hi.2),qf g5]) he
theorem refNew_any (ns:List Nd)(dn:List Int)(n d:Nat)(m ht:Int)(hn:ns.length=n)(hd:dn.length=d)(hs:ns.length<=20)(hdx:d<=1000000):
  zf prog 17 [.slc false 0 0 0 n,.slc false 1 0 0 d,.int .i64 m,.int .i64 ht] ⟨2,[(0,uQ (.row ⟨false,false,62,3,n,nds ns⟩)),(1,uQ (.row ⟨false,false,3,1,d,ints dn⟩))]⟩
   (fun s H1=>s= .tup [.agg [.slc true 2 0 0 (newR ns dn m ht).ns.length,.int .i64 (newR ns dn m ht).ht,.slc true 3 0 0 (newR ns dn m ht).ly.length,.slc true 5 0 0 (newR ns dn m ht).cb.length],.int .i64 (newE ns dn m ht)]/\H1=⟨6,[(2,uQ (.row ⟨true,false,62,3,(newR ns dn m ht).ns.length,nds (newR ns dn m ht).ns⟩)),(3,uQ (.row ⟨true,false,89,5,(newR ns dn m ht).ly.length,lyR 4 (newR ns dn m ht).ly⟩)),(4,(3*(newR ns dn m ht).ly.length+1,fam true 3 1 (lyF true (newR ns dn m ht).ly))),(5,uQ (.row ⟨true,false,58,3,(newR ns dn m ht).cb.length,cbs (newR ns dn m ht).cb⟩))]⟩):=by
 by_cases he:newE ns dn m ht=0
 ·obtain⟨g1,g2,g3,g4⟩:=newE_zero he;obtain⟨k,rfl⟩:∃k:Nat,m=k:=⟨m.toNat,by omega⟩;have hR:newR ns dn k ht=z3j ns dn k ht:=by rw[newR,qf he,qE]
  obtain⟨n1,n2,n3,n4⟩:=newF_lenQ ns dn k ht;rw[hR,he,n1,n2,n3,Qk];subst hn hd;exact refNewF_spec ns dn k _ _ ht rfl rfl g1 (by omega) (by omega) (by omega) (by omega) hdx g3 g4
 subst hn hd;refine zf.ofC false 76 [.cell 8 34,.tmp 9] func17 rfl rfl ntmps17 results17 rfl ?_;intro w0 own0 β0 Q hQ hQn;simp only[z18];refine Zrs [0,1,2,3,8] ?_;refine z6 (zc fun Q0 hN0 hX0 hR0 hE0=> ?_);refine sg [0,1,2,3,8,14] rfl ?_;intro K hK;refine Zo Zl ?_;refine Zo Zl ?_;refine Zc1 (refIs_spec ns ns.length rfl (by omega)) (id) ?_;iterate 2 (refine Zo Zl ?_)
 refine z8 (Zpr (hK _ _ ?_));clear hK K;refine z7 _ rfl ?_ ?_
 ·intro h14;have g1:z1o ns≠0:=by simpa using h14
  refine Zrs [8,9] ?_;refine z23 3 1 (lyF true []) ?_;dsimp only;refine z38 2 0 62 3 (nds []) (h:= ?_);refine z38 2 2 89 5 (lyR 3 []) (h:= ?_);refine z38 2 3 58 3 (cbs []) (h:= ?_);refine zd (hR0 _ _ (hQ _ _ ?_));have hE:newE ns dn m ht=1:=by rw[newE,qf g1]
  have hR:newR ns dn m ht=noFo:=by rw[newR,hE,qb (by decide)]
  rw[hE,hR];refine zm (fun x=>if x=2 then 4 else if x=3 then 5 else if x=4 then 3 else if x=5 then 6 else x) (nf2S 1) (nf2H) (.inl rfl) ?_;refine Zou ?_;refine⟨Zs,Zs,(Zg (fun x=>if x=2 then 4 else if x=3 then 5 else if x=4 then 3 else if x=5 then 6 else x)),Zs,?_⟩
  all_goals first|trivial|exact⟨rfl,trivial⟩
 ·intro h14;have g1:z1o ns=0:=by simpa using h14
  refine sg [0,1,2,3,8,19] rfl ?_;intro K hK
  have hk3:∀B:Bool,(B=true↔(m<1\/8<m\/ht<0\/16<ht))->K [(0,.slc false 0 0 0 ns.length),(1,.slc false 1 0 0 dn.length),(2,.int .i64 m),(3,.int .i64 ht),(8,.ptr 2 0 0 0),(19,.bool B)] ⟨3,[(2,uQ (.row ⟨true,true,34,4,1,fun _=>[.nils,.int .i64 0,.nils,.nils]⟩)),(0,uQ (.row ⟨false,false,62,3,ns.length,nds ns⟩)),(1,uQ (.row ⟨false,false,3,1,dn.length,ints dn⟩))]⟩:=by
   intro B hB;refine hK _ _ ?_;clear hK K;refine z7 _ rfl ?_ ?_
   ·intro h19;have g2:=hB.1 h19;refine Zrs [8,9] ?_;refine z23 3 1 (lyF true []) ?_;dsimp only;refine z38 2 0 62 3 (nds []) (h:= ?_);refine z38 2 2 89 5 (lyR 3 []) (h:= ?_);refine z38 2 3 58 3 (cbs []) (h:= ?_);refine zd (hR0 _ _ (hQ _ _ ?_));have hE:newE ns dn m ht=2:=by rw[newE,qb (fun g=>g g1),qf g2]
    have hR:newR ns dn m ht=noFo:=by rw[newR,hE,qb (by decide)]
    rw[hE,hR];refine zm (fun x=>if x=2 then 4 else if x=3 then 5 else if x=4 then 3 else if x=5 then 6 else x) (nf2S 2) (nf2H) (.inl rfl) ?_;refine Zou ?_;refine⟨Zs,Zs,(Zg (fun x=>if x=2 then 4 else if x=3 then 5 else if x=4 then 3 else if x=5 then 6 else x)),Zs,?_⟩
    all_goals first|trivial|exact⟨rfl,trivial⟩
   ·intro h19;have g2:¬(m<1\/8<m\/ht<0\/16<ht):=fun g=>by rw[hB.2 g] at h19;cases h19
    refine za (ze (hN0 _ _ (z6 ?_)));refine Zrs [0,1,2,3,8,10] ?_;refine zc fun Q1 hN1 hX1 hR1 hE1=> ?_;refine zx (σ:=Nat) (fun i=>i<=dn.length/\∀q,q<i->0<=z44 ns (nth dn q)) (fun i=>dn.length-i) (fun i=>[(0,.slc false 0 0 0 ns.length),(1,.slc false 1 0 0 dn.length),(2,.int .i64 m),(3,.int .i64 ht),(8,.ptr 2 0 0 0),(10,.int .i64 i)]) (fun i=>⟨3,[(2,uQ (.row ⟨true,true,34,4,1,fun _=>[.nils,.int .i64 0,.nils,.nils]⟩)),(0,uQ (.row ⟨false,false,62,3,ns.length,nds ns⟩)),(1,uQ (.row ⟨false,false,3,1,dn.length,ints dn⟩))]⟩) 0 ⟨qp _,fun q hq=>absurd hq (qI _)⟩ (ρ:=id) (Zg id) ?_;rintro i hi QL1 hL1 hRL1 hEL1;refine z6 ?_;refine Zrs [0,1,2,3,8,10,35] ?_;refine z7 _ rfl ?_ ?_
    ·intro h35;replace h35:=Znb h35;have hq:i<dn.length:=by omega
     refine za (z6 (zc fun Q2 hN2 hX2 hR2 hE2=> ?_));refine sg [0,1,2,3,8,10,12] rfl ?_;intro K hK;iterate 5 (refine Zo Zl ?_)
     refine Zo Zl ?_;refine Zc1 (refFind_spec ns (nth dn i) ns.length rfl (by omega)) (id) ?_;iterate 6 (refine Zo Zl ?_)
     refine z8 (Zpr (hK _ _ ?_));clear hK K;refine Zrs [0,1,2,3,8,10,48] ?_;refine z7 _ rfl ?_ ?_
     ·intro h48;have g6:z44 ns (nth dn i)<0:=by simp at h48;omega
      refine Zrs [8,9] ?_;refine z23 3 1 (lyF true []) ?_;dsimp only;refine z38 2 0 62 3 (nds []) (h:= ?_);refine z38 2 2 89 5 (lyR 4 []) (h:= ?_);refine z38 2 3 58 3 (cbs []) (h:= ?_);refine zd (hR2 _ _ (hRL1 _ _ (hR1 _ _ (hQ _ _ ?_))));have hE:newE ns dn m ht=6:=by rw[newE,qb (fun g=>g g1),qb g2,qf (any_not hq g6)]
      have hR:newR ns dn m ht=noFo:=by rw[newR,hE,qb (by decide)]
      rw[hE,hR];refine zm (fun x=>if x=2 then 5 else if x=3 then 6 else if x=4 then 4 else if x=5 then 7 else x) (nf2S 6) (nf2H) (.inl rfl) ?_;refine Zou ?_;refine⟨Zs,Zs,(Zg (fun x=>if x=2 then 5 else if x=3 then 6 else if x=4 then 4 else if x=5 then 7 else x)),Zs,?_⟩
      all_goals first|trivial|exact⟨rfl,trivial⟩
     ·intro h48;have g6:0<=z44 ns (nth dn i):=by simp at h48;omega
      refine za (ze (hN2 _ _ ?_));refine Zrg [0,1,2,3,8,10] ?_;refine ze (hL1 _ _ ?_);rw[show(i:Int)+1=((i+1:Nat):Int) from by omega]
      exact⟨i+1,⟨⟨by omega,fun q hq=>by
       by_cases e:q=i
       ·subst e;exact g6
       ·exact hi.2 q (by omega)⟩,by omega⟩,id,(Zg id)⟩
    ·intro h35;replace h35:=Znb h35;have hid:i=dn.length:=by omega
     subst hid;refine zw (hEL1 _ _ _ (hX1 _ _ (z6 ?_)));refine Zrs [0,1,2,3,8,13] ?_;refine zc fun Q3 hN3 hX3 hR3 hE3=> ?_;refine zx (σ:=Nat) (fun i=>i<=dn.length/\(dn.take i).Nodup) (fun i=>dn.length-i) (fun i=>[(0,.slc false 0 0 0 ns.length),(1,.slc false 1 0 0 dn.length),(2,.int .i64 m),(3,.int .i64 ht),(8,.ptr 2 0 0 0),(13,.int .i64 i)]) (fun i=>⟨3,[(2,uQ (.row ⟨true,true,34,4,1,fun _=>[.nils,.int .i64 0,.nils,.nils]⟩)),(0,uQ (.row ⟨false,false,62,3,ns.length,nds ns⟩)),(1,uQ (.row ⟨false,false,3,1,dn.length,ints dn⟩))]⟩) 0 ⟨qp _,by rw[jJ];exact jI⟩ (ρ:=id) (Zg id) ?_;rintro j hj QL2 hL2 hRL2 hEL2;refine z6 ?_;refine Zrs [0,1,2,3,8,13,53] ?_;refine z7 _ rfl ?_ ?_
     ·intro h53;replace h53:=Znb h53;have hjl:j<dn.length:=by omega
      have hnn:(dn.take j++[nth dn j]).Nodup↔(dn.take j).Nodup/\nth dn j∉dn.take j:=by
       rw[je]
       constructor
       ·exact fun g=>⟨g.1,fun k=>g.2.2 _ k _ (qL.2 rfl) rfl⟩
       ·exact fun g=>⟨g.1,jD.2 ⟨QA,jI⟩,fun a ha b hb e=>g.2 (by rw[qL.1 hb] at e;exact e ▸ ha)⟩
      refine za (z6 (zc fun Q4 hN4 hX4 hR4 hE4=> ?_));refine z6 ?_;refine Zrd [0,1,2,3,8,13,63] [0,1,2,3,4,5,6,7] [[],[],[],[],[],[],[],[]] [[],[],[],[],[],[],[],[]] ?_;intro K hK;iterate 7 (refine Zo (Zi [] []) ?_)
      refine Zo (Zi [] []) ?_;refine Zc1 (refHasP_spec dn (nth dn j) j dn.length rfl (by omega) (by omega)) (fun _=>1) ?_;rw[hasI_con];refine z11 (Zpr (hK _ _ ?_));clear hK K;refine z7 _ rfl ?_ ?_
      ·intro h63
       have g5:¬dn.Nodup:=fun g=>by
        have:(dn.take (j+1)).Nodup:=g.sublist (List.take_sublist _ _);rw[take_nthN hjl,hnn] at this;exact this.2 (jB.1 h63)
       refine Zrs [8,9] ?_;refine z23 3 1 (lyF true []) ?_;dsimp only;refine z38 2 0 62 3 (nds []) (h:= ?_);refine z38 2 2 89 5 (lyR 3 []) (h:= ?_);refine z38 2 3 58 3 (cbs []) (h:= ?_);refine zd (hR4 _ _ (hRL2 _ _ (hR3 _ _ (hQ _ _ ?_))));have hE:newE ns dn m ht=5:=by rw[newE,qb (fun g=>g g1),qb g2,qb (any_all hi.2),qb g5]
       have hR:newR ns dn m ht=noFo:=by rw[newR,hE,qb (by decide)]
       rw[hE,hR];refine zm (fun x=>if x=2 then 4 else if x=3 then 5 else if x=4 then 3 else if x=5 then 6 else x) (nf2S 5) (nf2H) (.inl rfl) ?_;refine Zou ?_;refine⟨Zs,Zs,(Zg (fun x=>if x=2 then 4 else if x=3 then 5 else if x=4 then 3 else if x=5 then 6 else x)),Zs,?_⟩
       all_goals first|trivial|exact⟨rfl,trivial⟩
      ·intro h63
       refine za (ze (hN4 _ _ ?_));refine Zrg [0,1,2,3,8,13] ?_;refine ze (hL2 _ _ ?_);rw[show(j:Int)+1=((j+1:Nat):Int) from by omega];exact⟨j+1,⟨⟨by omega,by rw[take_nthN hjl];exact hnn.2 ⟨hj.2,fun g=>by rw[jB.2 g] at h63;cases h63⟩⟩,by omega⟩,id,(Zg id)⟩
     ·intro h53
      exfalso
      replace h53:=Znb h53;have hjl:j=dn.length:=by omega
      subst hjl;have g5:dn.Nodup:=by have:=hj.2;rwa [QV] at this
      exact absurd (by rw[newE,qb (fun g=>g g1),qb g2,qb (any_all hi.2),qf g5]) he
  iterate 8 (refine Zo Zl ?_)
  refine z16 ?_;refine z2e rfl rfl ?_;refine Zgr ?_
  first|refine z1r ?_ ?_|refine(fun(h1:false=true->_) (h2:false=false->_)=>qe h1 fun _=>h2 rfl) ?_ ?_|refine qe ?_ ?_
  ·intro hg8
   first
    |(simp at hg8;done)
    |skip
     try replace hg8:=Znb hg8
     refine Zo id ?_;refine Zc1 (level_spec ht) (id) ?_;iterate 3 (refine Zo Zl ?_)
     refine z8 ?_;refine Zpr ?_;refine hk3 _ ?_;simp;omega
  ·intro hg8;refine⟨.bool false,?_⟩
   first
    |(simp at hg8;done)
    |skip
     try replace hg8:=Znb hg8
     iterate 3 (refine Zo Zl ?_)
     refine z8 ?_;refine Zpr ?_;refine hk3 _ ?_;simp at hg8 ⊢;omega
end
section
theorem rowsOf_four' (a b c d:Int):z4f 1 4 [SV.int .i64 a,SV.int .i64 b,SV.int .i64 c,SV.int .i64 d]=ints [a,b,c,d]:=rfl
theorem newR_facts {ns:List Nd}{dn:List Int}{m ht:Int}(hs:ns.length<=20):lyB (newR ns dn m ht).ly/\(newR ns dn m ht).ns.length<=20/\(newR ns dn m ht).cb.length<=8/\(newR ns dn m ht).ly.length<=1000000000000000:=by
 by_cases he:newE ns dn m ht=0
 ·obtain⟨g1,g2,g3,g4⟩:=newE_zero he;have h:=newF_sh (dn:=dn) g1 hs (show 0<=ht by omega) (by omega) (m:=m.toNat) (by omega) (by omega);rw[newR,qf he];exact⟨h.lyB,hs,by rw[(newF_lenQ ns dn m.toNat ht).2.2.2];omega,by have:=h.lyB.1;omega⟩
 ·rw[newR,qb he];exact⟨⟨qp _,fun i=>by simp[lyA,noFo,noLy]⟩,qp _,qp _,qp _⟩
def JqBm.exE:=aj9 @z17 @zg @zi @zn @zk @z12 @z1a ec2 (aj9 @zj @zt @zo @zl ec13 @zp z43 z4y (aj9 @zu ec3 ec5 @z1d.eq_1 @zz.eq_1 @ints.eq_1 ec33 ec34 (aj5 ec35 ec0 @z13.eq_1 @rowsOf_four' @z1c)))
def JqBm.axE:=aj9 @z17 @zg @zi @zn @zk @z12 @z1a ec2 (aj9 @zj @zt @zo @zl ec13 @zp z43 z4y (aj9 @zu ec3 ec5 @z1d.eq_1 @zz.eq_1 ec33 ec34 ec0 (aj9 @z13.eq_1 @rowsOf_four' @z1c @z1q @z26 @z2n @z31 ec37 @z40)))
open JoQm (gxE)
open JqBm (axE exE)
open JnNm (oxE)
open D0 (sdE)
theorem makesF_spec (ls:List Int)(xs0:List Nd)(dn0:List Int)(p hh:Int)(hx:ls.length<=9223372036854775807)(hx1:xs0.length<=9223372036854775807)(hx2:dn0.length<=9223372036854775807):
  zf prog 3 [.slc false 0 0 0 ls.length,.slc false 1 0 0 xs0.length,.slc false 2 0 0 dn0.length,.int .i64 p,.int .i64 hh] ⟨3,[(0,z1d ls),(1,uQ (.row ⟨false,false,62,3,xs0.length,nds xs0⟩)),(2,uQ (.row ⟨false,false,3,1,dn0.length,ints dn0⟩))]⟩ (fun s _=>s= .bool true):=by
 refine zf.ofC false 87 [.tmp 10] func3 rfl rfl ntmps3 results3 rfl ?_;intro w0 own0 β0 Q hQ hQn;simp only[z18];refine Zrs [0,1,2,3,4] ?_;refine sg [1,2,3,4,11] rfl ?_;intro K hK;refine Zo Zl ?_;refine Zo Zl ?_;refine Zca (new_spec ls hx) (fun q=>if q=1 then 3 else q) ?_;rintro s0 H0 ⟨mm,hm,rfl,rfl⟩ s1 H1 hs1 hH1;obtain⟨hs2,hH2⟩:=Zaf hs1 hH1;clear hs1 hH1;subst hs2 hH2;repeat(with_reducible apply qe;exact sdE)
 refine Zo Zl ?_;refine z8 (Zpr (hK _ _ ?_));clear hK K;refine z6 ?_;refine Zrs [1,2,3,4,11,12] ?_;refine zc fun Q0 hN0 hX0 hR0 hE0=> ?_;refine zx (σ:=Nat×Nat) (fun σ=>σ.1<=3/\σ.2<=mm) (fun σ=>3-σ.1) (fun σ=>[(1,.slc false 1 0 0 xs0.length),(2,.slc false 2 0 0 dn0.length),(3,.int .i64 p),(4,.int .i64 hh),(11,.ptr 3 0 0 0),(12,.int .i64 σ.1)]) (fun σ=>⟨4,[(3,z13 0 mm σ.2),(0,z1d ls),(1,uQ (.row ⟨false,false,62,3,xs0.length,nds xs0⟩)),(2,uQ (.row ⟨false,false,3,1,dn0.length,ints dn0⟩))]⟩) (0,0) ⟨qp _,qp _⟩ (ρ:=id) (Zg id) ?_;rintro⟨i,at1⟩ hi QL1 hL1 hRL1 hEL1;obtain⟨hi1,hi2⟩:=hi;dsimp only at hi1 hi2;refine z6 ?_;refine Zrs [1,2,3,4,11,12,24] ?_;refine z7 _ rfl ?_ ?_
 ·intro h24;replace h24:=Znb h24;refine za (z6 (zc fun Q1 hN1 hX1 hR1 hE1=> ?_));refine sg [1,2,3,4,11,12,13] rfl ?_;intro K hK;refine Zo Zl ?_;refine Zo Zl ?_;refine Zca (roster_spec ls mm at1 6 hx hm hi2 (by omega)) (fun q=>if q=0 then 3 else if q=1 then 0 else q) ?_;rintro s0 H0 ⟨xs,at2,a1,a2,a3,rfl,rfl⟩ s1 H1 hs1 hH1;obtain⟨hs2,hH2⟩:=Zaf hs1 hH1;clear hs1 hH1;subst hs2 hH2;repeat(with_reducible apply qe;exact sdE)
  refine Zo Zl ?_;refine z8 (Zpr (hK _ _ ?_));clear hK K;refine sg [1,2,3,4,11,12,13,14,15,16] rfl ?_;intro K hK;iterate 2 (refine Zo Zl ?_)
  refine Zo Zl ?_;refine Zca (down_spec ls mm at2 hx hm a1 xs xs.length rfl (by omega) 3 (by omega)) (fun q=>if q=0 then 3 else if q=1 then 0 else if q=2 then 4 else q) ?_;rintro s0 H0 ⟨ids,at3,b1,b2,rfl,rfl⟩ s1 H1 hs1 hH1;obtain⟨hs2,hH2⟩:=Zaf hs1 hH1;clear hs1 hH1;subst hs2 hH2;repeat(with_reducible apply qe;exact sdE)
  iterate 2 (refine Zo Zl ?_)
  refine Zo Zl ?_;refine Zca (pick_spec ls [1,2,0,9] mm at3 hx hm b1 (by simp) (by simp)) (fun q=>if q=0 then 3 else if q=1 then 0 else if q=2 then 6 else q) ?_;rintro s0 H0 ⟨i6,at4,c1,c2,rfl,rfl⟩ s1 H1 hs1 hH1;obtain⟨hs2,hH2⟩:=Zaf hs1 hH1;clear hs1 hH1;subst hs2 hH2;repeat(with_reducible apply qe;exact sdE)
  iterate 2 (refine Zo Zl ?_)
  refine Zo Zl ?_;refine Zca (z1y ls mm at4 4 hx hm c1 (by omega)) (fun q=>if q=0 then 3 else if q=1 then 0 else q) ?_;rintro s0 H0 ⟨u,at5,d1,d2,d3,d4,rfl,rfl⟩ s1 H1 hs1 hH1;obtain⟨hs2,hH2⟩:=Zaf hs1 hH1;clear hs1 hH1;subst hs2 hH2;repeat(with_reducible apply qe;exact sdE)
  refine Zo Zl ?_;refine Zo Zl ?_;refine Zca (pick_spec ls [u,-1,2,17] mm at5 hx hm d1 (by simp) (by simp)) (fun q=>if q=0 then 3 else if q=1 then 0 else if q=2 then 7 else q) ?_;rintro s0 H0 ⟨i7,at6,e1,e2,rfl,rfl⟩ s1 H1 hs1 hH1;obtain⟨hs2,hH2⟩:=Zaf hs1 hH1;clear hs1 hH1;subst hs2 hH2;repeat(with_reducible apply qe;exact sdE)
  obtain⟨pn,hpn⟩:∃pn,nth [1,2,0,9] i6=pn:=⟨_,rfl⟩;obtain⟨hn,hhn⟩:∃hn,nth [u,-1,2,17] i7=hn:=⟨_,rfl⟩;rw[hpn,hhn];iterate 3 (refine Zo Zl ?_)
  refine z8 (Zpr (hK _ _ ?_));clear hK K;refine z6 ?_;refine Zrs [1,2,3,4,11,12,13,14,15,16,41] ?_;refine z7 _ rfl ?_ ?_
  ·intro h41;have g41:i=1:=by simp at h41;omega
   refine z3c [1,2,3,4,11,12,13,14,15,16] rfl ?_;intro K hK;iterate 2 (refine Zo Zl ?_)
   refine Zo Zl ?_;refine Zca (oddRoster_spec ls mm at6 hx hm e1 xs xs.length rfl (by omega)) (fun q=>if q=0 then 3 else if q=1 then 0 else if q=2 then 4 else q) ?_;rintro s0 H0 ⟨ys,at7,f1,f2,rfl,rfl⟩ s1 H1 hs1 hH1;obtain⟨hs2,hH2⟩:=Zaf hs1 hH1;clear hs1 hH1;subst hs2 hH2;repeat(with_reducible apply qe;exact sdE)
   refine Zo Zl ?_;refine z8 (Zpr (hK _ _ ?_));clear hK K;refine z6 ?_;refine Zrs [1,2,3,4,11,12,13,14,15,16,56] ?_;refine z7 _ rfl ?_ ?_
   ·intro h56
    exfalso;simp at h56;omega
   ·intro h56
    refine za ?_;refine sg [1,2,3,4,11,12,13,14,15,16,17,18] rfl ?_;intro K hK;iterate 4 (refine Zo Zl ?_)
    refine Zo Zl ?_;refine Zc1 (New_any ys ids ys.length ids.length pn hn rfl rfl (by omega) (by omega)) (fun q=>if q=0 then 8 else if q=1 then 5 else q) ?_;obtain⟨y1,y2,y3,y4⟩:=newR_facts (ns:=ys) (dn:=ids) (m:=pn) (ht:=hn) (by omega);obtain⟨R,hR⟩:∃R,newR ys ids pn hn=R:=⟨_,rfl⟩;rw[hR] at y1 y2 y3 y4 ⊢;iterate 6 (refine Zo Zl ?_)
    refine z8 (Zpr (hK _ _ ?_));clear hK K;refine sg [1,2,3,4,11,12,17,18,19,20] rfl ?_;intro K hK;iterate 4 (refine Zo Zl ?_)
    refine Zo Zl ?_;refine Zc1 (refNew_any ys ids ys.length ids.length pn hn rfl rfl (by omega) (by omega)) (fun q=>if q=0 then 8 else if q=1 then 5 else q) ?_;rw[hR];iterate 6 (refine Zo Zl ?_)
    refine z8 (Zpr (hK _ _ ?_));clear hK K;refine sg [1,2,3,4,11,12,85] rfl ?_;intro K hK;iterate 2 (refine Zo Zl ?_)
    refine Zo Zl ?_;refine Zc1 (sameF_spec R R y1 y1 R.ns.length R.ly.length R.cb.length R.ns.length R.ly.length R.cb.length rfl rfl rfl rfl rfl rfl (by omega) (by omega) (by omega)) (fun q=>if q<4 then q+9 else q+10) ?_;simp only[Ja];iterate 6 (refine Zo Zl ?_)
    refine z8 (Zpr (hK _ _ ?_));clear hK K;refine z7 _ rfl ?_ ?_
    ·intro h85
     exfalso;simp at h85
    ·intro h85
     refine za (ze (hN1 _ _ ?_));refine Zrg [1,2,3,4,11,12] ?_;refine ze (hL1 _ _ ?_);rw[show(i:Int)+1=((i+1:Nat):Int) from by omega];exact⟨(i+1,at7),⟨⟨by dsimp only;omega,f1⟩,by dsimp only;omega⟩,id,(Zg id)⟩
  ·intro h41
   refine za (z6 ?_);refine Zrs [1,2,3,4,11,12,13,14,15,16,56] ?_;refine z7 _ rfl ?_ ?_
   ·intro h56;have g56:xs0.length<=20/\dn0.length<=100:=by simp at h56;omega
    refine Zrg [1,2,3,4,11,12,13,14,15,16] ?_;refine sg [1,2,3,4,11,12,13,14,15,16,17,18] rfl ?_;intro K hK;iterate 4 (refine Zo Zl ?_)
    refine Zo Zl ?_;refine Zc1 (New_any xs0 dn0 xs0.length dn0.length p hh rfl rfl (by omega) (by omega)) (fun q=>if q=0 then 1 else if q=1 then 2 else q) ?_;obtain⟨y1,y2,y3,y4⟩:=newR_facts (ns:=xs0) (dn:=dn0) (m:=p) (ht:=hh) (by omega);obtain⟨R,hR⟩:∃R,newR xs0 dn0 p hh=R:=⟨_,rfl⟩;rw[hR] at y1 y2 y3 y4 ⊢;iterate 6 (refine Zo Zl ?_)
    refine z8 (Zpr (hK _ _ ?_));clear hK K;refine sg [1,2,3,4,11,12,17,18,19,20] rfl ?_;intro K hK;iterate 4 (refine Zo Zl ?_)
    refine Zo Zl ?_;refine Zc1 (refNew_any xs0 dn0 xs0.length dn0.length p hh rfl rfl (by omega) (by omega)) (fun q=>if q=0 then 1 else if q=1 then 2 else q) ?_;rw[hR];iterate 6 (refine Zo Zl ?_)
    refine z8 (Zpr (hK _ _ ?_));clear hK K;refine sg [1,2,3,4,11,12,85] rfl ?_;intro K hK;iterate 2 (refine Zo Zl ?_)
    refine Zo Zl ?_;refine Zc1 (sameF_spec R R y1 y1 R.ns.length R.ly.length R.cb.length R.ns.length R.ly.length R.cb.length rfl rfl rfl rfl rfl rfl (by omega) (by omega) (by omega)) (fun q=>if q<4 then q+8 else q+9) ?_;simp only[Ja];iterate 6 (refine Zo Zl ?_)
    refine z8 (Zpr (hK _ _ ?_));clear hK K;refine z7 _ rfl ?_ ?_
    ·intro h85
     exfalso;simp at h85
    ·intro h85
     refine za (ze (hN1 _ _ ?_));refine Zrg [1,2,3,4,11,12] ?_;refine ze (hL1 _ _ ?_);rw[show(i:Int)+1=((i+1:Nat):Int) from by omega];exact⟨(i+1,at6),⟨⟨by dsimp only;omega,e1⟩,by dsimp only;omega⟩,id,(Zg id)⟩
   ·intro h56
    refine za ?_;refine sg [1,2,3,4,11,12,13,14,15,16,17,18] rfl ?_;intro K hK;iterate 4 (refine Zo Zl ?_)
    refine Zo Zl ?_;refine Zc1 (New_any xs ids xs.length ids.length pn hn rfl rfl (by omega) (by omega)) (fun q=>if q=0 then 4 else if q=1 then 5 else q) ?_;obtain⟨y1,y2,y3,y4⟩:=newR_facts (ns:=xs) (dn:=ids) (m:=pn) (ht:=hn) (by omega);obtain⟨R,hR⟩:∃R,newR xs ids pn hn=R:=⟨_,rfl⟩;rw[hR] at y1 y2 y3 y4 ⊢;iterate 6 (refine Zo Zl ?_)
    refine z8 (Zpr (hK _ _ ?_));clear hK K;refine sg [1,2,3,4,11,12,17,18,19,20] rfl ?_;intro K hK;iterate 4 (refine Zo Zl ?_)
    refine Zo Zl ?_;refine Zc1 (refNew_any xs ids xs.length ids.length pn hn rfl rfl (by omega) (by omega)) (fun q=>if q=0 then 4 else if q=1 then 5 else q) ?_;rw[hR];iterate 6 (refine Zo Zl ?_)
    refine z8 (Zpr (hK _ _ ?_));clear hK K;refine sg [1,2,3,4,11,12,85] rfl ?_;intro K hK;iterate 2 (refine Zo Zl ?_)
    refine Zo Zl ?_;refine Zc1 (sameF_spec R R y1 y1 R.ns.length R.ly.length R.cb.length R.ns.length R.ly.length R.cb.length rfl rfl rfl rfl rfl rfl (by omega) (by omega) (by omega)) (fun q=>if q<4 then q+8 else q+9) ?_;simp only[Ja];iterate 6 (refine Zo Zl ?_)
    refine z8 (Zpr (hK _ _ ?_));clear hK K;refine z7 _ rfl ?_ ?_
    ·intro h85
     exfalso;simp at h85
    ·intro h85
     refine za (ze (hN1 _ _ ?_));refine Zrg [1,2,3,4,11,12] ?_;refine ze (hL1 _ _ ?_);rw[show(i:Int)+1=((i+1:Nat):Int) from by omega];exact⟨(i+1,at6),⟨⟨by dsimp only;omega,e1⟩,by dsimp only;omega⟩,id,(Zg id)⟩
 ·intro h24
  refine zw (hEL1 _ _ _ (hX0 _ _ ?_));refine sg [10] rfl ?_;intro K hK;refine Zo Zl ?_;refine Zc1 (sane13_spec) (id) ?_;refine Zo Zl ?_;refine z8 (Zpr (hK _ _ ?_));clear hK K;refine zd (hQ _ _ ?_);refine zb (H':=⟨3,[]⟩) (.inl rfl) ?_;refine Zou ?_;refine⟨Zs,(Zg id),Zs,?_⟩
  all_goals first|trivial|rfl|exact⟨rfl,trivial⟩
end
end Go.Proofs
namespace Go.Proofs.YtpnefndionckaaaGreatDoor
open _root_.Go.Proofs.Tryz
open Go.ChangeShapes Go.WideShapes Go.RowKit Go.Sk Go.Proofs
theorem own:ownKnob Tryz.prog.godebug=none:=by kernel_rfl
theorem laid:laidOutB prog=true:=by kernel_rfl
theorem rowed:mapsRowed prog=true:=by kernel_rfl
theorem fullS:∀t e,t<Tryz.prog.types.size->Tryz.prog.underlying t=some (.slice e)->0<Tryz.prog.cellsOf e:=slices_full_of _ (by kernel_rfl)
theorem uInts:Tryz.prog.underlying 22=some (.slice 3):=by kernel_rfl
theorem uNodes:Tryz.prog.underlying 23=some (.slice 62):=by kernel_rfl
theorem uInt:Tryz.prog.underlying 3=some (.int .i64):=by kernel_rfl
theorem uStr:Tryz.prog.underlying 9=some .string:=by kernel_rfl
theorem uBool:Tryz.prog.underlying 4=some .bool:=by kernel_rfl
theorem fInt:flatB prog 3 [.i .i64]=true:=by kernel_rfl
theorem fNode:flatB prog 62 [.i .i64,.s,.i .u32]=true:=by kernel_rfl
theorem gTab:Tryz.prog.globalNamed "skipgraph/skipgraphworld.letters" =some 0:=by kernel_rfl
theorem gTabType:(Tryz.prog.globals[0]?).map (·.type)=some 127:=by kernel_rfl
theorem uTab:Tryz.prog.underlying 127=some (.array 6 9):=by kernel_rfl
theorem cTab:Tryz.prog.cellsOf 127=6:=by kernel_rfl
theorem cStr:Tryz.prog.cellsOf 9=1:=by kernel_rfl
theorem oneTab:(List.range Tryz.prog.globals.size).all (fun i=> !tabG prog i||i==0)=true:=by kernel_rfl
theorem tabs {W:World}(h:laidMetH prog [("math/bits.deBruijn32tab",Rows.laid_math_bits_deBruijn32tab),("skipgraph/skipgraphworld.letters",Rows.laid_skipgraph_skipgraphworld_letters)] W):∀i,tabG prog i=true->i<W.heap.size/\TabAt W i:=
 tabs_of_mem gTab gTabType uTab uStr cStr cTab oneTab (laid:=[("math/bits.deBruijn32tab",Rows.laid_math_bits_deBruijn32tab),("skipgraph/skipgraphworld.letters",Rows.laid_skipgraph_skipgraphworld_letters)]) (by exact .tail _ (.head _)) h
theorem gTabB:Tryz.prog.globalNamed "math/bits.deBruijn32tab" =some 1:=by kernel_rfl
theorem gTabBType:(Tryz.prog.globals[1]?).map (·.type)=some 211:=by kernel_rfl
theorem uTabB:Tryz.prog.underlying 211=some (.array 32 5):=by kernel_rfl
theorem uByte:Tryz.prog.underlying 5=some (.int .u8):=by kernel_rfl
theorem cTabB:Tryz.prog.cellsOf 211=32:=by kernel_rfl
theorem cByte:Tryz.prog.cellsOf 5=1:=by kernel_rfl
theorem oneTabB:(List.range Tryz.prog.globals.size).all (fun i=> !tabBG prog i||i==1)=true:=by kernel_rfl
theorem tabsB {W:World}(h:laidMetH prog [("math/bits.deBruijn32tab",Rows.laid_math_bits_deBruijn32tab),("skipgraph/skipgraphworld.letters",Rows.laid_skipgraph_skipgraphworld_letters)] W):∀i,tabBG prog i=true->i<W.heap.size/\TabBAt W i:=
 tabsB_of_mem gTabB gTabBType uTabB uByte cByte cTabB oneTabB (laid:=[("math/bits.deBruijn32tab",Rows.laid_math_bits_deBruijn32tab),("skipgraph/skipgraphworld.letters",Rows.laid_skipgraph_skipgraphworld_letters)]) (by exact .head _) h
def toInt:List Value->Int
 |[.int _ z]=>z
 |_=>0
def toInts (rows:List (List Value)):List Int:=rows.map toInt
def toNd:List Value->Nd
 |[.int _ a,.string k,.int _ w]=>⟨a,k,w⟩
 |_=>noNd
def toNds (rows:List (List Value)):List Nd:=rows.map toNd
theorem ints_rows {w:World}{v:Value}{q:Option Sk.Loc}{rows:List (List Value)}(h:RwIn w v q [.i .i64] rows)(i:Nat)(r:List Value)(hr:rows[i]? =some r):ints (toInts rows) i=r.map svOf:=by
 have hok:=h.ok r (qS hr);rcases r with _|⟨v,_|⟨v',r⟩⟩
 ·exact hok.elim
 ·obtain⟨⟨z,rfl,_⟩,_⟩:=hok;simp only[ints,nth,toInts,List.getD,qP,hr,Q9,Jw,toInt,q7,QY,svOf]
 ·exact hok.2.elim
theorem nds_rows {w:World}{v:Value}{q:Option Sk.Loc}{rows:List (List Value)}(h:RwIn w v q [.i .i64,.s,.i .u32] rows)(i:Nat)(r:List Value)(hr:rows[i]? =some r):nds (toNds rows) i=r.map svOf:=by
 have hok:=h.ok r (qS hr);rcases r with _|⟨v,_|⟨v1,_|⟨v2,_|⟨v3,r⟩⟩⟩⟩
 ·exact hok.elim
 ·exact hok.2.elim
 ·exact hok.2.2.elim
 ·obtain⟨⟨a,rfl,_⟩,⟨k,rfl,_⟩,⟨z,rfl,_⟩,_⟩:=hok;simp only[nds,nd,toNds,List.getD,qP,hr,Q9,Jw,toNd,q7,QY,svOf,Nd.sv]
 ·exact hok.2.2.2.elim
theorem ints_in {β:Env}{w:World}{v:Value}{q:Option Sk.Loc}{rows:List (List Value)}(h:RwIn w v q [.i .i64] rows){id:Nat}(hq:β id 0=q):
  den β (.slc false id 0 0 (toInts rows).length) v/\(Sk.Obj.row ⟨false,false,3,1,(toInts rows).length,ints (toInts rows)⟩).holds β w q:=by
 have:=rows_in h hq 3 (ints (toInts rows)) (ints_rows h);simpa [toInts] using this
theorem nds_in {β:Env}{w:World}{v:Value}{q:Option Sk.Loc}{rows:List (List Value)}(h:RwIn w v q [.i .i64,.s,.i .u32] rows){id:Nat}(hq:β id 0=q):
  den β (.slc false id 0 0 (toNds rows).length) v/\(Sk.Obj.row ⟨false,false,62,3,(toNds rows).length,nds (toNds rows)⟩).holds β w q:=by
 have:=rows_in h hq 62 (nds (toNds rows)) (nds_rows h);simpa [toNds] using this
theorem ints_len {w:World}{v:Value}{q:Option Sk.Loc}{rows:List (List Value)}(h:RwIn w v q [.i .i64] rows):(toInts rows).length<=9223372036854775807:=by
 have:=h.len;simpa [toInts,maxLen] using this
theorem nds_len {w:World}{v:Value}{q:Option Sk.Loc}{rows:List (List Value)}(h:RwIn w v q [.i .i64,.s,.i .u32] rows):(toNds rows).length<=9223372036854775807:=by
 have:=h.len;simpa [toNds,maxLen] using this
theorem ints_ltO (m:Nat)(xs:List Int):(Sk.Obj.row ⟨false,false,3,1,xs.length,ints xs⟩).lt m:=Sk.Obj.lt_row.2 fun i _=>by simp[ints,SV.ltL,SV.lt]
theorem nds_ltO (m:Nat)(xs:List Nd):(Sk.Obj.row ⟨false,false,62,3,xs.length,nds xs⟩).lt m:=Sk.Obj.lt_row.2 fun i _=>z4e m xs i
def putCells (l:List Value):Go.Obj->Go.Obj
 |.cells _ t frozen=> .cells l.toArray t frozen
 |o=>o
noncomputable def laidWorld (os:Os):World:=
 {World.holding prog os ⟨#[],#[],[]⟩ with heap:=((World.holding prog os ⟨#[],#[],[]⟩).heap.modify 0 (putCells (letters.map Value.string))).modify 1 (putCells (db32.map (Value.int IntKind.u8)))}
end Go.Proofs.YtpnefndionckaaaGreatDoor
namespace Go.Proofs.YtpnefndionckaaaGreatDoor.joinMakesTop
open _root_.Go.Proofs.Tryz
open Go.ChangeShapes Go.WideShapes Go.RowKit Go.Sk Go.Proofs
theorem top (W:World)(v0 v1 v2 v3 v4:Value)(q0 q1 q2:Option Sk.Loc)(r0 r1 r2:List (List Value))(h0:RwIn W v0 q0 [.i .i64] r0)(h1:RwIn W v1 q1 [.i .i64,.s,.i .u32] r1)(h2:RwIn W v2 q2 [.i .i64] r2)(n3:Int)(h3:v3= .int .i64 n3)(n4:Int)(h4:v4= .int .i64 n4)
  (htab:∀i,tabG prog i=true->i<W.heap.size/\TabAt W i) (htabB:∀i,tabBG prog i=true->i<W.heap.size/\TabBAt W i):Calls prog 3 #[v0,v1,v2,v3,v4] W fun e w'=>e= .returned (.bool true)/\Below W.heap.size W w':=by
 let β:Env:=fun id _=>if id=0 then q0 else if id=1 then q1 else q2
 obtain⟨a0,b0⟩:=ints_in (β:=β) (id:=0) h0 rfl;obtain⟨a1,b1⟩:=nds_in (β:=β) (id:=1) h1 rfl;obtain⟨a2,b2⟩:=ints_in (β:=β) (id:=2) h2 rfl;refine zf.top (Ent.of func3 (by kernel_rfl) (by kernel_rfl)) (makesF_spec (toInts r0) (toNds r1) (toInts r2) n3 n4 (ints_len h0) (nds_len h1) (ints_len h2)) β W [v0,v1,v2,v3,v4] (fun id k o ho=> ?_) ⟨v0,[v1,v2,v3,v4],a0,⟨v1,[v2,v3,v4],a1,⟨v2,[v3,v4],a2,⟨v3,[v4],h3,⟨v4,[],h4,rfl,rfl⟩,rfl⟩,rfl⟩,rfl⟩,rfl⟩ (by simp[SV.ltL,SV.lt]) htab htabB;obtain⟨c,F,hf,hk,rfl⟩:=z1g ho;simp only[Sk.find,inNds,z1d,uQ] at hf
 split at hf
 ·rename_i e;subst e;cases hf
  exact⟨rfl,by show(0:Nat)<3;omega,ints_ltO _ _,b0⟩
 ·skip
  split at hf
  ·rename_i e;subst e;cases hf
   exact⟨rfl,by show(1:Nat)<3;omega,nds_ltO _ _,b1⟩
  ·skip
   split at hf
   ·rename_i e;subst e;cases hf
    exact⟨rfl,by show(2:Nat)<3;omega,ints_ltO _ _,b2⟩
   ·cases hf
theorem contract (H:Type)(enc:TypeId×Value->H)(W:World)(base:Nat)(args:Array Value)(ds gs:List (DataW H))(before:List MemPlace)
  (hval:∀(j:Nat) t v,Tryz.f3.params[j]? =some t->args[j]? =some v->Value.okWide prog W .any base t v)
  (hW:DataW.Whole enc prog Tryz.f3.params.toList Rows.joinMakesSpec.vars false W args.toList ds gs before) (hL:laidMetH prog Rows.joinMakesRow.laid W):
  Calls prog 3 args W fun e W'=> ∃v,e= .returned v/\Rows.joinMakesSpec.post enc prog Tryz.f3 false true false false W args v W':=by
 have hW1:=hW;obtain⟨p,q,hA0,hV,rfl,_,_⟩:=hW;have hA:DataW.TrodAll enc prog W 0 (fun _=>true) true Tryz.f3.params.toList args.toList ds p:=hA0;have hval1:∀(j:Nat) t v,Tryz.f3.params[j]? =some t->args[j]? =some v->Value.okWide prog W .any base t v:=hval;rw[params3] at hA hval1;obtain⟨v0,vs0,d0,ds0,p0,q0,ha0,rfl,rfl,h0,r0⟩:=trodAll_cons hA;obtain⟨v1,vs1,d1,ds1,p1,q1,ha1,rfl,rfl,h1,r1⟩:=trodAll_cons r0;obtain⟨v2,vs2,d2,ds2,p2,q2,ha2,rfl,rfl,h2,r2⟩:=trodAll_cons r1;obtain⟨v3,vs3,d3,ds3,p3,q3,ha3,rfl,rfl,h3,r3⟩:=trodAll_cons r2;obtain⟨v4,vs4,d4,ds4,p4,q4,ha4,rfl,rfl,h4,r4⟩:=trodAll_cons r3;obtain⟨rfl,rfl,rfl⟩:=trodAll_nil r4;obtain rfl:args= #[v0,v1,v2,v3,v4]:=by cases args;simp_all
 obtain⟨_,_,x0⟩:=rows_open uInts fInt (by simp) (hval1 0 _ v0 rfl rfl) h0;obtain⟨_,_,x1⟩:=rows_open uNodes fNode (by simp) (hval1 1 _ v1 rfl rfl) h1;obtain⟨_,_,x2⟩:=rows_open uInts fInt (by simp) (hval1 2 _ v2 rfl rfl) h2;obtain⟨n3,x3,_⟩:=open_int uInt (hval1 3 _ v3 rfl rfl) h3;obtain⟨n4,x4,_⟩:=open_int uInt (hval1 4 _ v4 rfl rfl) h4;refine(top W v0 v1 v2 v3 v4 _ _ _ _ _ _ x0 x1 x2 n3 x3 n4 x4 (tabs hL) (tabsB hL)).mono fun e W1 ⟨he,hb⟩=> ?_;subst he;refine⟨_,rfl,law_post laid rowed fullS (by decide+kernel) rfl hW1 hb rfl uBool fun ds hd=> ?_⟩;have hd1:ds.length=5:=hd
 match ds,hd1 with
 |[_,_,_,_,_],_=>rfl
theorem laid_met (os:Os):laidMet prog Rows.joinMakesRow.laid ((laidWorld os).forCall (fun _ _=>0) ⟨#[],#[.slice none 0 0,.slice none 0 0,.slice none 0 0,.int .i64 0,.int .i64 0],[]⟩).memory:=
 laidMet_of_run' 8 (by kernel_rfl) (by kernel_rfl)
theorem reads (os:Os){H:Type}(enc:TypeId×Value->H):∃places,DataW.whole enc prog ((laidWorld os).forCall (fun _ _=>0) ⟨#[],#[.slice none 0 0,.slice none 0 0,.slice none 0 0,.int .i64 0,.int .i64 0],[]⟩).memory Tryz.f3.params.toList Rows.joinMakesSpec.vars false #[Value.slice none 0 0,.slice none 0 0,.slice none 0 0,.int .i64 0,.int .i64 0].toList 8=some ([.nil,.nil,.nil,.lit (.int .i64 0),.lit (.int .i64 0)],[],places):=
 ⟨[],by kernel_rfl⟩
set_option maxRecDepth 100000 in
theorem lifted (os:Os)(started:os.Started)(H:Type)(enc:TypeId×Value->H)(F:Stop.Interp):
  ReturnsInHanded {} Tryz.checked os 3 .any ((OpenSpec.ofChange Rows.joinMakesSpec).preRow enc prog Tryz.f3 Rows.joinMakesRow.domain false Rows.joinMakesRow.laid) (((OpenSpec.ofChange Rows.joinMakesSpec).at F).post enc prog Tryz.f3 false true false false):=by
 obtain⟨places,hx⟩:=reads os enc
 refine returnsInHanded_of_row (C:=Tryz.checked) (s:=OpenSpec.ofChange Rows.joinMakesSpec) own started (by kernel_rfl) func3
  (witness_row_at (enc:=enc) (C:=Tryz.checked) false (laidWorld os) #[.slice none 0 0,.slice none 0 0,.slice none 0 0,.int .i64 0,.int .i64 0] rfl (by kernel_rfl) (by kernel_rfl) (by kernel_rfl)
   (OpenSpec.preRow_of_cond 8 hx (by kernel_rfl) (fun k hk=>by cases hk) (by kernel_rfl) (laid_met os))) ?_
 intro W base args ds gs before hval hW _ _ _ hL _ _;exact contract H enc W base args ds gs before hval hW hL
theorem said:Rows.JoinMakesSaid:=
 OpenClaim.holds_of_cond 3 Tryz.f3 rfl rfl rfl rfl rfl rfl rfl ⟨rfl,rfl,rfl,rfl,rfl⟩ rfl rfl rfl rfl rfl (by kernel_rfl) func3 (by kernel_rfl)
  (jt (by kernel_rfl)) (by unfold Func.isWrapper;first|(rw[qf (by decide+kernel)];kernel_rfl)|(rw[qb (by decide+kernel)];exact⟨rfl,rfl⟩))
  (fun os started H enc _ F=>by rw[OpenClaim.pre_eq_preRow];exact lifted os started H enc F)
theorem plain (f:FuncId)(fn:Func)(hf:Tryz.pinned.checked.prog.funcNamed "skipgraph/skipgraphlaw13.JoinMakes" =some f)(hfn:Tryz.pinned.checked.prog.funcs[f]? =some fn):
  false=Tryz.pinned.checked.prog.looks []/\∀(j:Nat) t,fn.params[j]? =some t->Tryz.pinned.checked.prog.wantsStandIn t=false:=by
 obtain rfl:f=3:=jE ((show Tryz.prog.funcNamed "skipgraph/skipgraphlaw13.JoinMakes" =some 3 by kernel_rfl).symm.trans hf)|>.symm
 obtain rfl:fn=Tryz.f3:=(jE (Tryz.func3.symm.trans hfn)).symm;refine⟨by kernel_rfl,fun j t ht=> ?_⟩;rw[params3] at ht;have hm:t∈[22,23,22,3,3]:=by simpa using jA ht
 have hall:([22,23,22,3,3].all fun u=> !Tryz.prog.wantsStandIn u)=true:=by kernel_rfl
 exact(show Tryz.prog.wantsStandIn t=false by simpa using qt.1 hall t hm)
theorem proved:Rows.JoinMakesCardSaid:=
 Claim7.holds_tied_plain_at .later [] _ _ _ _ said (fun _ h=>by cases h) (by kernel_rfl) (fun _ h=>by cases h) joinMakes_row_tie rfl ⟨rfl,rfl⟩ (by kernel_rfl) rfl plain (by kernel_rfl)
end Go.Proofs.YtpnefndionckaaaGreatDoor.joinMakesTop
#print axioms Go.Proofs.YtpnefndionckaaaGreatDoor.joinMakesTop.proved
