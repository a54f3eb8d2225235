/-
  MoveRebalances: for every input the law returns true, and the input reads as before.
  Conditions: those that each statement names.
-/
import Derived.Test.YtcgbbbockmcmoaaGreatDoorQxb
import Derived.Test.YtcgbbbockmcmoaaGreatDoorChecked
import Derived.Below
import Derived.ChangeSame
import Derived.ChangeSlices
import Derived.ReadAgain
import Derived.OpenShut
import Derived.JoinedOf
import Derived.Handed
import Derived.Deep.Slices
import Derived.Lib.LaidTab
import Derived.Test.YtcgbbbockmcmoaaGreatDoorQxf
import Derived.Test.YtcgbbbockmcmoaaGreatDoorQxe
import Derived.Test.YtcgbbbockmcmoaaGreatDoorRows
import Derived.Test.YtcgbbbockmcmoaaGreatDoorCards
import Derived.Test.YtcgbbbockmcmoaaGreatDoorTie
import Derived.Test.YtcgbbbockmcmoaaGreatDoorQxc
import Derived.WalkKit
import Derived.ProofKit
import Derived.Deep.DeepHandedRow
set_option linter.unusedSimpArgs false
set_option linter.unusedVariables false
set_option maxRecDepth 4000
namespace Go.Sk
open Go.RowKit Go.WideShapes Go.ChangeShapes
theorem below_sameAt {w w':World}(h:Below w.heap.size w w'){p:MemPlace}(hp:p.block<w.heap.size):w.sameAt w' p:=by
 cases p with
 |cell b off=>exact World.cell?_of_block (h.block b hp)
 |map b=>exact h.block b hp
section
variable {H:Type} {enc:TypeId×Value→H} {P:Program}
theorem trodAll_carry {w w':World}{base:Nat}{sp:Nat→Bool}{held:Bool}:∀{ts:List TypeId} {vs:List Value} {ds:List (DataW H)} {ps:List MemPlace},DataW.TrodAll enc P w base sp held ts vs ds ps→(∀p∈ps,w.sameAt w' p)→
  DataW.TrodAll enc P w' base sp held ts vs ds ps
 |[],[],[],_,h,_=>h
 |_::_,_::_,_::_,_,⟨p,q,⟨n,h1⟩,h2,e⟩,hs=>
  ⟨p,q,⟨n,DataW.trod_carry n _ _ _ h1 fun x hx=>hs x (by rw[e];exact List.mem_append_left _ hx)⟩,trodAll_carry h2 (fun x hx=>hs x (by rw[e];exact List.mem_append_right _ hx)),e⟩
theorem trodAll_len {w:World}{base:Nat}{sp:Nat→Bool}{held:Bool}:∀{ts:List TypeId} {vs:List Value} {ds:List (DataW H)} {ps:List MemPlace},DataW.TrodAll enc P w base sp held ts vs ds ps→ds.length=ts.length
 |[],[],[],_,_=>rfl
 |_::_,_::_,_::_,_,⟨_,_,_,h2,_⟩=>by simp[trodAll_len h2]
theorem law_post {f:Func}{s:ChangeSpec}{apart fresh handsOn again:Bool}{W W':World}{args:Array Value}{ds gs:List (DataW H)}{before:List MemPlace}(hl:laidOutB P=true)(hm:mapsRowed P=true)
  (hz:∀t e,t<P.types.size→P.underlying t=some (.slice e)→0<P.cellsOf e) (hts:∀t∈f.params.toList,t<P.types.size) (hv:s.vars=[])
  (hW:DataW.Whole enc P f.params.toList s.vars apart W args.toList ds gs before) (hb:Below W.heap.size W W') {tb:TypeId} (hres:f.resultTypes= #[tb]) (hbool:P.underlying tb=some .bool)
  (hfn:∀ds:List (DataW H),ds.length=f.params.toList.length→s.fn H ds={results:=[.lit (.bool true)],args:=ds}):s.post enc P f apart fresh handsOn again W args (.bool true) W':=by
 have hW':=hW;obtain⟨p,q,hA,hV,rfl,hfz,hnd⟩:=hW;rw[hv] at hV
 have hq:gs=[]∧q=[]:=by
  cases gs with
  |nil=>exact⟨rfl,hV⟩
  |cons _ _=>exact hV.elim
 obtain⟨rfl,rfl⟩:=hq;have hfn':=hfn (ds++[]) (by rw[List.append_nil];exact trodAll_len hA);have hlt:∀x∈p,x.block<W.heap.size:=DataW.TrodAll.lt hA
 have hargs:∀sp:Nat→Bool,(∀x∈p++[],sp x.block=true)→DataW.TrodAll enc P W' 0 sp true f.params.toList args.toList ds p:=fun sp hsp=>
  trodAll_carry (DataW.TrodAll.respare (kids_rows hl hm) hz hts hA fun x hx=>hsp x (List.mem_append_left _ hx)) fun x hx=>below_sameAt hb (hlt x hx)
 have hrl:((Value.bool true).resultList f.resultTypes.size)=[.bool true]:=by rw[hres];rfl
 have hres':∀(b:Nat) (sp:Nat→Bool) (hd:Bool),DataW.TrodAll enc P W' b sp hd f.resultTypes.toList ((Value.bool true).resultList f.resultTypes.size) (s.fn H (ds++[])).results []:=fun b sp hd=>by
  rw[hrl,hfn',hres];exact trodAll_mk1 (shut_bool hbool true)
 have hvars:∀sp:Nat→Bool,DataW.TrodVars enc P W' sp s.vars (s.fn H (ds++[])).vars []:=fun sp=>by rw[hfn',hv];rfl
 have hargs':∀sp:Nat→Bool,(∀x∈p++[],sp x.block=true)→DataW.TrodAll enc P W' 0 sp true f.params.toList args.toList (s.fn H (ds++[])).args p:=fun sp hsp=>by
  rw[hfn'];simpa using hargs sp hsp
 have hold:∀x∈p++[],(fun b=>decide (b<W.heap.size)) x.block=true:=fun x hx=>by simpa using hlt x (by simpa using hx)
 refine⟨ds,[],p++[],[],p,[],hW',hres' _ _ _,hargs' _ hold,hvars _,World.keptBut_mono (fun x hx=>⟨hx,?_⟩) (hb.frame (· ∈p++[])),fun _=>⟨?_,_,_,([]++p)++[],⟨[]++p,[],trodAll_append (hargs' _ (fun _ _=>rfl)) (hres' _ _ _),hvars _,rfl,?_,?_⟩,?_⟩⟩
 ·exact .inr (.inl (by simpa using hx))
 ·intro j t r ht hr;rw[hrl] at hr;rw[hres] at ht
  cases j with
  |zero=>simp at ht hr;subst ht hr;exact okWide_bool_mk hbool _
  |succ j=>simp at hr
 ·intro b off hp;have hin:MemPlace.cell b off∈p++[]:=by simpa using hp
  rw[hb.frozen (hlt _ (by simpa using hin))];exact hfz b off hin
 ·intro ha;simpa using hnd ha
 ·intro x hx _;simpa using hx
end
theorem ze.top {P:Program}{f:FuncId}{args:List SV}{H0:AH}(hent:Ent P f)(hF:ze P f args H0 (fun s _=>s= .bool true))(β:Env)(w:World)(vs:List Value)
  (hh:∀id k o,look H0.os id k=some o→o.own=false∧id<H0.nxt∧o.lt H0.nxt∧o.holds β w (β id k)) (hd:z4i β args vs) (hl:SV.ltL H0.nxt args) (htab:∀g,tabG P g=true→g<w.heap.size∧TabAt w g) (htabB:∀g,tabBG P g=true→g<w.heap.size∧TabBAt w g):
  Calls P f vs.toArray w fun e w'=>e= .returned (.bool true)∧Below w.heap.size w w':=by
 let own0:Nat→Nat→Prop:=fun id k=> ∃o,look H0.os id k=some o∧o.own=true
 let X:Cx:={P:=P,n:=0,w0:=w,own0:=own0,m0:=H0.nxt,β0:=β}
 have no:∀id k o,look H0.os id k=some o→¬o.own=true:=fun id k o h=>by rw[(hh id k o h).1];simp
 have no0:∀id k,¬own0 id k:=fun id k ⟨o,h1,h2⟩=>no id k o h1 h2
 have hS:St X β H0 w:={
  os:=rfl,tape:=rfl,output:=rfl,size:=Nat.le_refl _,fix:=fun _ _ _=>rfl
  holds:=fun id k o h=>(hh id k o h).2.2.2
  sep:=fun id k id' k' o o' L L' h _ ho=>absurd ho (no id k o h)
  old:=fun _ _ _=>rfl
  mine:=fun id k o L h ho=>absurd ho (no id k o h)
  keep:=fun id k h=>absurd h (no0 id k)
  m0:=Nat.le_refl _
  lt:=fun id k o h=>⟨(hh id k o h).2.1,(hh id k o h).2.2.1⟩
  tabs:=⟨fun g hg=>⟨(htab g hg).1,(htab g hg).2,fun id k _ h _=>absurd h (no0 id k)⟩,fun g hg=>⟨(htabB g hg).1,(htabB g hg).2,fun id k _ h _=>absurd h (no0 id k)⟩⟩
  drawn:=Nat.le_refl _}
 refine((hF X β w vs rfl rfl rfl rfl rfl hS hd hl).calls hent).mono fun e w' ⟨v,he,β',s,H',hs,_,hdv,_,hS'⟩=> ?_;subst hs;simp only[den] at hdv;subst hdv
 exact⟨he,hS'.os,hS'.tape,hS'.output,hS'.size,fun b hb=>hS'.old b hb fun id k o L h ho hβ=>by
  rcases hS'.mine id k o L h ho hβ with⟨_,h1⟩|⟨_,h2⟩
  ·exact absurd h1 (no0 id k)
  ·have:w.heap.size≤L.blk:=h2
   omega⟩
end Go.Sk

namespace Go.Sk
open Go.RowKit Go.WideShapes Go.ChangeShapes
inductive FK where
 |i (k:IntKind)|s|b
def FK.is (P:Program)(t:TypeId):FK→Bool
 |.i k=>match P.underlying t with|some (.int k')=>k'==k|_=>false
 |.s=>match P.underlying t with|some .string=>true|_=>false
 |.b=>match P.underlying t with|some .bool=>true|_=>false
def FK.ok:FK→Value→Prop
 |.i k,v=> ∃z,v= .int k z∧(Lit.int k z).wf=true
 |.s,v=> ∃x:ByteArray,v= .string x∧x.size≤maxLen
 |.b,v=> ∃x,v= .bool x
def svOf:Value→SV
 |.int k z=> .int k z
 |.string x=> .str x
 |.bool x=> .bool x
 |v=> .raw v
theorem FK.den {β:Env}{k:FK}{v:Value}(h:k.ok v):den β (svOf v) v∧(svOf v).scalar=true∧∀m,(svOf v).lt m:=by
 cases k<;>simp only[FK.ok] at h
 ·obtain⟨z,rfl,_⟩:=h;exact⟨rfl,rfl,fun _=>trivial⟩
 ·obtain⟨z,rfl,_⟩:=h;exact⟨rfl,rfl,fun _=>trivial⟩
 ·obtain⟨z,rfl⟩:=h;exact⟨rfl,rfl,fun _=>trivial⟩
def okRow:List FK→List Value→Prop
 |[],[]=>True
 |k::ks,v::vs=>k.ok v∧okRow ks vs
 |_,_=>False
theorem okRow_len:∀{ks:List FK} {vs:List Value},okRow ks vs→vs.length=ks.length
 |[],[],_=>rfl
 |_::_,_::_,h=>by simp[okRow_len h.2]
 |[],_::_,h=>h.elim
 |_::_,[],h=>h.elim
theorem okRow_get:∀{ks:List FK} {vs:List Value},okRow ks vs→∀(j:Nat) (v:Value),vs[j]? =some v→∃k:FK,k.ok v
 |[],[],_,j,v,h=>by simp at h
 |k::_,_::_,h,j,v,hj=>by
  cases j with
  |zero=>simp at hj;subst hj;exact⟨k,h.1⟩
  |succ j=>simp at hj;exact okRow_get h.2 j v hj
 |[],_::_,h,_,_,_=>h.elim
 |_::_,[],h,_,_,_=>h.elim
def fldsB (P:Program)(fs:Array Field):Nat→List FK→Bool
 |i,[]=>i==fs.size
 |i,k::ks=>(match fs[i]? with|some f=>f.offset==i && P.cellsOf f.type==1 && k.is P f.type|none=>false) && fldsB P fs (i+1) ks
def flatB (P:Program)(t:TypeId)(ks:List FK):Bool:=
 P.cellsOf t==ks.length && (match P.underlying t with
  |some (.struct fs)=>fldsB P fs 0 ks
  |_=>match ks with|[k]=>k.is P t|_=>false)
section
variable {H:Type} {enc:TypeId×Value→H} {P:Program} {w:World} {base:Nat} {sp:Nat→Bool} {held:Bool}
theorem one_open {k:FK}{t:TypeId}{fuel:Nat}{cs:List Value}{x:DataW H×List MemPlace}(hk:k.is P t=true)(h:DataW.trod enc P w base sp held fuel t cs=some x):∃v,cs=[v]∧k.ok v:=by
 cases k<;>simp only[FK.is] at hk
 ·split at hk
  ·rename_i k' hu;obtain rfl:=eq_of_beq hk;obtain⟨n,rfl,_,hw⟩:=DataW.trod_int hu h;exact⟨_,rfl,n,rfl,hw⟩
  ·cases hk
 ·split at hk
  ·rename_i hu;obtain⟨s,rfl,_,hs⟩:=DataW.trod_string hu h;exact⟨_,rfl,s,rfl,hs⟩
  ·cases hk
 ·split at hk
  ·rename_i hu;obtain⟨b,rfl,_⟩:=DataW.trod_bool hu h;exact⟨_,rfl,b,rfl⟩
  ·cases hk
theorem flds_open {fs:Array Field}{n:Nat}{cs:List Value}{xs:List (DataW H×List MemPlace)}(hx:xs.length=fs.size)(hf:∀(i:Nat) (f:Field),fs[i]? =some f→DataW.trod enc P w base sp held n f.type ((cs.drop f.offset).take (P.cellsOf f.type))=xs[i]?):
  ∀(ks:List FK) (i:Nat),fldsB P fs i ks=true→i+ks.length=cs.length→okRow ks (cs.drop i)
 |[],i,_,hl=>by rw[List.drop_eq_nil_of_le (by simp at hl;omega)];trivial
 |k::ks,i,h,hl=>by
  simp only[fldsB,Bool.and_eq_true] at h;obtain⟨h1,h2⟩:=h;simp only[List.length_cons] at hl
  split at h1
  ·rename_i f hfi;simp only[Bool.and_eq_true,beq_iff_eq] at h1;obtain⟨⟨h3,h4⟩,h5⟩:=h1;have h6:=hf i f hfi;have hi:i<xs.length:=by rw[hx];exact(Array.getElem?_eq_some_iff.1 hfi).1
   rw[h3,h4,List.getElem?_eq_getElem hi] at h6;obtain⟨v,hv,hok⟩:=one_open h5 h6;rw[List.drop_eq_getElem_cons (by omega),List.take_succ_cons,List.take_zero] at hv;rw[List.drop_eq_getElem_cons (by omega)];have:cs[i]=v:=by simpa using hv
   rw[this];exact⟨hok,flds_open hx hf ks (i+1) h2 (by omega)⟩
  ·cases h1
theorem flat_open {t:TypeId}{ks:List FK}{fuel:Nat}{cs:List Value}{x:DataW H×List MemPlace}(hb:flatB P t ks=true)(h:DataW.trod enc P w base sp held fuel t cs=some x):okRow ks cs:=by
 simp only[flatB,Bool.and_eq_true,beq_iff_eq] at hb;obtain⟨hc,hb⟩:=hb
 split at hb
 ·rename_i fs hu;obtain⟨xs,m,_,_,hl,hxl,hf⟩:=DataW.trod_struct hu h;have:=flds_open hxl hf ks 0 hb (by omega);rwa [List.drop_zero] at this
 ·split at hb
  ·rename_i k;obtain⟨v,rfl,hok⟩:=one_open hb h;exact⟨hok,trivial⟩
  ·cases hb
structure RwIn (w:World) (v:Value) (q:Option Loc) (ks:List FK) (rows:List (List Value)):Prop where
 len:rows.length≤maxLen
 ok:∀r∈rows,okRow ks r
 val:∃a c,v= .slice a rows.length c∧rows.length≤c∧(0<rows.length→∃L,q=some L∧a=some ⟨L.blk,L.off,none⟩)
 mem:(rows.length=0∧q=none)∨∃L,q=some L∧L.sz=ks.length∧L.blk<w.heap.size∧∀(i:Nat) (r:List Value),rows[i]? =some r→∀(j:Nat) (u:Value),r[j]? =some u→w.cell? ⟨L.blk,L.off+i*ks.length+j,none⟩=some u
theorem rows_open {t e:TypeId}{ks:List FK}{v:Value}{d:DataW H}{p:List MemPlace}(ht:P.underlying t=some (.slice e))(hb:flatB P e ks=true)(hk0:0<ks.length){b0:Nat}
  (hval:Value.okWide P w .any b0 t v) (h:DataW.Trod enc P w base sp held t v d p):∃q rows,RwIn w v q ks rows:=by
 obtain⟨n,hn⟩:=h;obtain⟨a0,l0,c0,rfl⟩:=okWide_slice ht hval;have hce:P.cellsOf e=ks.length:=by simp only[flatB,Bool.and_eq_true,beq_iff_eq] at hb;exact hb.1
 have hcs:(Value.slice a0 l0 c0).cells.toList=[Value.slice a0 l0 c0]:=rfl;rw[hcs] at hn;rcases Deep.open_slice ht hn with⟨hv,_⟩|⟨a,len,cap,m,n',D,Pl,hv,hbb,hlc,hcm,hmm,_,hel⟩
 ·cases hv
  exact⟨none,[],⟨by simp,by simp,⟨none,0,rfl,by simp,by simp⟩,.inl ⟨rfl,rfl⟩⟩⟩
 ·cases hv
  have hml:l0≤m:=by rw[hmm];split<;>omega
  obtain⟨R,hR⟩:=Deep.choose_lt (α:=List Value) (p:=fun i cs=>w.cells? base (a.add (i*P.cellsOf e)) (P.cellsOf e)=some cs∧DataW.trod enc P w base sp held n' e cs=some (D i,Pl i)) hel;have hrl:((List.range l0).map R).length=l0:=by simp
  have hget:∀i r,((List.range l0).map R)[i]? =some r→i<l0∧r=R i:=fun i r h=>by
   simp only[List.getElem?_map,Option.map_eq_some_iff] at h;obtain⟨k,h1,h2⟩:=h
   have hi:i<l0:=by
    rcases Nat.lt_or_ge i l0 with h|h
    ·exact h
    ·rw[List.getElem?_eq_none (by simpa using h)] at h1;cases h1
   rw[List.getElem?_range hi] at h1
   cases h1
   exact⟨hi,h2.symm⟩
  have hok:∀i,i<m→okRow ks (R i):=fun i hi=>flat_open hb (hR i hi).2
  have hrow:∀r∈(List.range l0).map R,okRow ks r:=fun r hr=>by
   obtain⟨i,hi,rfl⟩:=List.mem_map.1 hr;exact hok i (by have:=List.mem_range.1 hi;omega)
  by_cases h0:l0=0
  ·subst h0;exact⟨none,[],⟨by simp,by simp,⟨some a,c0,rfl,by simp,by simp⟩,.inl ⟨rfl,rfl⟩⟩⟩
  ·have hcell:∀i,i<l0→∀(j:Nat) (u:Value),(R i)[j]? =some u→w.cell? ((a.add (i*ks.length)).add j)=some u:=fun i hi j u hj=>by
    obtain⟨h1,h2⟩:=hR i (by omega);obtain⟨_,hlen,hc⟩:=World.cells?_some h1;have hjl:j<P.cellsOf e:=by rw[←hlen];exact(List.getElem?_eq_some_iff.1 hj).1
    rw[←hce,hc j hjl];exact hj
   have hr0:∃u,(R 0)[0]? =some u:=by
    have:=okRow_len (hok 0 (by omega));exact⟨_,List.getElem?_eq_getElem (by omega)⟩
   obtain⟨u0,hu0⟩:=hr0;have hc0:=hcell 0 (by omega) 0 u0 hu0;have hsp:a.spot=none:=World.cell?_spot (by unfold Addr.add at hc0;simpa using hc0);obtain⟨b,o,s0⟩:=a;simp only at hsp;subst hsp
   have hblk:b<w.heap.size:=by
    rw[z42,z42] at hc0;unfold World.cell? at hc0;rcases Nat.lt_or_ge b w.heap.size with h|h
    ·exact h
    ·simp[Array.getElem?_eq_none h] at hc0
   refine⟨some ⟨b,o,ks.length,0⟩,(List.range l0).map R,⟨by omega,hrow,⟨some ⟨b,o,none⟩,c0,by rw[hrl],by omega,fun _=>⟨_,rfl,rfl⟩⟩,.inr ⟨_,rfl,rfl,hblk,fun i r hr j u hj=> ?_⟩⟩⟩;obtain⟨hi,rfl⟩:=hget i r hr;have:=hcell i hi j u hj;rw[z42,z42] at this;exact this
end
theorem rows_in {β:Env}{w:World}{v:Value}{q:Option Loc}{ks:List FK}{rows:List (List Value)}(h:RwIn w v q ks rows){id:Nat}(hq:β id 0=q)(e:TypeId)(f:Nat→List SV)(hf:∀(i:Nat) (r:List Value),rows[i]? =some r→f i=r.map svOf):
  den β (.slc false id 0 0 rows.length) v∧(Obj.row ⟨false,false,e,ks.length,rows.length,f⟩).holds β w q:=by
 obtain⟨_,hok,⟨a,c,rfl,hc,hp⟩,hm⟩:=h;refine⟨?_,?_⟩
 ·simp only[den,z6p,Bool.false_eq_true,if_false];refine⟨a,c,rfl,hc,fun h=> ?_⟩;obtain⟨L,h1,h2⟩:=hp h;exact⟨L,hq.trans h1,by rw[h2];simp⟩
 ·rcases hm with hm|⟨L,h1,h2,h3,h4⟩
  ·exact .inl hm
  ·refine .inr ⟨L,h1,h2,h3,fun i hi=> ?_,fun h=>by cases h⟩;have hi':i<rows.length:=hi;have hr:=List.getElem?_eq_getElem hi';have hfi:=hf i _ hr;have hoki:=hok _ (List.getElem_mem hi')
   show(f i).length=ks.length∧∀(j:Nat) (s:SV),(f i)[j]? =some s→_
   rw[hfi];refine⟨by rw[List.length_map];exact okRow_len hoki,fun j s hs=> ?_⟩;rw[List.getElem?_map,Option.map_eq_some_iff] at hs;obtain⟨u,hu,rfl⟩:=hs;obtain⟨k,hk⟩:=okRow_get hoki j u hu;obtain⟨g1,g2,_⟩:=FK.den (β:=β) hk;refine⟨g2,u,?_,g1⟩;rw[h2];exact h4 i _ hr j u hu
def strData {H:Type}(ss:List ByteArray):DataW H:= .agg (ss.map fun s=> .lit (.string s.data.toList))
theorem cells_of_strs {H:Type}{enc:TypeId×Value→H}{P:Program}{w:World}{base:Nat}{sp:Nat→Bool}{held:Bool}{fuel:Nat}{t e:TypeId}{n:Nat}{cs:List Value}{ss:List ByteArray}{p:List MemPlace}
  (ht:P.underlying t=some (.array n e)) (he:P.underlying e=some .string) (hce:P.cellsOf e=1) (hct:P.cellsOf t=n)
  (h:DataW.trod enc P w base sp held fuel t cs=some (strData ss,p)):cs=ss.map Value.string:=by
 cases fuel with
 |zero=>simp[DataW.trod] at h
 |succ fuel=>
  simp only[DataW.trod,ht,hce,hct,Nat.mul_one] at h
  split at h
  ·rename_i hl;obtain⟨xs,hm,hx⟩:=Option.map_eq_some_iff.1 h
   have hxs:xs.map (·.1)=ss.map fun s=>(DataW.lit (.string s.data.toList):DataW H):=by
    have:=congrArg Prod.fst hx;simpa [strData] using this
   have hxl:xs.length=n:=by simpa using Lib.mapM_length hm
   have hzl:ss.length=n:=by
    have:=congrArg List.length hxs;simp at this;omega
   apply List.ext_getElem?;intro i
   by_cases hi:i<n
   ·obtain⟨b,hb,hf⟩:=Lib.mapM_at hm i i (by simp[hi]);obtain⟨z,hc,rfl,_⟩:=DataW.trod_string he hf
    have h1:cs[i]? =some (.string z):=by
     have:=congrArg (·[0]?) hc;simpa [List.getElem?_take,List.getElem?_drop] using this
    have h2:(xs.map (·.1))[i]? =some (DataW.lit (.string z.data.toList):DataW H):=by simp[hb]
    rw[hxs] at h2;simp only[List.getElem?_map,Option.map_eq_some_iff,DataW.lit.injEq,Lit.string.injEq] at h2;obtain⟨z',hz',he'⟩:=h2
    have:z'=z:=by
     cases z' with
     |mk a=>cases z with
      |mk b=>congr 1;exact Array.toList_inj.1 he'
    subst this;simp[h1,hz']
   ·rw[List.getElem?_eq_none (by omega),List.getElem?_eq_none (by simp;omega)]
  ·cases h
theorem tabs_of_laid {P:Program}{W:World}{name:String}{g:Nat}{t e:TypeId}(hg:P.globalNamed name=some g)(hty:(P.globals[g]?).map (·.type)=some t)(ht:P.underlying t=some (.array 6 e))(he:P.underlying e=some .string)(hce:P.cellsOf e=1)(hct:P.cellsOf t=6)
  (hone:(List.range P.globals.size).all (fun i=> !tabG P i||i==g)=true) (h:laidMet P [(name,strData letters)] W):∀i,tabG P i=true→i<W.heap.size∧TabAt W i:=by
 obtain⟨ps,⟨g',t',cs,fuel,p,q,hg',ht',hvar,hd,_,_⟩,_⟩:=h;obtain rfl:=Option.some.inj (hg.symm.trans hg');obtain rfl:=Option.some.inj (hty.symm.trans ht');have hcs:=cells_of_strs ht he hce hct hd;intro i hi
 have hlt:i<P.globals.size:=by
  rcases Nat.lt_or_ge i P.globals.size with h|h
  ·exact h
  ·unfold tabG at hi;rw[Array.getElem?_eq_none h] at hi;cases hi
 have h1:=List.all_eq_true.1 hone i (List.mem_range.2 hlt);rw[hi] at h1;have:i=g:=by simpa using h1
 subst this
 have hat:TabAt W i:=fun j s hj=>by
  have:=World.var?_cell hg hvar j;rw[this,←Array.getElem?_toList,hcs,List.getElem?_map,hj]
  rfl
 refine⟨?_,hat⟩;have h0:=hat 0 _ (show letters[0]? =some _ from rfl);unfold World.cell? at h0;rcases Nat.lt_or_ge i W.heap.size with h|h
 ·exact h
 ·simp[Array.getElem?_eq_none h] at h0
end Go.Sk

namespace Go.Sk
open Go.RowKit Go.ChangeShapes Go.WideShapes
end Go.Sk

namespace Go.Sk
open Go.RowKit Go.WideShapes Go.ChangeShapes
section
variable {H:Type} {enc:TypeId×Value→H} {P:Program} {w:World} {base:Nat} {sp:Nat→Bool} {held:Bool}
theorem rows_opn {t e:TypeId}{ks:List FK}{n:Nat}{c:List Value}{x:DataW H×List MemPlace}(ht:P.underlying t=some (.slice e))(hb:flatB P e ks=true)(hk0:0<ks.length)
  (hn:DataW.trod enc P w base sp held n t c=some x):∃v q rows,c=[v]∧RwIn w v q ks rows:=by
 have hce:P.cellsOf e=ks.length:=by simp only[flatB,Bool.and_eq_true,beq_iff_eq] at hb;exact hb.1
 rcases Deep.open_slice ht hn with⟨rfl,_⟩|⟨a,l0,c0,m,n',D,Pl,rfl,hbb,hlc,hcm,hmm,_,hel⟩
 ·exact⟨_,none,[],rfl,⟨by simp,by simp,⟨none,0,rfl,by simp,by simp⟩,.inl ⟨rfl,rfl⟩⟩⟩
 ·have hml:l0≤m:=by rw[hmm];split<;>omega
  obtain⟨R,hR⟩:=Deep.choose_lt (α:=List Value) (p:=fun i cs=>w.cells? base (a.add (i*P.cellsOf e)) (P.cellsOf e)=some cs∧DataW.trod enc P w base sp held n' e cs=some (D i,Pl i)) hel;have hrl:((List.range l0).map R).length=l0:=by simp
  have hget:∀i r,((List.range l0).map R)[i]? =some r→i<l0∧r=R i:=fun i r h=>by
   simp only[List.getElem?_map,Option.map_eq_some_iff] at h;obtain⟨k,h1,h2⟩:=h
   have hi:i<l0:=by
    rcases Nat.lt_or_ge i l0 with h|h
    ·exact h
    ·rw[List.getElem?_eq_none (by simpa using h)] at h1;cases h1
   rw[List.getElem?_range hi] at h1
   cases h1
   exact⟨hi,h2.symm⟩
  have hok:∀i,i<m→okRow ks (R i):=fun i hi=>flat_open hb (hR i hi).2
  have hrow:∀r∈(List.range l0).map R,okRow ks r:=fun r hr=>by
   obtain⟨i,hi,rfl⟩:=List.mem_map.1 hr;exact hok i (by have:=List.mem_range.1 hi;omega)
  by_cases h0:l0=0
  ·subst h0;exact⟨_,none,[],rfl,⟨by simp,by simp,⟨some a,c0,rfl,by simp,by simp⟩,.inl ⟨rfl,rfl⟩⟩⟩
  ·have hcell:∀i,i<l0→∀(j:Nat) (u:Value),(R i)[j]? =some u→w.cell? ((a.add (i*ks.length)).add j)=some u:=fun i hi j u hj=>by
    obtain⟨h1,h2⟩:=hR i (by omega);obtain⟨_,hlen,hc⟩:=World.cells?_some h1;have hjl:j<P.cellsOf e:=by rw[←hlen];exact(List.getElem?_eq_some_iff.1 hj).1
    rw[←hce,hc j hjl];exact hj
   have hr0:∃u,(R 0)[0]? =some u:=by
    have:=okRow_len (hok 0 (by omega));exact⟨_,List.getElem?_eq_getElem (by omega)⟩
   obtain⟨u0,hu0⟩:=hr0;have hc0:=hcell 0 (by omega) 0 u0 hu0;have hsp:a.spot=none:=World.cell?_spot (by unfold Addr.add at hc0;simpa using hc0);obtain⟨b,o,s0⟩:=a;simp only at hsp;subst hsp
   have hblk:b<w.heap.size:=by
    rw[z42,z42] at hc0;unfold World.cell? at hc0;rcases Nat.lt_or_ge b w.heap.size with h|h
    ·exact h
    ·simp[Array.getElem?_eq_none h] at hc0
   refine⟨_,some ⟨b,o,ks.length,0⟩,(List.range l0).map R,rfl,⟨by omega,hrow,⟨some ⟨b,o,none⟩,c0,by rw[hrl],by omega,fun _=>⟨_,rfl,rfl⟩⟩,.inr ⟨_,rfl,rfl,hblk,fun i r hr j u hj=> ?_⟩⟩⟩;obtain⟨hi,rfl⟩:=hget i r hr;have:=hcell i hi j u hj;rw[z42,z42] at this;exact this
end
end Go.Sk

namespace Go.Sk
open Go.RowKit Go.WideShapes Go.ChangeShapes
def nestB (P:Program)(t t1 t2:TypeId)(n1:Nat):Bool:=match P.underlying t with
 |some (.struct fs)=>(match fs[0]?,fs[1]? with
  |some f,some g=>f.offset==0 && g.offset==n1 && f.type==t1 && g.type==t2 && P.cellsOf t1==n1 && P.cellsOf t2==1 && P.cellsOf t==n1+1
  |_,_=>false)
 |_=>false
structure El where
 c:List Value
 v:Value
 q:Option Loc
 rows:List (List Value)
def noEl:El:=⟨[],undef,none,[]⟩
section
variable {H:Type} {enc:TypeId×Value→H} {P:Program} {w:World} {base:Nat} {sp:Nat→Bool} {held:Bool}
theorem nest_open {t t1 t2 e2:TypeId}{k1 k2:List FK}{fuel:Nat}{cs:List Value}{x:DataW H×List MemPlace}(hT:nestB P t t1 t2 k1.length=true)(b1:flatB P t1 k1=true)(h2:P.underlying t2=some (.slice e2))(b2:flatB P e2 k2=true)(p2:0<k2.length)
  (h:DataW.trod enc P w base sp held fuel t cs=some x):∃e:El,cs=e.c++[e.v]∧okRow k1 e.c∧RwIn w e.v e.q k2 e.rows:=by
 unfold nestB at hT
 split at hT
 ·rename_i fs hu
  split at hT
  ·rename_i f g hf hg;simp only[Bool.and_eq_true,beq_iff_eq] at hT;obtain⟨⟨⟨⟨⟨⟨o1,o2⟩,y1⟩,y2⟩,c1⟩,c2⟩,c3⟩:=hT;obtain⟨xs,m,_,_,hl,hxl,hfs⟩:=DataW.trod_struct hu h;have g1:=hfs 0 f hf;have g2:=hfs 1 g hg;have i0:0<xs.length:=by rw[hxl];exact(Array.getElem?_eq_some_iff.1 hf).1
   have i1:1<xs.length:=by rw[hxl];exact(Array.getElem?_eq_some_iff.1 hg).1
   rw[List.getElem?_eq_getElem i0,o1,y1,c1,List.drop_zero] at g1;rw[List.getElem?_eq_getElem i1,o2,y2,c2] at g2;obtain⟨v,q,rows,hv,hr⟩:=rows_opn h2 b2 p2 g2;have hk:=flat_open b1 g1;have h3:(cs.drop k1.length).length=1:=by rw[List.length_drop,hl,c3];omega
   rw[List.take_of_length_le (by omega)] at hv;exact⟨⟨cs.take k1.length,v,q,rows⟩,by simp only;rw[←hv,List.take_append_drop],hk,hr⟩
  ·cases hT
 ·cases hT
structure NsIn (w:World) (v:Value) (q:Option Loc) (k1 k2:List FK) (els:List El):Prop where
 len:els.length≤maxLen
 ok:∀e∈els,okRow k1 e.c∧RwIn w e.v e.q k2 e.rows
 val:∃a c,v= .slice a els.length c∧els.length≤c∧(0<els.length→∃L,q=some L∧a=some ⟨L.blk,L.off,none⟩)
 mem:(els.length=0∧q=none)∨∃L,q=some L∧L.sz=k1.length+1∧L.blk<w.heap.size∧∀(i:Nat) (e:El),els[i]? =some e→∀(j:Nat) (u:Value),(e.c++[e.v])[j]? =some u→w.cell? ⟨L.blk,L.off+i*(k1.length+1)+j,none⟩=some u
theorem nest_opn {t e t1 t2 e2:TypeId}{k1 k2:List FK}{n:Nat}{c:List Value}{x:DataW H×List MemPlace}(ht:P.underlying t=some (.slice e))(hT:nestB P e t1 t2 k1.length=true)(b1:flatB P t1 k1=true)(h2:P.underlying t2=some (.slice e2))(b2:flatB P e2 k2=true)(p2:0<k2.length)
  (hn:DataW.trod enc P w base sp held n t c=some x):∃v q els,c=[v]∧NsIn w v q k1 k2 els:=by
 have hce:P.cellsOf e=k1.length+1:=by
  unfold nestB at hT
  split at hT
  ·split at hT
   ·simp only[Bool.and_eq_true,beq_iff_eq] at hT;exact hT.2
   ·cases hT
  ·cases hT
 rcases Deep.open_slice ht hn with⟨rfl,_⟩|⟨a,l0,c0,m,n',D,Pl,rfl,hbb,hlc,hcm,hmm,_,hel⟩
 ·exact⟨_,none,[],rfl,⟨by simp,by simp,⟨none,0,rfl,by simp,by simp⟩,.inl ⟨rfl,rfl⟩⟩⟩
 ·have hml:l0≤m:=by rw[hmm];split<;>omega
  haveI:Inhabited El:=⟨noEl⟩
  obtain⟨R,hR⟩:=Deep.choose_lt (α:=El) (p:=fun i el=>w.cells? base (a.add (i*P.cellsOf e)) (P.cellsOf e)=some (el.c++[el.v])∧okRow k1 el.c∧RwIn w el.v el.q k2 el.rows) (fun i hi=>by
   obtain⟨cs,g1,g2⟩:=hel i hi;obtain⟨el,rfl,g3,g4⟩:=nest_open hT b1 h2 b2 p2 g2
   exact⟨el,g1,g3,g4⟩)
  have hrl:((List.range l0).map R).length=l0:=by simp
  have hget:∀i r,((List.range l0).map R)[i]? =some r→i<l0∧r=R i:=fun i r h=>by
   simp only[List.getElem?_map,Option.map_eq_some_iff] at h;obtain⟨k,h1,h2⟩:=h
   have hi:i<l0:=by
    rcases Nat.lt_or_ge i l0 with h|h
    ·exact h
    ·rw[List.getElem?_eq_none (by simpa using h)] at h1;cases h1
   rw[List.getElem?_range hi] at h1
   cases h1
   exact⟨hi,h2.symm⟩
  have hrow:∀r∈(List.range l0).map R,okRow k1 r.c∧RwIn w r.v r.q k2 r.rows:=fun r hr=>by
   obtain⟨i,hi,rfl⟩:=List.mem_map.1 hr;exact(hR i (by have:=List.mem_range.1 hi;omega)).2
  by_cases h0:l0=0
  ·subst h0;exact⟨_,none,[],rfl,⟨by simp,by simp,⟨some a,c0,rfl,by simp,by simp⟩,.inl ⟨rfl,rfl⟩⟩⟩
  ·have hcell:∀i,i<l0→∀(j:Nat) (u:Value),((R i).c++[(R i).v])[j]? =some u→w.cell? ((a.add (i*(k1.length+1))).add j)=some u:=fun i hi j u hj=>by
    obtain⟨h1,_⟩:=hR i (by omega);obtain⟨_,hlen,hc⟩:=World.cells?_some h1;have hjl:j<P.cellsOf e:=by rw[←hlen];exact(List.getElem?_eq_some_iff.1 hj).1
    rw[←hce,hc j hjl];exact hj
   have hr0:∃u,((R 0).c++[(R 0).v])[0]? =some u:=⟨_,List.getElem?_eq_getElem (by simp)⟩;obtain⟨u0,hu0⟩:=hr0;have hc0:=hcell 0 (by omega) 0 u0 hu0;have hsp:a.spot=none:=World.cell?_spot (by unfold Addr.add at hc0;simpa using hc0);obtain⟨b,o,s0⟩:=a;simp only at hsp;subst hsp
   have hblk:b<w.heap.size:=by
    rw[z42,z42] at hc0;unfold World.cell? at hc0;rcases Nat.lt_or_ge b w.heap.size with h|h
    ·exact h
    ·simp[Array.getElem?_eq_none h] at hc0
   refine⟨_,some ⟨b,o,k1.length+1,0⟩,(List.range l0).map R,rfl,⟨by omega,hrow,⟨some ⟨b,o,none⟩,c0,by rw[hrl],by omega,fun _=>⟨_,rfl,rfl⟩⟩,.inr ⟨_,rfl,rfl,hblk,fun i r hr j u hj=> ?_⟩⟩⟩;obtain⟨hi,rfl⟩:=hget i r hr;have:=hcell i hi j u hj;rw[z42,z42] at this;exact this
theorem nest_params {t e t1 t2 e2:TypeId}{k1 k2:List FK}{v:Value}{d:DataW H}{p:List MemPlace}(ht:P.underlying t=some (.slice e))(hT:nestB P e t1 t2 k1.length=true)(b1:flatB P t1 k1=true)(h2:P.underlying t2=some (.slice e2))(b2:flatB P e2 k2=true)(p2:0<k2.length)
  {b0:Nat} (hval:Value.okWide P w .any b0 t v) (h:DataW.Trod enc P w base sp held t v d p):∃q els,NsIn w v q k1 k2 els:=by
 obtain⟨n,hn⟩:=h;obtain⟨a0,l0,c0,rfl⟩:=okWide_slice ht hval;have hcs:(Value.slice a0 l0 c0).cells.toList=[Value.slice a0 l0 c0]:=rfl;rw[hcs] at hn;obtain⟨v,q,els,hv,hx⟩:=nest_opn ht hT b1 h2 b2 p2 hn
 cases hv
 exact⟨q,els,hx⟩
end
def elQ (els:List El):Nat→Option Loc
 |0=>none
 |i+1=>(els.getD i noEl).q
theorem nest_in {β:Env}{w:World}{v:Value}{q:Option Loc}{k1 k2:List FK}{els:List El}(h:NsIn w v q k1 k2 els){id f:Nat}(hq:β id 0=q)(hqf:∀k,β f k=elQ els k)(e e2:TypeId)
  (F:Nat→List SV) (hF:∀(i:Nat) (r:El),els[i]? =some r→F i=r.c.map svOf++[.slc false f (i+1) 0 r.rows.length])
  (G:Nat→Obj) (hG:∀(i:Nat) (r:El),els[i]? =some r→∃g,G i= .row ⟨false,false,e2,k2.length,r.rows.length,g⟩∧∀(j:Nat) (u:List Value),r.rows[j]? =some u→g j=u.map svOf):
  den β (.slc false id 0 0 els.length) v∧(Obj.row ⟨false,false,e,k1.length+1,els.length,F⟩).holds β w q∧∀k,k<els.length+1→(fam false e2 k2.length G k).holds β w (β f k):=by
 obtain⟨_,hok,⟨a,c,rfl,hc,hp⟩,hm⟩:=h
 have hmem:∀i (hi:i<els.length),els.getD i noEl=els[i]:=fun i hi=>by
  rw[List.getD,List.getElem?_eq_getElem hi];rfl
 have hrow:∀i (hi:i<els.length),∀(g:Nat→List SV),(∀(j:Nat) (u:List Value),(els[i]).rows[j]? =some u→g j=u.map svOf)→den β (.slc false f (i+1) 0 (els[i]).rows.length) (els[i]).v∧(Obj.row ⟨false,false,e2,k2.length,(els[i]).rows.length,g⟩).holds β w (els[i]).q:=fun i hi g hg=>by
  have h2:=(hok _ (List.getElem_mem hi)).2;obtain⟨d1,d2⟩:=rows_in (β:=Env.set β f fun k=>if k=0 then(els[i]).q else β f k) (id:=f) h2 (by simp[Env.set]) e2 g hg;refine⟨?_,?_⟩
  ·simp only[den,z6p,Bool.false_eq_true,if_false] at d1 ⊢;obtain⟨a,c,e1,e2,e3⟩:=d1;refine⟨a,c,e1,e2,fun hp=> ?_⟩;obtain⟨L,g1,g2⟩:=e3 hp;simp only[Env.set,if_true] at g1;refine⟨L,?_,g2⟩;rw[hqf,elQ,hmem i hi,g1]
  ·rcases d2 with d2|⟨L,g1,g2,g3,g4,g5⟩
   ·exact .inl d2
   ·refine .inr ⟨L,g1,g2,g3,fun j hj=> ?_,fun h=>by cases h⟩;obtain⟨g6,g7⟩:=g4 j hj;refine⟨g6,fun k s hs=> ?_⟩;obtain⟨g8,u,g9,g10⟩:=g7 k s hs;refine⟨g8,u,g9,?_⟩;have hr:=List.getElem?_eq_getElem (show j<(els[i]).rows.length from hj);have:g j=(els[i]).rows[j].map svOf:=hg j _ hr;simp only at hs;rw[this,List.getElem?_map,Option.map_eq_some_iff] at hs;obtain⟨u',hu',rfl⟩:=hs;obtain⟨kk,hkk⟩:=okRow_get (h2.ok _ (List.getElem_mem (show j<(els[i]).rows.length from hj))) k u' hu'
    cases kk<;>simp only[FK.ok] at hkk<;>obtain⟨z,hz⟩:=hkk
    ·obtain⟨rfl,_⟩:=hz;exact g10
    ·obtain⟨rfl,_⟩:=hz;exact g10
    ·subst hz;exact g10
 refine⟨?_,?_,?_⟩
 ·simp only[den,z6p,Bool.false_eq_true,if_false];refine⟨a,c,rfl,hc,fun h=> ?_⟩;obtain⟨L,h1,h2⟩:=hp h;exact⟨L,hq.trans h1,by rw[h2];simp⟩
 ·rcases hm with hm|⟨L,h1,h2,h3,h4⟩
  ·exact .inl hm
  ·refine .inr ⟨L,h1,h2,h3,fun i hi=> ?_,fun h=>by cases h⟩;have hi':i<els.length:=hi;have hr:=List.getElem?_eq_getElem hi';have hfi:=hF i _ hr;obtain⟨g,_,hg2⟩:=hG i _ hr;have hd:=(hrow i hi' g hg2).1;obtain⟨hok1,_⟩:=hok _ (List.getElem_mem hi')
   show(F i).length=k1.length+1∧∀(j:Nat) (s:SV),(F i)[j]? =some s→_
   rw[hfi];refine⟨by simp[okRow_len hok1],fun j s hs=> ?_⟩;have hl1:=okRow_len hok1;rcases Nat.lt_or_ge j (els[i]).c.length with hj|hj
   ·rw[List.getElem?_append_left (by simpa using hj),List.getElem?_map,Option.map_eq_some_iff] at hs;obtain⟨u,hu,rfl⟩:=hs;obtain⟨k,hk⟩:=okRow_get hok1 j u hu;obtain⟨g1,g2,_⟩:=FK.den (β:=β) hk;refine⟨g2,u,?_,g1⟩;rw[h2];exact h4 i _ hr j u (by rw[List.getElem?_append_left hj];exact hu)
   ·have hj2:j=(els[i]).c.length:=by
     have:=(List.getElem?_eq_some_iff.1 hs).1;simp at this;omega
    subst hj2;rw[List.getElem?_append_right (by simp)] at hs;simp at hs;subst hs;refine⟨rfl,(els[i]).v,?_,hd⟩;rw[h2];exact h4 i _ hr _ _ (by simp)
 ·intro k hk;rw[hqf]
  cases k with
  |zero=>exact .inl ⟨rfl,rfl⟩
  |succ i=>
   have hi:i<els.length:=by omega
   obtain⟨g,hg1,hg2⟩:=hG i _ (List.getElem?_eq_getElem hi);rw[z17,hg1,elQ,hmem i hi];exact(hrow i hi g hg2).2
end Go.Sk

namespace Go.Proofs
open Go.Sk
def nmO (k:Nat):Nat:=if k<5 then if k=0 then 3 else if k=1 then 0 else k+2 else k-5+7
def kO (κ:Nat→Fin 7×Nat)(i:Nat):Nat×Nat:=(nmO (κ i).1.val,(κ i).2)
theorem nmO_lt (x:Fin 7):nmO x.val<10:=by
 have:=x.isLt;simp only[nmO]
 split
 ·split
  ·decide
  ·split<;>omega
 ·omega
theorem kO_lt (L:List Hm)(κ:Nat→Fin 7×Nat)(i:Nat):SV.ltL 10 (muQ L (kO κ) i)=True:=eq_true (muQ_lt _ _ _ _ (nmO_lt _))
theorem kO_wk {n1:Nat}(f1:Nat→Hm)(κ1:Nat→Fin 7×Nat)(i:Nat)(hi:i<n1):SV.wkL [.int .i64 (f1 i).nd.id,.str (f1 i).nd.key,.int .u32 (f1 i).nd.word,.slc false (if(κ1 i).1.val<5 then if(κ1 i).1.val=0 then 3 else if(κ1 i).1.val=1 then 0 else(κ1 i).1.val+2 else(κ1 i).1.val-5+7) (κ1 i).2 (f1 i).off (f1 i).n] (muQ (hmk n1 f1) (kO κ1) i)∧(∀s∈muQ (hmk n1 f1) (kO κ1) i,s.scalar=true)∧SV.ltL 10 (muQ (hmk n1 f1) (kO κ1) i):=by
 refine⟨?_,row4_sc _ _ _ _ _,muQ_lt _ _ _ _ (nmO_lt _)⟩;rw[muQ,hm_hmk f1 hi];exact⟨rfl,rfl,rfl,rfl,trivial⟩
theorem fam0_rowF (ρ:Nat→Nat)(e:Go.TypeId)(sz:Nat)(G:Nat→Sk.Obj)(f:Nat→List SV):zb ρ (fam true e sz G 0) (.row ⟨false,false,e,sz,0,f⟩)=True:=eq_true ⟨fun h=>(by cases h),rfl,Nat.le_refl _,fun i hi=>absurd hi (Nat.not_lt_zero _)⟩
theorem Tryz.zHds:z6d Tryz.prog 23=some [.nils]:=by kernel_rfl
theorem Tryz.tyHdss:z2o Tryz.prog 30=⟨true,.slice 23,1,24,[]⟩:=by kernel_rfl
end Go.Proofs

namespace Go.Proofs
open Go.Sk
theorem all3 {p:Nat→Prop}:(∀i,i<3→p i)↔p 0∧p 1∧p 2:=⟨fun h=>⟨h 0 (by omega),h 1 (by omega),h 2 (by omega)⟩,fun⟨h0,h1,h2⟩ i hi=>by
 have e:i=0∨i=1∨i=2:=by omega
 rcases e with rfl|rfl|rfl<;>assumption⟩
def lstG (gs:List Bool)(ids lens:List Nat):Nat→List SV:=fun i=>[.slc (gs.getD i true) (ids.getD i 0) 0 0 (lens.getD i 0)]
theorem muW_lt14 (m:Nat)(μ:Nat→Bool×Nat)(l:List Hm)(i:Nat):SV.ltL (m+5) (muW 3 4 μ l i)=True:=eq_true (muW_lt (by omega) (by omega) μ l i)
theorem MwQm.s {a:Prop}(h:a:=by simp[SV.wkL,SV.wk,z1i,z1b,Sk.get,Sk.find,Sk.one,zb.eq_1,zb.eq_2,zb.eq_3,zo,z1k,z1g,SV.renL,SV.ren,Obj.lt_row,SV.ltL,SV.lt,z7c,z3q,zw,z25,Obj.own.eq_1,Obj.own.eq_2,Obj.own.eq_3,Obj.own.eq_4,z1e,zn,zr,z1w,nds,Nd.sv,z14,zx,z3a,z3b,z28,z1r,z2t,z15,z1h,z18,z21,z2u,z1o,z1j,z20,z19,z2h,zj,z1t,z43,z7x,shK_ren,shK_ltI,z4j,fam0_rowF,all3,lstG,muW_ren',muW_lt14,bals_ren',bals_lt,inBals,z7r,chunk,intsOf,kO_lt]):a:=h
theorem MwQm.ca {P:Program}{f:FuncId}{args args0:List SV}{H0 H:AH}{R:SV→AH→Prop}{dr:Bool}{W:List Nat}{k:SV→AH→Prop}(hF:ze P f args0 H0 R)(ρ:Nat→Nat)(hk:∀s0 H1,R s0 H1→∀s1 H2,s1=s0.ren (z57 H0.nxt H.nxt ρ)→H2=after H0.nxt ρ H0 H H1→k s1 H2)(q:CaQ args args0 ρ H0 H dr W:=by constructor<;>exact MwQm.s)(r:CaR ρ H0 H:=by exact⟨rfl,rfl⟩):z4u P f args H dr W k:=caS hF ρ hk q r
theorem MwQm.t {s e:SV}{H g:AH}(q:AfQ s e H g:=by constructor<;>(simp only[z1x,after,z57,id,z2q,reduceCtorEq,Nat.reduceEqDiff,zc5,zc6,z5u,z2p,zw,Sk.one,Obj.own.eq_1,Obj.own.eq_2,Obj.own.eq_3,Obj.own.eq_4,Obj.ren.eq_1,Obj.ren.eq_2,Obj.ren_blk,Row.ren,SV.ren,SV.renL,↓reduceIte,Nat.reduceLT,Nat.reduceAdd,Nat.reduceSub,Tryz.tyInt,Tryz.szInt,Tryz.tyStr,Tryz.tyU32,Tryz.tyNode,Tryz.szNode,Tryz.zNode,Tryz.tyNodes,Tryz.szNodes,z1e,zn,nds,Nd.sv,Tryz.tyRow,Tryz.szRow,Tryz.zRow,Tryz.tyRows,Tryz.szRows,Tryz.zRows,Tryz.tyHd,Tryz.szHd,Tryz.zHd,Tryz.tyHds,Tryz.szHds,Tryz.zHds,Tryz.tyHdss,Tryz.tyHoldings,Tryz.tyErr,Tryz.tyBool,beq_self_eq_true,Tryz.tyTape,Tryz.szTape,Tryz.zTape,Tryz.tyInts,Tryz.szInts,Tryz.zInt,z1t,zj,z6i,z4b,fam_ren,hmF_ren,z8k,hmR_ren,z6m,hoF_ren,hoR_fold,hoR_ren,muW_ren,bals_ren,inBals];exact rfl)):AfQ s e H g:=q
theorem MwQm.af {s e e1:SV}{H g g1:AH}(h1:s=e)(h2:H=g)(q:AfQ e e1 g g1:=by exact MwQm.t):s=e1∧H=g1:=⟨h1.trans q.s,h2.trans q.h⟩
theorem MwQm.c1 {P:Program}{f:FuncId}{args args0:List SV}{H0 H Y g:AH}{X e:SV}{dr:Bool}{W:List Nat}{k:SV→AH→Prop}(hF:ze P f args0 H0 fun s H1=>s=X∧H1=Y)(ρ:Nat→Nat)(h:k e g)(q:CaQ args args0 ρ H0 H dr W:=by constructor<;>exact MwQm.s)(r:CaR ρ H0 H:=by exact⟨rfl,rfl⟩)(b:AfQ (X.ren (z57 H0.nxt H.nxt ρ)) e (after H0.nxt ρ H0 H Y) g:=by exact MwQm.t):z4u P f args H dr W k:=c1S hF ρ h q r b
theorem MwQm.g {X:Cx}{fr:Fr}{H:AH}{fr1:Fr}{H1:AH}(ρ:Nat→Nat)(q:GvQ X ρ fr H fr1 H1:=by constructor<;>exact MwQm.s)(r:GvR X ρ H1:=by exact⟨rfl,rfl,Nat.le_of_ble_eq_true rfl,rfl⟩):z2v X ρ fr H fr1 H1:=gvS ρ q r
theorem z5f {a c d:Prop}(r:a→c)(h:d)(e:Sd a d:=by simp only[stp,isQ,z4q,Sk.get,Sk.put,z24,zt,↓reduceIte,reduceCtorEq,Nat.reduceEqDiff,zc2,zc3,implies_true,forall_const,zc5,qop,grdK,zc4,List.getElem?_cons_zero,beq_self_eq_true,zc1,z13,cond_true,cond_false,z3x,Sk.find,Sk.one,z17,z1u,Kd.agg,Nat.reduceBEq,ite_self,Nat.zero_add,Nat.reduceAdd,Nat.reduceMul,Nat.reduceSub,Nat.reduceLT,Nat.reduceLeDiff,Nat.zero_le,ne_eq,Int.reduceToNat,exists_eq',spl,z29,SV.cells,SV.scalar,binK,z5o,z5n,intK,z2x,strK,z37,z5m,z3u,unK,z5p,z5i,z39,z3c,z5c,z3d,z3e,optK,z3g,bndK,z36,z38,z55,z3k,lenK,z1a.len,zq.n,z50,mmK,z1y,eop,z5s,srcK,z1f,z44,z3o,capK,z5t,z2c,z2q,z30,boxK,z2d,z3m,z31,updF,mkK,z5a,z1a.ofKd,zq.ofKd,z5b,z1a.add,z1a.okKd,zq.put,zq.okKd,zq.okP,z3f,z1a.has,zq.get,zq.z,Tryz.tyInt,Tryz.szInt,Tryz.tyStr,Tryz.tyU32,Tryz.tyNode,Tryz.szNode,Tryz.zNode,Tryz.tyNodes,Tryz.szNodes,z1e,zn,nds,Nd.sv,Tryz.tyRow,Tryz.szRow,Tryz.zRow,Tryz.tyRows,Tryz.szRows,Tryz.zRows,Tryz.tyHd,Tryz.szHd,Tryz.zHd,Tryz.tyHds,Tryz.szHds,Tryz.zHds,Tryz.tyHdss,Tryz.tyHoldings,z87,z86,z8p,Tryz.tyErr,Tryz.tyBool,Tryz.tyTape,Tryz.szTape,Tryz.zTape,Tryz.tyInts,Tryz.szInts,Tryz.zInt,ints,z1t,zj];(repeat(with_reducible apply Sd.and;exact z7));exact Sd.rfl):c:=r (e.f h)
theorem MwQm.rg {X:Cx}{Q:Exit→Fr→AH→Prop}{fr fr1:Fr}{H H1:AH}{l:List Code}{id:Nat}{ops:List Oper}(keep:List Nat)(h:Cs X l Q fr1 H1)(hd:z2b X.n ops=true:=by exact rfl)(e:∀K:Fr→AH→Prop,K fr1 H1→z5v X.P X.wrap X.m0 ops.toArray ops fr H (fun fr H=>K (prune keep fr) H):=by(intro K hK;(repeat(refine z5f z5 ?_));exact za (z8 hK))):Cs X (.region id ops.toArray false::l) Q fr H:=rgS keep h hd e
theorem MwQm.rs {X:Cx}{Q:Exit→Fr→AH→Prop}{fr fr1:Fr}{H H1:AH}{l:List Code}{id:Nat}{ops:List Oper}{y:Code}(keep:List Nat)(h:Cs X (y::l) Q fr1 H1)(hd:z2b X.n ops=true:=by exact rfl)(e:∀K:Fr→AH→Prop,K fr1 H1→z5v X.P X.wrap X.m0 ops.toArray ops fr H (fun fr H=>K (prune keep fr) H):=by(intro K hK;(repeat(refine z5f z5 ?_));exact za (z8 hK))):Cs X (.seq (.region id ops.toArray false) y::l) Q fr H:=Cs.seq (rgS keep h hd e)
set_option maxHeartbeats 4000000 in
theorem rebalances_spec (ls:List Int)(raw:List Hm)(hx:ls.length≤9223372036854775807)(hrl:raw.length≤9223372036854775807)(hro:∀i,i<raw.length→(hm raw i).off=0)(hrw:∀i,i<raw.length→(hm raw i).full.length≤9223372036854775807):
  ze Tryz.prog 3 [.slc false 0 0 0 ls.length,.slc false 1 0 0 raw.length] ⟨3,[(0,z1t ls),(1,Sk.one (.row ⟨false,false,43,4,raw.length,hmR false 2 raw⟩)),(2,(raw.length+1,fam false 45 2 (hmF false raw)))]⟩ (fun s _=>s= .bool true):=by
 refine ze.ofC false 60 [.tmp 4] Tryz.func3 rfl rfl Tryz.ntmps3 Tryz.results3 rfl ?_;intro w0 own0 β0 Q hQ hQn;simp only[z1n];refine MwQm.rs [0,1] ?_;refine Cs.seq ?_;refine sg [0,1,17] rfl ?_;intro K hK;refine z5f z5 ?_;refine z5f z5 ?_;refine MwQm.ca (small_spec raw hrl (fun i hi=>⟨by rw[hro i hi];exact Nat.zero_le _,hrw i hi⟩) raw.length rfl) (fun q=>q+1) ?_;rintro s0 H0 ⟨B,hB,rfl,rfl⟩ s1 H1 hs1 hH1;obtain⟨hs2,hH2⟩:=MwQm.af hs1 hH1;clear hs1 hH1;subst hs2 hH2;repeat(with_reducible apply ai;exact z7)
 refine z5f z5 ?_;refine za (z8 (hK _ _ ?_));clear hK K;refine Cs.cond _ rfl ?_ ?_
 ·intro h17
  try replace h17:=z6 h17
  refine sg [4] rfl ?_;intro K hK;refine z5f z5 ?_;refine MwQm.c1 (awake_spec) (id) ?_;refine z5f z5 ?_;refine za (z8 (hK _ _ ?_));clear hK K;refine Cs.ret ?_;refine hQ _ _ ?_;refine zm.mk (H':=⟨3,[]⟩) (.inl rfl) ?_;refine zh ?_;refine⟨MwQm.s,(MwQm.g id),MwQm.s,?_⟩;trivial
 ·intro h17;have hraw:HmB raw:=raw_ok hro rfl (hB (by simpa using h17));have hrawn:=hraw.len;refine Cs.skip ?_;refine sg [1,5] rfl ?_;intro K hK;refine z5f z5 ?_;refine z5f z5 ?_;refine MwQm.ca (new_spec ls hx) (id) ?_;rintro s0 H0 ⟨m,hm0,rfl,rfl⟩ s1 H1 hs1 hH1;obtain⟨hs2,hH2⟩:=MwQm.af hs1 hH1;clear hs1 hH1;subst hs2 hH2;repeat(with_reducible apply ai;exact z7)
  refine z5f z5 ?_;refine za (z8 (hK _ _ ?_));clear hK K;refine sg [1,5,6] rfl ?_;intro K hK;refine z5f z5 ?_;refine z5f z5 ?_;refine MwQm.ca (holdings_spec ls m 0 hx hm0 (Nat.zero_le _) 5 (by omega) 24 (by omega)) (fun q=>if q=0 then 3 else 0) ?_;rintro s0 H0 ⟨x,at6,ha6,hx0,hxn,hxr,rfl,rfl⟩ s1 H1 hs1 hH1;obtain⟨hs2,hH2⟩:=MwQm.af hs1 hH1;clear hs1 hH1;subst hs2 hH2;repeat(with_reducible apply ai;exact z7)
  have hxB:HmB x:=hmB_of hxn hxr (by omega) (by omega);refine z5f z5 ?_;refine za (z8 (hK _ _ ?_));clear hK K;refine Cs.seq ?_;refine Cs.seq ?_;refine Cs.fam0 45 2 (hmF true []) ?_;dsimp only;refine Cs.reg [28,29,30] rfl ?_;intro K hK;iterate 3 (refine z5f z5 ?_)
  refine z5f z5 ?_;rw[show hmR false 5 x=fun i=>[.int .i64 (hm x i).nd.id,.str (hm x i).nd.key,.int .u32 (hm x i).nd.word,.slc false 5 (i+1) (hm x i).off (hm x i).n] from rfl];refine MwQm.ca (odd_spec False ls m at6 hx hm0 ha6 x [] 24 (by omega) x.length (by omega) (hm x) (fun i=>(⟨3,by decide⟩,i+1)) (PK.of False x [] hxr)) (fun q=>if q=0 then 3 else if q=1 then 0 else q+2) ?_;rintro s0 H0 ⟨n1,f1,κ1,r6,at7,ha7,hn1,hQ1,rfl,rfl⟩ s1 H1 hs1 hH1;obtain⟨hs2,hH2⟩:=MwQm.af hs1 hH1;clear hs1 hH1;subst hs2 hH2;repeat(with_reducible apply ai;exact z7)
  iterate 4 (refine z5f z5 ?_)
  refine za (z8 (hK _ _ ?_));clear hK K;refine Cs.wkRow 7 (muQ (hmk n1 f1) (kO κ1)) rfl rfl (fun q hq=>kO_wk f1 κ1 q hq) ?_;simp only[z44,↓reduceIte,Sk.one,Nat.reduceEqDiff];refine Cs.give (H':=⟨10,[(9,Sk.one (.row ⟨false,false,23,1,3,lstG [true,true,false] [4,7,1] [x.length,n1,raw.length]⟩)),(7,Sk.one (.row ⟨true,false,43,4,n1,muQ (hmk n1 f1) (kO κ1)⟩)),(8,Sk.one (.row ⟨false,false,45,2,r6.length,rws r6⟩)),(6,Sk.one (.row ⟨false,false,45,2,0,rws []⟩)),(5,(x.length+1,fam false 45 2 (hmF false x))),(4,Sk.one (.row ⟨false,false,43,4,x.length,hmR false 5 x⟩)),(1,Sk.one (.row ⟨false,false,43,4,raw.length,hmR false 2 raw⟩)),(2,(raw.length+1,fam false 45 2 (hmF false raw)))]⟩) (fr':=[(28,.slc true 9 0 0 3),(29,.int .i64 3),(30,.int .i64 0)]) id (MwQm.g id) ?_;refine canonQ 7 (hmk n1 f1) (kO κ1) (n:=n1) (z3p n1 f1) rfl (fun q hq=>⟨false,rfl⟩) (fun q hq=> ?_) ?_
  ·rw[hm_hmk f1 hq];exact(hQ1 q hq).src nmO rfl rfl rfl
  simp only[z44,↓reduceIte,Sk.one,Nat.reduceEqDiff];have hyB:HmB (hmk n1 f1):=QK.hmB hQ1 (by omega) (by omega);have hyl:(hmk n1 f1).length=n1:=z3p n1 f1;obtain⟨y1,hy1⟩:∃y1,y1=hmk n1 f1:=⟨_,rfl⟩;rw[←hy1] at hyB hyl ⊢;subst hyl;refine Cs.block ?_;intro Q0 hN0 hX0 hR0 hE0;refine Cs.loop (σ:=Nat) (fun i=>i≤3) (fun i=>3-i) (fun i=>[(28,.slc true 9 0 0 3),(29,.int .i64 3),(30,.int .i64 i)]) (fun i=>⟨11,[(9,Sk.one (.row ⟨false,false,23,1,3,lstG [true,true,false] [4,7,1] [x.length,y1.length,raw.length]⟩)),(7,Sk.one (.row ⟨false,false,43,4,y1.length,hmR false 10 y1⟩)),(10,(y1.length+1,fam false 45 2 (hmF false y1))),(5,(x.length+1,fam false 45 2 (hmF false x))),(4,Sk.one (.row ⟨false,false,43,4,x.length,hmR false 5 x⟩)),(1,Sk.one (.row ⟨false,false,43,4,raw.length,hmR false 2 raw⟩)),(2,(raw.length+1,fam false 45 2 (hmF false raw)))]⟩) 0 (Nat.zero_le _) (ρ:=id) (MwQm.g id) ?_;rintro i hi QL1 hL1 hRL1 hEL1;refine MwQm.rs [28,29,30,31] ?_;refine Cs.seq ?_;refine Cs.cond _ rfl ?_ ?_
  ·intro h31;replace h31:=z6 h31;refine Cs.skip ?_;refine Cs.seq ?_;refine Cs.block ?_;intro Q1 hN1 hX1 hR1 hE1;refine MwQm.rs [8,28,29,30] ?_;refine Cs.seq ?_;refine Cs.soft 8 rfl ?_;refine Cs.any (σ:=List Hm) (fun y=>HmB y) (fun y=>(8,.slc false 11 0 0 y.length)::[(28,.slc true 9 0 0 3),(29,.int .i64 3),(30,.int .i64 i)]) (fun y=>⟨13,[(11,Sk.one (.row ⟨false,false,43,4,y.length,hmR false 12 y⟩)),(12,(y.length+1,fam false 45 2 (hmF false y))),(9,Sk.one (.row ⟨false,false,23,1,3,lstG [true,true,false] [4,7,1] [x.length,y1.length,raw.length]⟩)),(7,Sk.one (.row ⟨false,false,43,4,y1.length,hmR false 10 y1⟩)),(10,(y1.length+1,fam false 45 2 (hmF false y1))),(5,(x.length+1,fam false 45 2 (hmF false x))),(4,Sk.one (.row ⟨false,false,43,4,x.length,hmR false 5 x⟩)),(1,Sk.one (.row ⟨false,false,43,4,raw.length,hmR false 2 raw⟩)),(2,(raw.length+1,fam false 45 2 (hmF false raw)))]⟩) ?_ (fun y hyyB=> ?_)
   ·have e:i=0∨i=1∨i=2:=by omega
    rcases e with rfl|rfl|rfl
    ·exact⟨x,hxB,fun k=>if k=11 then 4 else if k=12 then 5 else k,(MwQm.g (fun k=>if k=11 then 4 else if k=12 then 5 else k))⟩
    ·exact⟨y1,hyB,fun k=>if k=11 then 7 else if k=12 then 10 else k,(MwQm.g (fun k=>if k=11 then 7 else if k=12 then 10 else k))⟩
    ·exact⟨raw,hraw,fun k=>if k=11 then 1 else if k=12 then 2 else k,(MwQm.g (fun k=>if k=11 then 1 else if k=12 then 2 else k))⟩
   refine Cs.reg [8,9,10,11,28,29,30] rfl ?_;intro K hK;refine z5f z5 ?_;refine z5f z5 ?_;refine MwQm.ca (rebP_spec y hyyB y.length rfl) (fun q=>q+11) ?_;rintro s0 H0 ⟨L1,ss,hS1,hB1,hss,rfl,rfl⟩ s1 H1 hs1 hH1;obtain⟨hs2,hH2⟩:=MwQm.af hs1 hH1;clear hs1 hH1;subst hs2 hH2;repeat(with_reducible apply ai;exact z7)
   iterate 7 (refine z5f z5 ?_)
   refine za (z8 (hK _ _ ?_));clear hK K;refine sg [9,10,11,12,13,14,28,29,30] rfl ?_;intro K hK;refine z5f z5 ?_;refine z5f z5 ?_;refine MwQm.ca (rebR_spec y hyyB y.length rfl) (fun q=>q+11) ?_;rintro s0 H0 ⟨L2,us,W,μ,hS2,hB2,hus,hsrc,rfl,rfl⟩ s1 H1 hs1 hH1;obtain⟨hs2,hH2⟩:=MwQm.af hs1 hH1;clear hs1 hH1;subst hs2 hH2;repeat(with_reducible apply ai;exact z7)
   obtain⟨hsu,hLL⟩:=hS1.det hS2;have hln:L1.length=L2.length:=by rw[←z1v L1,←z1v L2,hLL]
   subst hsu;iterate 7 (refine z5f z5 ?_)
   refine za (z8 (hK _ _ ?_));clear hK K;refine Cs.seq ?_;rw[←hln];refine Cs.reg [28,29,30,57] rfl ?_;intro K hK;iterate 4 (refine z5f z5 ?_)
   refine z5f z5 ?_;refine MwQm.c1 (sameW_spec L1 L2 y W μ hLL hB1 hB2 hsrc L1.length rfl y.length rfl W.length rfl (if vldB (vls y)=true then 0 else 1)) (fun q=>if q=0 then 13 else if q=1 then 14 else if q=2 then 16 else if q=3 then 12 else 17) ?_;iterate 4 (refine z5f z5 ?_)
   refine z5 ?_;refine z1d rfl rfl ?_;refine zy ?_;refine⟨fun _=> ?_,fun h=>(by cases h)⟩;refine z5f id ?_;refine MwQm.c1 (sameSteps_spec ss ss hss hss) (fun q=>if q=0 then 15 else 18) ?_;iterate 2 (refine z5f z5 ?_)
   refine za (z8 (hK _ _ ?_));clear hK K;refine Cs.cond _ rfl ?_ ?_
   ·intro h57
    exfalso
    simp at h57
   ·intro h57
    refine Cs.skip ?_;refine Cs.nil ?_;refine hN1 _ _ ?_;refine MwQm.rg [28,29,30] ?_;refine Cs.nil ?_;refine hL1 _ _ ?_;rw[show(i:Int)+1=((i+1:Nat):Int) from by omega];exact⟨i+1,⟨by omega,by omega⟩,id,(MwQm.g id)⟩
  ·intro h31
   refine Cs.exit ?_;refine hEL1 _ _ _ ?_;refine hX0 _ _ ?_;refine sg [4] rfl ?_;intro K hK;refine z5f z5 ?_;refine MwQm.c1 (awake_spec) (id) ?_;refine z5f z5 ?_;refine za (z8 (hK _ _ ?_));clear hK K;refine Cs.ret ?_;refine hQ _ _ ?_;refine zm.mk (H':=⟨3,[]⟩) (.inl rfl) ?_;refine zh ?_;refine⟨MwQm.s,(MwQm.g id),MwQm.s,?_⟩;trivial
end Go.Proofs

namespace Go.Proofs.YtcgbbbockmcmoaaGreatDoor
open Go.ChangeShapes Go.WideShapes Go.RowKit Go.Sk Go.Proofs
theorem own:ownKnob Tryz.prog.godebug=none:=by kernel_rfl
theorem laid:laidOutB Tryz.prog=true:=by kernel_rfl
theorem rowed:mapsRowed Tryz.prog=true:=by kernel_rfl
theorem fullS:∀t e,t<Tryz.prog.types.size→Tryz.prog.underlying t=some (.slice e)→0<Tryz.prog.cellsOf e:=slices_full_of _ (by kernel_rfl)
theorem uInts:Tryz.prog.underlying 22=some (.slice 3):=by kernel_rfl
theorem uStr:Tryz.prog.underlying 9=some .string:=by kernel_rfl
theorem uBool:Tryz.prog.underlying 4=some .bool:=by kernel_rfl
theorem fInt:flatB Tryz.prog 3 [.i .i64]=true:=by kernel_rfl
theorem fNode:flatB Tryz.prog 40 [.i .i64,.s,.i .u32]=true:=by kernel_rfl
theorem gTab:Tryz.prog.globalNamed "skipgraph/skipgraphworld.letters" =some 0:=by kernel_rfl
theorem gTabType:(Tryz.prog.globals[0]?).map (·.type)=some 86:=by kernel_rfl
theorem uTab:Tryz.prog.underlying 86=some (.array 6 9):=by kernel_rfl
theorem cTab:Tryz.prog.cellsOf 86=6:=by kernel_rfl
theorem cStr:Tryz.prog.cellsOf 9=1:=by kernel_rfl
theorem oneTab:(List.range Tryz.prog.globals.size).all (fun i=> !tabG Tryz.prog i||i==0)=true:=by kernel_rfl
theorem tabs {W:World}(h:laidMetH Tryz.prog [("skipgraph/skipgraphworld.letters",Rows.laid_skipgraph_skipgraphworld_letters)] W):∀i,tabG Tryz.prog i=true→i<W.heap.size∧TabAt W i:=
 tabs_of_laid gTab gTabType uTab uStr cStr cTab oneTab h
theorem noTabB:(List.range Tryz.prog.globals.size).all (fun i=> !tabBG Tryz.prog i)=true:=by kernel_rfl
theorem tabsB {W:World}:∀i,tabBG Tryz.prog i=true→i<W.heap.size∧TabBAt W i:=fun i hi=>by
 exfalso
 have hlt:i<Tryz.prog.globals.size:=by
  rcases Nat.lt_or_ge i Tryz.prog.globals.size with h|h
  ·exact h
  ·unfold tabBG at hi;rw[Array.getElem?_eq_none h] at hi;cases hi
 have h1:=List.all_eq_true.1 noTabB i (List.mem_range.2 hlt);rw[hi] at h1
 cases h1
theorem uHds:Tryz.prog.underlying 23=some (.slice 43):=by kernel_rfl
theorem uRows:Tryz.prog.underlying 41=some (.slice 45):=by kernel_rfl
theorem nHd:nestB Tryz.prog 43 40 41 3=true:=by kernel_rfl
theorem fRow:flatB Tryz.prog 45 [.s,.s]=true:=by kernel_rfl
def toInt:List Value→Int
 |[.int _ z]=>z
 |_=>0
def toInts (rows:List (List Value)):List Int:=rows.map toInt
def toNd:List Value→Nd
 |[.int _ a,.string k,.int _ w]=>⟨a,k,w⟩
 |_=>noNd
theorem ints_rows {w:World}{v:Value}{q:Option Sk.Loc}{rows:List (List Value)}(h:RwIn w v q [.i .i64] rows)(i:Nat)(r:List Value)(hr:rows[i]? =some r):ints (toInts rows) i=r.map svOf:=by
 have hok:=h.ok r (List.mem_of_getElem? hr);rcases r with _|⟨v,_|⟨v',r⟩⟩
 ·exact hok.elim
 ·obtain⟨⟨z,rfl,_⟩,_⟩:=hok;simp only[ints,nth,toInts,List.getD,List.getElem?_map,hr,Option.map_some,Option.getD_some,toInt,List.map_cons,List.map_nil,svOf]
 ·exact hok.2.elim
theorem ints_in {β:Env}{w:World}{v:Value}{q:Option Sk.Loc}{rows:List (List Value)}(h:RwIn w v q [.i .i64] rows){id:Nat}(hq:β id 0=q):
  den β (.slc false id 0 0 (toInts rows).length) v∧(Sk.Obj.row ⟨false,false,3,1,(toInts rows).length,ints (toInts rows)⟩).holds β w q:=by
 have:=rows_in h hq 3 (ints (toInts rows)) (ints_rows h);simpa [toInts] using this
theorem ints_len {w:World}{v:Value}{q:Option Sk.Loc}{rows:List (List Value)}(h:RwIn w v q [.i .i64] rows):(toInts rows).length≤9223372036854775807:=by
 have:=h.len;simpa [toInts,maxLen] using this
theorem ints_ltO (m:Nat)(xs:List Int):(Sk.Obj.row ⟨false,false,3,1,xs.length,ints xs⟩).lt m:=Sk.Obj.lt_row.2 fun i _=>by simp[ints,SV.ltL,SV.lt]
def toRw:List Value→Rw
 |[.string a,.string b]=>⟨a,b⟩
 |_=>noRw
def toHm (e:El):Hm:=⟨toNd e.c,e.rows.map toRw,0⟩
def toHms (els:List El):List Hm:=els.map toHm
theorem toHms_len (els:List El):(toHms els).length=els.length:=by simp[toHms]
theorem hm_toHms {els:List El}{i:Nat}{r:El}(h:els[i]? =some r):hm (toHms els) i=toHm r:=by
 simp[hm,toHms,List.getD,h]
theorem hms_in {β:Env}{w:World}{v:Value}{q:Option Sk.Loc}{els:List El}(h:NsIn w v q [.i .i64,.s,.i .u32] [.s,.s] els){id f:Nat}(hq:β id 0=q)(hqf:∀k,β f k=elQ els k):
  den β (.slc false id 0 0 (toHms els).length) v∧(Sk.Obj.row ⟨false,false,43,4,(toHms els).length,hmR false f (toHms els)⟩).holds β w q∧∀k,k<(toHms els).length+1→(fam false 45 2 (hmF false (toHms els)) k).holds β w (β f k):=by
 have hi:∀(i:Nat) (r:El),els[i]? =some r→∃a k z,r.c=[.int .i64 a,.string k,.int .u32 z]:=fun i r hr=>by
  have hok:=(h.ok r (List.mem_of_getElem? hr)).1;rcases hc:r.c with _|⟨v0,_|⟨v1,_|⟨v2,_|⟨v3,t⟩⟩⟩⟩
  ·rw[hc] at hok;exact hok.elim
  ·rw[hc] at hok;exact hok.2.elim
  ·rw[hc] at hok;exact hok.2.2.elim
  ·rw[hc] at hok;obtain⟨⟨a,rfl,_⟩,⟨k,rfl,_⟩,⟨z,rfl,_⟩,_⟩:=hok;exact⟨a,k,z,rfl⟩
  ·rw[hc] at hok;exact hok.2.2.2.elim
 have:=nest_in h hq hqf 43 45 (hmR false f (toHms els)) (fun i r hr=>by
  obtain⟨a,k,z,hz⟩:=hi i r hr;rw[z87,hm_toHms hr,hz]
  simp[toHm,toNd,hz,svOf,Hm.n]) (hmF false (toHms els)) (fun i r hr=>⟨rws (toHm r).full,by rw[z86,hm_toHms hr];simp[toHm],fun j u hu=>by
   have hok:=(h.ok r (List.mem_of_getElem? hr)).2.ok u (List.mem_of_getElem? hu);rcases u with _|⟨v0,_|⟨v1,_|⟨v2,t⟩⟩⟩
   ·exact hok.elim
   ·exact hok.2.elim
   ·obtain⟨⟨a,rfl,_⟩,⟨b,rfl,_⟩,_⟩:=hok;simp[rws,ro,toHm,List.getD,hu,toRw,Rw.sv,svOf]
   ·exact hok.2.2.elim⟩)
 rw[toHms_len];exact this
theorem hms_len {w:World}{v:Value}{q:Option Sk.Loc}{els:List El}(h:NsIn w v q [.i .i64,.s,.i .u32] [.s,.s] els):(toHms els).length≤9223372036854775807:=by
 have:=h.len;simpa [toHms,maxLen] using this
theorem hms_off {w:World}{v:Value}{q:Option Sk.Loc}{els:List El}(_h:NsIn w v q [.i .i64,.s,.i .u32] [.s,.s] els):∀i,i<(toHms els).length→(hm (toHms els) i).off=0:=fun i hi=>by
 rw[toHms_len] at hi;rw[hm_toHms (List.getElem?_eq_getElem hi)];rfl
theorem hms_rows {w:World}{v:Value}{q:Option Sk.Loc}{els:List El}(h:NsIn w v q [.i .i64,.s,.i .u32] [.s,.s] els):∀i,i<(toHms els).length→(hm (toHms els) i).full.length≤9223372036854775807:=fun i hi=>by
 rw[toHms_len] at hi;rw[hm_toHms (List.getElem?_eq_getElem hi)];have:=(h.ok _ (List.getElem_mem hi)).2.len;simp[toHm,maxLen] at this ⊢;omega
theorem hmR_ltO (m f:Nat)(hf:f<m)(l:List Hm):(Sk.Obj.row ⟨false,false,43,4,l.length,hmR false f l⟩).lt m:=Sk.Obj.lt_row.2 fun i _=>(z2t _ _ _ _ i).2 hf
noncomputable def laidWorld (os:Os):World:=
  { World.holding Tryz.prog os ⟨#[], #[], []⟩ with heap := (World.holding Tryz.prog os ⟨#[], #[], []⟩).heap.modify 0 fun
      | .cells _ t frozen=> .cells (letters.map Value.string).toArray t frozen
      |o=>o}
end Go.Proofs.YtcgbbbockmcmoaaGreatDoor

namespace Go.Proofs.YtcgbbbockmcmoaaGreatDoor.moveRebalancesTop
open Go.ChangeShapes Go.WideShapes Go.RowKit Go.Sk Go.Proofs
theorem top (W:World)(v0 v1:Value)(q0 q1:Option Sk.Loc)(r0:List (List Value))(h0:RwIn W v0 q0 [.i .i64] r0)(r1:List El)(h1:NsIn W v1 q1 [.i .i64,.s,.i .u32] [.s,.s] r1)
  (htab:∀i,tabG Tryz.prog i=true→i<W.heap.size∧TabAt W i) (htabB:∀i,tabBG Tryz.prog i=true→i<W.heap.size∧TabBAt W i):Calls Tryz.prog 3 #[v0,v1] W fun e w'=>e= .returned (.bool true)∧Below W.heap.size W w':=by
 let β:Env:=fun id k=>if id=0 then q0 else if id=1 then q1 else elQ r1 k
 obtain⟨a0,b0⟩:=ints_in (β:=β) (id:=0) h0 rfl;obtain⟨a1,b1,c1⟩:=hms_in (β:=β) (id:=1) (f:=2) h1 rfl (fun _=>rfl);refine ze.top (Ent.of Tryz.func3 (by kernel_rfl) (by kernel_rfl)) (rebalances_spec (toInts r0) (toHms r1) (ints_len h0) (hms_len h1) (hms_off h1) (hms_rows h1)) β W [v0,v1] (fun id k o ho=> ?_) ⟨v0,[v1],a0,⟨v1,[],a1,rfl,rfl⟩,rfl⟩ (by simp[SV.ltL,SV.lt]) htab htabB;obtain⟨c,F,hf,hk,rfl⟩:=z1s ho;simp only[Sk.find,z1t,Sk.one] at hf
 split at hf
 ·rename_i e;subst e;cases hf
  exact⟨rfl,by show(0:Nat)<3;omega,ints_ltO _ _,b0⟩
 ·skip
  split at hf
  ·rename_i e;subst e;cases hf
   exact⟨rfl,by show(1:Nat)<3;omega,hmR_ltO _ _ (by show(2:Nat)<3;omega) _,b1⟩
  ·skip
   split at hf
   ·rename_i e;subst e;cases hf
    refine⟨z18 _ _ _ _ _,by show(2:Nat)<3;omega,?_,c1 k hk⟩
    cases k with
    |zero=>exact Obj.lt_row.2 fun i hi=>absurd hi (Nat.not_lt_zero _)
    |succ j=>exact z1h _ _ _ j
   ·cases hf
theorem contract (H:Type)(enc:TypeId×Value→H)(W:World)(base:Nat)(args:Array Value)(ds gs:List (DataW H))(before:List MemPlace)
  (hval:∀(j:Nat) t v,Tryz.f3.params[j]? =some t→args[j]? =some v→Value.okWide Tryz.prog W .any base t v)
  (hW:DataW.Whole enc Tryz.prog Tryz.f3.params.toList Rows.moveRebalancesSpec.vars false W args.toList ds gs before) (hL:laidMetH Tryz.prog Rows.moveRebalancesRow.laid W):
  Calls Tryz.prog 3 args W fun e W'=> ∃v,e= .returned v∧Rows.moveRebalancesSpec.post enc Tryz.prog Tryz.f3 false true false false W args v W':=by
 have hW1:=hW;obtain⟨p,q,hA0,hV,rfl,_,_⟩:=hW;have hA:DataW.TrodAll enc Tryz.prog W 0 (fun _=>true) true Tryz.f3.params.toList args.toList ds p:=hA0;have hval1:∀(j:Nat) t v,Tryz.f3.params[j]? =some t→args[j]? =some v→Value.okWide Tryz.prog W .any base t v:=hval;rw[Tryz.params3] at hA hval1;obtain⟨v0,vs0,d0,ds0,p0,q0,ha0,rfl,rfl,h0,r0⟩:=trodAll_cons hA;obtain⟨v1,vs1,d1,ds1,p1,q1,ha1,rfl,rfl,h1,r1⟩:=trodAll_cons r0;obtain⟨rfl,rfl,rfl⟩:=trodAll_nil r1;obtain rfl:args= #[v0,v1]:=by cases args;simp_all
 obtain⟨_,_,x0⟩:=rows_open uInts fInt (by simp) (hval1 0 _ v0 rfl rfl) h0;obtain⟨_,_,x1⟩:=nest_params (k1:=[.i .i64,.s,.i .u32]) uHds nHd fNode uRows fRow (by simp) (hval1 1 _ v1 rfl rfl) h1;refine(top W v0 v1 _ _ _ x0 _ x1 (tabs hL) tabsB).mono fun e W1 ⟨he,hb⟩=> ?_;subst he;refine⟨_,rfl,law_post laid rowed fullS (by decide+kernel) rfl hW1 hb rfl uBool fun ds hd=> ?_⟩;have hd1:ds.length=2:=hd
 match ds,hd1 with
 |[_,_],_=>rfl
theorem laid_met (os:Os):laidMet Tryz.prog Rows.moveRebalancesRow.laid ((laidWorld os).forCall (fun _ _=>0) ⟨#[],#[.slice none 0 0,.slice none 0 0],[]⟩).memory:=
 laidMet_of_run' 8 (by kernel_rfl) (by kernel_rfl)
theorem reads (os:Os){H:Type}(enc:TypeId×Value→H):∃places,DataW.whole enc Tryz.prog ((laidWorld os).forCall (fun _ _=>0) ⟨#[],#[.slice none 0 0,.slice none 0 0],[]⟩).memory Tryz.f3.params.toList Rows.moveRebalancesSpec.vars false #[Value.slice none 0 0,.slice none 0 0].toList 8=some ([.nil,.nil],[],places):=
 ⟨[],by kernel_rfl⟩
set_option maxRecDepth 100000 in
theorem lifted (os:Os)(started:os.Started)(H:Type)(enc:TypeId×Value→H)(F:Stop.Interp):
  ReturnsInHanded {} Tryz.checked os 3 .any ((OpenSpec.ofChange Rows.moveRebalancesSpec).preRow enc Tryz.prog Tryz.f3 Rows.moveRebalancesRow.domain false Rows.moveRebalancesRow.laid) (((OpenSpec.ofChange Rows.moveRebalancesSpec).at F).post enc Tryz.prog Tryz.f3 false true false false):=by
 obtain⟨places,hx⟩:=reads os enc
 refine returnsInHanded_of_row (C:=Tryz.checked) (s:=OpenSpec.ofChange Rows.moveRebalancesSpec) own started (by kernel_rfl) Tryz.func3
  (witness_row_at (enc:=enc) (C:=Tryz.checked) false (laidWorld os) #[.slice none 0 0,.slice none 0 0] rfl (by kernel_rfl) (by kernel_rfl) (by kernel_rfl)
   (OpenSpec.preRow_of_cond 8 hx (by kernel_rfl) (fun k hk=>by cases hk) (by kernel_rfl) (laid_met os))) ?_
 intro W base args ds gs before hval hW _ _ _ hL _ _;exact contract H enc W base args ds gs before hval hW hL
theorem said:Rows.MoveRebalancesSaid:=
 OpenClaim.holds_of_cond 3 Tryz.f3 rfl rfl rfl rfl rfl rfl rfl ⟨rfl,rfl,rfl,rfl,rfl⟩ rfl rfl rfl rfl rfl (by kernel_rfl) Tryz.func3 (by kernel_rfl)
  (of_decide_eq_true (by kernel_rfl)) (by unfold Func.isWrapper;first|(rw[if_pos (by decide+kernel)];kernel_rfl)|(rw[if_neg (by decide+kernel)];exact⟨rfl,rfl⟩))
  (fun os started H enc _ F=>by rw[OpenClaim.pre_eq_preRow];exact lifted os started H enc F)
theorem plain (f:FuncId)(fn:Func)(hf:Tryz.pinned.checked.prog.funcNamed "skipgraph/skipgraphlaw33.MoveRebalances" =some f)(hfn:Tryz.pinned.checked.prog.funcs[f]? =some fn):
  false=Tryz.pinned.checked.prog.looks []∧∀(j:Nat) t,fn.params[j]? =some t→Tryz.pinned.checked.prog.wantsStandIn t=false:=by
 obtain rfl:f=3:=Option.some.inj ((show Tryz.prog.funcNamed "skipgraph/skipgraphlaw33.MoveRebalances" =some 3 by kernel_rfl).symm.trans hf)|>.symm
 obtain rfl:fn=Tryz.f3:=(Option.some.inj (Tryz.func3.symm.trans hfn)).symm;refine⟨by kernel_rfl,fun j t ht=> ?_⟩;rw[Tryz.params3] at ht;have hm:t∈[22,23]:=by simpa using Array.mem_of_getElem? ht
 have hall:([22,23].all fun u=> !Tryz.prog.wantsStandIn u)=true:=by kernel_rfl
 exact(show Tryz.prog.wantsStandIn t=false by simpa using List.all_eq_true.1 hall t hm)
theorem proved:Rows.MoveRebalancesCardSaid:=
 Claim7.holds_tied_plain_at .later [] _ _ _ _ said (fun _ h=>by cases h) (by kernel_rfl) (fun _ h=>by cases h) moveRebalances_row_tie rfl ⟨rfl,rfl⟩ (by kernel_rfl) rfl plain (by kernel_rfl)
end Go.Proofs.YtcgbbbockmcmoaaGreatDoor.moveRebalancesTop
#print axioms Go.Proofs.YtcgbbbockmcmoaaGreatDoor.moveRebalancesTop.proved
