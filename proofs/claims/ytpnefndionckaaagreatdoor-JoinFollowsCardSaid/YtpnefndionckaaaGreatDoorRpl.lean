/-
  Walks and plain facts, joined: part 12 of 18.
  Conditions: those that each statement names.
-/
import Derived.Test.YtpnefndionckaaaGreatDoorRpd
import Derived.Test.YtpnefndionckaaaGreatDoorRpk
import Derived.Test.YtpnefndionckaaaGreatDoorRpg
import Derived.Test.YtpnefndionckaaaGreatDoorRpc
set_option linter.unusedSimpArgs false
set_option linter.unusedVariables false
set_option linter.defProp false
set_option maxRecDepth 4000
set_option maxHeartbeats 8000000
namespace Go.Proofs
open Tryz
open Go.Sk
def uniq_pw {lt:Int->Int->Bool}(irr:∀a,lt a a=false)(asy:∀a b,lt a b=true->lt b a=false):∀{l m:List Int},l.Pairwise (fun a b=>lt a b=true)->m.Pairwise (fun a b=>lt a b=true)->(∀z,z∈l↔z∈m)->l=m
 |[],[],_,_,_=>rfl
 |[],b::m,_,_,h=>absurd ((h b).2 (qo ..)) QJ
 |a::l,[],_,_,h=>absurd ((h a).1 (qo ..)) QJ
 |a::l,b::m,hl,hm,h=>by
  obtain⟨h1,h2⟩:=Qz.1 hl;obtain⟨h3,h4⟩:=Qz.1 hm
  have e:a=b:=by
   rcases qv.1 ((h a).1 (qo ..)) with e|e
   ·exact e
   rcases qv.1 ((h b).2 (qo ..)) with e'|e'
   ·exact e'.symm
   have:=asy _ _ (h1 b e');rw[h3 a e] at this;cases this
  subst e;rw[uniq_pw irr asy h2 h4 fun z=> ?_]
  have hne:∀z,z∈l->z≠a:=fun z hz e=>by
   have:=h1 z hz;rw[e,irr] at this;cases this
  have hne':∀z,z∈m->z≠a:=fun z hz e=>by
   have:=h3 z hz;rw[e,irr] at this;cases this
  constructor
  ·intro hz;exact(qv.1 ((h z).1 (qp _ hz))).resolve_left (hne z hz)
  intro hz;exact(qv.1 ((h z).2 (qp _ hz))).resolve_left (hne' z hz)
def foldl_pw {lt:Int->Int->Bool}(irr:∀a,lt a a=false)(tr:∀a b c,lt a b=true->lt b c=true->lt a c=true):∀(xs l:List Int),l.Pairwise (fun a b=>lt a b=true)->(l++xs).Nodup->(∀a∈l++xs,∀b∈l++xs,a≠b->lt a b=false->lt b a=true)->(xs.foldl (insR lt) l).Pairwise (fun a b=>lt a b=true)
 |[],l,hl,_,_=>hl
 |x::xs,l,hl,hn,ht=>by
  have hmem:∀z,z∈insR lt l x++xs↔z∈l++x::xs:=fun z=>by
   simp only[Qa,insR_mem,qv]
   constructor
   ·rintro((a|a)|a)
    ·exact .inr (.inl a)
    ·exact .inl a
    exact .inr (.inr a)
   rintro(a|a|a)
   ·exact .inl (.inr a)
   ·exact .inl (.inl a)
   exact .inr a
  have hx:x∉l:=fun hx=>(jM.1 hn).2.2 x hx x (qo ..) rfl;have hpw:=insR_pw tr hl (x:=x) fun y hy hlt=>ht x (Qg _ (qo ..)) y (QD _ hy) (fun e=>hx (e ▸ hy)) hlt;refine foldl_pw irr tr xs (insR lt l x) hpw ?_ fun a ha b hb=>ht a ((hmem a).1 ha) b ((hmem b).1 hb);have h2:=jM.1 hn;have h3:=Jo.1 h2.2.1;refine jM.2 ⟨?_,h3.2,fun a ha b hb e=> ?_⟩
  ·exact hpw.imp fun {a b} h e=>by subst e;rw[irr] at h;cases h
  subst e;rcases insR_mem.1 ha with e|e
  ·subst e;exact h3.1 hb
  exact h2.2.2 a e a (qp _ hb) rfl
def srtR_pw {lt:Int->Int->Bool}(irr:∀a,lt a a=false)(tr:∀a b c,lt a b=true->lt b c=true->lt a c=true){xs:List Int}(hn:xs.Nodup)(ht:∀a∈xs,∀b∈xs,a≠b->lt a b=false->lt b a=true):(srtR lt xs).Pairwise (fun a b=>lt a b=true):=
 foldl_pw irr tr xs [] Ju (by simpa using hn) (by simpa using ht)
structure InR (n:Nat) where
 val:Int
 inn:val=0\/(0<=val/\val<n)
def InR.ext' {n:Nat}{x y:InR n}(h:x.val=y.val):x=y:=by
 cases x;cases y;cases h;rfl
@[reducible] def InR.inh (n:Nat):Inhabited (InR n):=⟨⟨0,.inl rfl⟩⟩
def InR.ok {n:Nat}(hn:0<n)(x:InR n):0<=x.val/\x.val<n:=by
 rcases x.inn with e|e
 ·omega
 exact e
def cmpOf (lt:Int->Int->Bool)(a b:Int):Int:=if lt a b then -1 else 1
def cmpOf_lt (lt:Int->Int->Bool)(a b:Int):decide (cmpOf lt a b<0)=lt a b:=by
 unfold cmpOf
 cases lt a b<;>rfl
def sortInts {P:Program}{ρs:Go.Shelf.Ren}(L:SlLaysF.n6 P ρs)(hentS:Ent P (ρs.f 6))(g:FuncId)(hent:Ent P g)(cap:List SV)(N:Nat)(os:List (Nat×Nat×(Nat->Sk.Obj)))(e:TypeId)(lt:Int->Int->Bool)(n:Nat)(hn:0<n)
  (xs:List Int) (hxs:∀x∈xs,0<=x/\x<n) (hnd:xs.Nodup) (irr:∀a,lt a a=false) (tr:∀a b c,lt a b=true->lt b c=true->lt a c=true) (tot:∀a b:Int,(0<=a/\a<n)->(0<=b/\b<n)->a≠b->lt a b=false->lt b a=true)
  (ρ:Nat->Nat) (Hc:AH) (hno:∀id k o,Sk.look Hc.os id k=some o->o.own=false) (hgv:∀f',z5o ρ Hc.nxt ((0,rO e 1 xs.length f')::os) Hc.os)
  (capc:List SV) (hcap:SV.renL ρ capc=cap) (hcl:SV.ltL Hc.nxt capc) (hos:∀id k o,Sk.look os id k=some o->o.own=false)
  (hcmp:∀a b:Int,(0<=a/\a<n)->(0<=b/\b<n)->zj P g (.int .i64 a:: .int .i64 b::capc) Hc (fun s _=>s= .int .i64 (cmpOf lt a b))) (hsz:xs.length<=1000000):
  zj P (ρs.f 6) [.slc true 0 0 0 xs.length,.fn g cap] ⟨N,(0,rO e 1 xs.length (ints xs))::os⟩
   (fun s H1=>s= .tup []/\H1=⟨N,[(0,rO e 1 ((srtR lt xs).length) (ints (srtR lt xs)))]⟩):=by
 letI:Inhabited (InR n):=InR.inh n
 have hdef:InR.val (default:InR n)=0:=rfl
 let cf:InR n->InR n->Int:=fun x y=>cmpOf lt x.val y.val
 let d:Array (InR n):=(xs.attach.map fun x=>(⟨x.1,.inr (hxs x.1 x.2)⟩:InR n)).toArray
 have hdl:d.toList.map InR.val=xs:=by
  show(xs.attach.map fun x=>(⟨x.1,.inr (hxs x.1 x.2)⟩:InR n)).map InR.val=xs
  rw[j8];simp
 have hds:d.size=xs.length:=by simp[d]
 have hlt:∀x y,ltOf cf x y=lt x.val y.val:=fun x y=>cmpOf_lt lt _ _
 have htot:∀x y:InR n,lt x.val y.val=false->lt y.val x.val=false->x=y:=fun x y h1 h2=>by
  by_cases h:x.val=y.val
  ·exact InR.ext' h
  have:=tot _ _ (x.ok hn) (y.ok hn) h h1;rw[h2] at this;cases this
 have hO:Go.Sort.SWO (ltOf cf):=⟨fun x=>by rw[hlt];exact irr _,fun x y z h1 h2=>by rw[hlt] at*;exact tr _ _ _ h1 h2,fun x y z h1 h2=>by
  rw[hlt] at*
  cases h:lt x.val z.val with
  |false=>rfl
  |true=>
   by_cases hxy:x=y
   ·rw[hxy,h2] at h;cases h
   have h3:lt y.val x.val=true:=by
    cases h4:lt y.val x.val with
    |true=>rfl
    |false=>exact absurd (htot x y h1 h4) hxy
   have:=tr _ _ _ h3 h
   rw[h2] at this;cases this⟩
 have hval:∀(c:Array (InR n)) (i:Nat),InR.val c[i]! =nth (c.toList.map InR.val) i:=fun c i=>by
  simp only[nth,List.getD,qQ,QG]
  by_cases h:i<c.size
  ·rw[getElem!_pos c i h,Jl h];rfl
  rw[getElem!_neg c i h,QL (by omega)];exact hdef
 have hperm:(z5g cf d).toList.Perm d.toList:=List.mergeSort_perm _ _
 have hsrt:(z5g cf d).toList.map InR.val=srtR lt xs:=by
  have hmem:∀z,z∈(z5g cf d).toList.map InR.val↔z∈srtR lt xs:=fun z=>by
   rw[srtR_mem,<-hdl,Qs,Qs]
   constructor
   ·rintro⟨a,h1,h2⟩;exact⟨a,hperm.mem_iff.1 h1,h2⟩
   rintro⟨a,h1,h2⟩;exact⟨a,hperm.mem_iff.2 h1,h2⟩
  have hnd2:((z5g cf d).toList.map InR.val).Nodup:=(hperm.map InR.val).nodup_iff.2 (by rw[hdl];exact hnd)
  have hle:(z5g cf d).toList.Pairwise (fun a b=>(!(ltOf cf) b a)=true):=List.pairwise_mergeSort (le:=fun x y=> !(ltOf cf) y x) (fun a b c h1 h2=>by
   simp only[qn] at*
   exact hO.ntrans _ _ _ h2 h1) (fun a b=>by
   simp only[hlt]
   cases h1:lt b.val a.val with
   |false=>rfl
   |true=>
    cases h2:lt a.val b.val with
    |false=>rfl
    |true=>have:=tr _ _ _ h1 h2;rw[irr] at this;cases this) _
  refine uniq_pw irr (fun a b h=> ?_) ?_ (srtR_pw irr tr hnd fun a ha b hb=>tot a b (hxs a ha) (hxs b hb)) hmem
  ·cases h2:lt b a with
   |false=>rfl
   |true=>have:=tr _ _ _ h h2;rw[irr] at this;cases this
  rw[jN];have hnd3:=jN.1 hnd2;refine(hle.and hnd3).imp fun {a b} h=> ?_;have h1:=h.1;rw[hlt,qn] at h1;exact tot _ _ (b.ok hn) (a.ok hn) (fun e=>h.2 e.symm) h1
 have hsl:(srtR lt xs).length=xs.length:=srtR_length lt xs;have h:=sortFn_spec L hentS g hent cap N os e xs.length (ints xs) InR.val d hds (fun i _=>by rw[hval,hdl];rfl) cf hO (fun x y h1 h2=>by rw[hlt] at h1 h2;exact htot x y h1 h2) ρ Hc hno hgv capc hcap hcl hos (fun x y=>hcmp _ _ (x.ok hn) (y.ok hn)) hsz
 have hv:vals InR.val (z5g cf d)=ints (srtR lt xs):=by
  funext i
  simp only[vals,ints];rw[hval,hsrt]
 rw[hv] at h;rw[hsl];exact h
def Tryz.sortL_ren:Go.Shelf.Ren:=⟨fun|6=>89|15=>129|14=>128|28=>168|29=>169|20=>160|21=>161|22=>162|23=>163|24=>164|25=>165|26=>166|27=>167|46=>190|47=>191|48=>192|49=>193|50=>194|57=>197|n=>n,fun|22=>22|24=>3|25=>75|3=>3|39=>158|0=>0|53=>60|55=>194|4=>4|46=>186|45=>185|50=>190|5=>5|9=>9|66=>204|70=>208|76=>212|77=>107|n=>n,fun n=>n⟩
def Tryz.sortL:Go.Proofs.SlLaysF.n6 prog Tryz.sortL_ren where
 mixed:=by kernel_rfl
 f6:=⟨"slices.SortFunc[[]int,int]",by decide,Tryz.func89.trans (Qv some (by kernel_rfl))⟩
 f14:=⟨"slices.pdqsortCmpFunc[int]",by decide,Tryz.func128.trans (Qv some (by kernel_rfl))⟩
 f15:=Tryz.func129.trans (Qv some (by kernel_rfl))
 f20:=⟨"slices.insertionSortCmpFunc[int]",by decide,Tryz.func160.trans (Qv some (by kernel_rfl))⟩
 f21:=⟨"slices.heapSortCmpFunc[int]",by decide,Tryz.func161.trans (Qv some (by kernel_rfl))⟩
 f22:=⟨"slices.breakPatternsCmpFunc[int]",by decide,Tryz.func162.trans (Qv some (by kernel_rfl))⟩
 f23:=⟨"slices.choosePivotCmpFunc[int]",by decide,Tryz.func163.trans (Qv some (by kernel_rfl))⟩
 f24:=⟨"slices.reverseRangeCmpFunc[int]",by decide,Tryz.func164.trans (Qv some (by kernel_rfl))⟩
 f25:=⟨"slices.partialInsertionSortCmpFunc[int]",by decide,Tryz.func165.trans (Qv some (by kernel_rfl))⟩
 f26:=⟨"slices.partitionEqualCmpFunc[int]",by decide,Tryz.func166.trans (Qv some (by kernel_rfl))⟩
 f27:=⟨"slices.partitionCmpFunc[int]",by decide,Tryz.func167.trans (Qv some (by kernel_rfl))⟩
 f28:=Tryz.func168.trans (Qv some (by kernel_rfl))
 f29:=Tryz.func169.trans (Qv some (by kernel_rfl))
 f46:=⟨"slices.siftDownCmpFunc[int]",by decide,Tryz.func190.trans (Qv some (by kernel_rfl))⟩
 f47:=Tryz.func191.trans (Qv some (by kernel_rfl))
 f48:=Tryz.func192.trans (Qv some (by kernel_rfl))
 f49:=⟨"slices.medianAdjacentCmpFunc[int]",by decide,Tryz.func193.trans (Qv some (by kernel_rfl))⟩
 f50:=⟨"slices.medianCmpFunc[int]",by decide,Tryz.func194.trans (Qv some (by kernel_rfl))⟩
 f57:=⟨"slices.order2CmpFunc[int]",by decide,Tryz.func197.trans (Qv some (by kernel_rfl))⟩
 t0:=underlying0
 a0:=Tryz.isAgg0
 z0:=Tryz.sizeOf0
 v0:=Tryz.zeroValue0
 t3:=underlying3
 a3:=Tryz.isAgg3
 z3:=Tryz.sizeOf3
 v3:=Tryz.zeroValue3
 t4:=underlying4
 a4:=Tryz.isAgg4
 z4:=Tryz.sizeOf4
 v4:=Tryz.zeroValue4
 t5:=underlying5
 a5:=Tryz.isAgg5
 z5:=Tryz.sizeOf5
 v5:=Tryz.zeroValue5
 t9:=underlying9
 a9:=Tryz.isAgg9
 z9:=Tryz.sizeOf9
 v9:=Tryz.zeroValue9
 t22:=underlying22
 a22:=Tryz.isAgg22
 z22:=Tryz.sizeOf22
 v22:=Tryz.zeroValue22
 a24:=Tryz.isAgg3
 z24:=Tryz.sizeOf3
 t25:=underlying75
 a25:=Tryz.isAgg75
 z25:=Tryz.sizeOf75
 v25:=Tryz.zeroValue75
 t39:=underlying158
 a39:=Tryz.isAgg158
 z39:=Tryz.sizeOf158
 v39:=Tryz.zeroValue158
 t45:=underlying185
 a45:=Tryz.isAgg185
 z45:=Tryz.sizeOf185
 v45:=Tryz.zeroValue185
 t46:=underlying186
 a46:=Tryz.isAgg186
 z46:=Tryz.sizeOf186
 v46:=Tryz.zeroValue186
 t50:=underlying190
 a50:=Tryz.isAgg190
 z50:=Tryz.sizeOf190
 v50:=Tryz.zeroValue190
 t53:=underlying60
 a53:=Tryz.isAgg60
 z53:=Tryz.sizeOf60
 v53:=Tryz.zeroValue60
 t55:=underlying194
 a55:=Tryz.isAgg194
 z55:=Tryz.sizeOf194
 v55:=Tryz.zeroValue194
 t66:=underlying204
 a66:=Tryz.isAgg204
 z66:=Tryz.sizeOf204
 v66:=Tryz.zeroValue204
 t70:=underlying208
 a70:=Tryz.isAgg208
 z70:=Tryz.sizeOf208
 v70:=Tryz.zeroValue208
 t76:=underlying212
 a76:=Tryz.isAgg212
 z76:=Tryz.sizeOf212
 v76:=Tryz.zeroValue212
 t77:=underlying107
 a77:=Tryz.isAgg107
 z77:=Tryz.sizeOf107
 v77:=Tryz.zeroValue107
def entSort:Ent prog 89:=Ent.of func89 (by kernel_rfl) (by kernel_rfl)
def entN:Ent prog 90:=Ent.of func90 (by kernel_rfl) (by kernel_rfl)
def memOk_of {n:Nat}{xs:List Int}(h:MemOk n xs):∀x∈xs,0<=x/\x<n:=fun x hx=>by
 obtain⟨i,hi,e⟩:=Qk hx;have:=h i hi;rw[z30 hi,e] at this;exact this
def look_no {l:List (Nat×Nat×(Nat->Sk.Obj))}(h:∀x∈l,∀k,(x.2.2 k).own=false):∀id k o,Sk.look l id k=some o->o.own=false:=fun id k o ho=>by
 obtain⟨c,F,hf,_,rfl⟩:=z1h ho;exact h _ (z1j hf) k
def sort_specK (f:FuncId)(hf:CmpOk f)(hent:Ent prog f)(cs:List Cl)(n m:Nat)(hn:cs.length=n)(hn0:0<n)(xs:List Int)(k:Nat)(hk:xs.length=k)(hk2:k<=1000000)(hxs:MemOk n xs)(hnd:xs.Nodup)(hd:Dst cs):
  zj prog 89 [.slc true 0 0 0 k,cmpSv f] ⟨4,[(0,zu xs),(1,lsCap 2 n 3 m),(2,z4l cs),(3,noPrs)]⟩
   (fun s H1=>s= .tup []/\H1=⟨4,[(0,zu (srtI (z1m cs) xs))]⟩):=by
 subst hk hn;rw[srtI_srtR];unfold cmpSv
 exact sortInts Tryz.sortL entSort f hent [.ptr 1 0 0 0] 4 [(1,lsCap 2 cs.length 3 m),(2,z4l cs),(3,noPrs)] 3 (z1m cs) cs.length hn0 xs (memOk_of hxs) hnd (lessC_irr cs) (fun _ _ _=>z32) (fun a b ha hb h=>hd.total ha hb h)
  (fun q=>q+1) ⟨3,[(0,lsCap 1 cs.length 2 m),(1,z4l cs),(2,noPrs)]⟩ (look_no (by simp[lsCap,z4l,noPrs,uQ,rO,rI,rV,Obj.own])) (fun _=>by simp[z5o,Sk.find,uQ,rO,rI,rV,z1e,z4a,SV.renL,SV.ren,Obj.lt_row,SV.ltL,SV.lt,lsCap,z4l,noPrs,cls_ren',cls_lt]) [.ptr 0 0 0 0] rfl (by simp[SV.ltL,SV.lt])
  (look_no (by simp[lsCap,z4l,noPrs,uQ,rO,rI,rV,Obj.own])) (fun a b ha hb=>(hf cs cs.length m rfl a b ha hb).mono fun s _ h=>h.1) hk2
def insAtI_length {l:List Int}{k:Nat}{x:Int}(h:k<=l.length):(insAtI l k x).length=l.length+1:=by
 simp[insAtI];omega
def nth_insAtI {l:List Int}{k:Nat}{x:Int}(h:k<=l.length)(q:Nat):nth (insAtI l k x) q=if q<k then nth l q else if q=k then x else nth l (q-1):=by
 by_cases h1:q<k
 ·rw[qe h1,insAtI,z3p (by simp;omega),z3p (by simp;omega)];simp only[nth,List.getD,Qb,qe h1]
 rw[qc h1]
 by_cases h2:q=k
 ·subst h2;rw[qe rfl,insAtI,z3p (by simp;omega),z68 (by simp;omega)];simp only[qN,QX h,QV];rfl
 rw[qc h2,insAtI,z68 (by simp;omega)];simp only[nth,List.getD,QR,qX,qN,Qn,QX h]
 congr 2;omega
def ins_rowsI {ys:List Int}{k:Nat}(hk:k<=ys.length)(x:Int){q:Nat}(hq:q<ys.length+1):
  (if q=k then SV.int .i64 x::(z69 (ints (ys++[0])) (k+1) (min (ys.length+1-k) (ys.length-k)) (srcF (ints (ys++[0])) k) k).tail
   else z69 (ints (ys++[0])) (k+1) (min (ys.length+1-k) (ys.length-k)) (srcF (ints (ys++[0])) k) q)=[SV.int .i64 (nth (insAtI ys k x) q)]:=by
 have hm:min (ys.length+1-k) (ys.length-k)=ys.length-k:=by omega
 rw[hm,nth_insAtI hk]
 by_cases c1:q=k
 ·subst c1;rw[qe rfl,qc (by omega),qe rfl];simp only[z69];rw[qc (by omega)]
  rfl
 rw[qc c1];simp only[z69,srcF]
 by_cases c2:q<k
 ·rw[qc (by omega),qe c2];simp only[ints];rw[z3p (by omega)]
 rw[qe (by omega),qc c2,qc c1];simp only[ints];rw[show k+(q-(k+1))=q-1 by omega,z3p (by omega)]
def Tryz.zB:zeroB prog 4=true:=by kernel_rfl
def Tryz.tyBools:z1o prog 81=⟨true,.slice 4,1,24,[]⟩:=by kernel_rfl
def Tryz.tyStrsK:z1o prog 80=⟨true,.slice 9,1,24,[]⟩:=by kernel_rfl
def Tryz.szStrs:z2m prog 80=1:=by kernel_rfl
def Tryz.szBools:z2m prog 81=1:=by kernel_rfl
def Tryz.tyMapS:z1o prog 133=⟨true,.map 9 4,1,8,[]⟩:=by kernel_rfl
def strsK (l:List ByteArray):Nat->List SV:=fun i=>[.str (kAt l i)]
def bos (l:List Bool):Nat->List SV:=fun i=>[.bool (bAt l i)]
def strs_ap (l:List ByteArray)(i:Nat):strsK l i=[.str (kAt l i)]:=rfl
def bos_ap (l:List Bool)(i:Nat):bos l i=[.bool (bAt l i)]:=rfl
def strs_renK (ρ:Nat->Nat)(l:List ByteArray):(fun i=>SV.renL ρ (strsK l i))=strsK l:=by funext i;simp[strsK,SV.renL,SV.ren]
def strs_ren'K (ρ:Nat->Nat)(l:List ByteArray)(i:Nat):SV.renL ρ (strsK l i)=strsK l i:=jv (strs_renK ρ l) i
def strs_ltK (m:Nat)(l:List ByteArray)(i:Nat):SV.ltL m (strsK l i):=by simp[strsK,SV.ltL,SV.lt]
def bos_ren (ρ:Nat->Nat)(l:List Bool):(fun i=>SV.renL ρ (bos l i))=bos l:=by funext i;simp[bos,SV.renL,SV.ren]
def bos_ren' (ρ:Nat->Nat)(l:List Bool)(i:Nat):SV.renL ρ (bos l i)=bos l i:=jv (bos_ren ρ l) i
def bos_lt (m:Nat)(l:List Bool)(i:Nat):SV.ltL m (bos l i):=by simp[bos,SV.ltL,SV.lt]
def inStr (l:List ByteArray):Nat×(Nat->Sk.Obj):=rI 9 1 l.length (strsK l)
def inBo (l:List Bool):Nat×(Nat->Sk.Obj):=rI 4 1 l.length (bos l)
def rowsOf_cl' (k:ByteArray)(a b c:Int)(g:Bool):z3y 5 1 [SV.str k,SV.int .i64 a,SV.int .i64 b,SV.int .i64 c,SV.bool g]=z1x [⟨k,a,b,c,g⟩]:=rowsOf_cl ⟨k,a,b,c,g⟩
def prs_zero (m:Nat):(fun _=>[SV.int .i64 0,SV.int .i64 0,SV.int .i64 0,SV.int .i64 0,SV.int .i64 0,SV.int .i64 0,SV.bool false])=prs (List.replicate m noPr):=by
 funext i
 have:pr (List.replicate m noPr) i=noPr:=by
  unfold pr;simp only[List.getD,jW]
  split<;>rfl
 simp only[prs,this]
 rfl
def kAt_lt {l:List ByteArray}{i:Nat}(h:i<l.length):kAt l i=l[i]:=by simp[kAt,List.getD,h]
def take_kAt {l:List ByteArray}{i:Nat}(h:i<l.length):l.take (i+1)=l.take i++[kAt l i]:=by
 rw[kAt_lt h,List.take_add_one,qJ h];rfl
def any_take {l:List ByteArray}(hd:l.Nodup){i:Nat}(h:i<l.length):(l.take i).any (· ==kAt l i)=false:=by
 rw[Jv];intro x hx;obtain⟨j,hj,rfl⟩:=Qk hx;rw[qN] at hj;rw[kAt_lt h,jh];intro e;have e':l[j]=l[i]:=by rwa [MapKept.bytes_beq] at e
 have:=Qd.1 hd j i (by omega) h (by omega);exact this e'
def ex_map (a b:Nat):(∃kt et,Kd.map a b=Kd.map kt et)↔True:=⟨fun _=>trivial,fun _=>⟨a,b,rfl⟩⟩
def memOk_mems (inn:List Bool)(n:Nat):MemOk (n+2) (mems inn n):=fun i hi=>by
 rw[z30 hi];obtain⟨j,hj,_,e⟩:=z5e.1 (qK hi);rw[e];omega
def endC (k:Int):Cl:=⟨⟨#[]⟩,0,0,k,false⟩
def celG (h:Int)(f:Nat->Int)(keys:List ByteArray)(i:Nat):List Cl:=[endC h,endC h]++(List.range i).map fun j=>⟨kAt keys j,0,0,f j,false⟩
def celG_length (h:Int)(f:Nat->Int)(keys:List ByteArray)(i:Nat):(celG h f keys i).length=i+2:=by simp[celG]
def celG_succ (h:Int)(f:Nat->Int)(keys:List ByteArray)(i:Nat):celG h f keys (i+1)=celG h f keys i++[⟨kAt keys i,0,0,f i,false⟩]:=by simp[celG,Jp]
def celG_at (h:Int)(f:Nat->Int)(keys:List ByteArray)(i:Nat){q:Nat}(hq:q<i+2):cl (celG h f keys i) q=if q<2 then endC h else⟨kAt keys (q-2),0,0,f (q-2),false⟩:=by
 unfold celG
 by_cases c:q<2
 ·rw[qe c,cl_append_lt (by simpa using c)];rcases(show q=0\/q=1 by omega) with rfl|rfl<;>rfl
 rw[qc c,cl_append_ge (by simpa using c),cl_lt (by simp;omega)];simp
def lessC_cel {h:Int}{f:Nat->Int}{keys:List ByteArray}{i:Nat}{a b:Int}(ha:2<=a/\a<i+2)(hb:2<=b/\b<i+2):z1m (celG h f keys i) a b=ltK keys a b:=by
 have e1:(a==1)=false:=by simp;omega
 have e2:(b==0)=false:=by simp;omega
 have e3:(a==0)=false:=by simp;omega
 have e4:(b==1)=false:=by simp;omega
 unfold z1m ltK;rw[e1,e2,e3,e4,celG_at _ _ _ _ (by omega),celG_at _ _ _ _ (by omega),qc (show¬a.toNat<2 by omega),qc (show¬b.toNat<2 by omega)];simp only[jl,qz,Ql]
 split
 ·rename_i e;have:a=b:=by simpa using e
  subst this;simp[sLt,bl_irr']
 rfl
def ordR (keys:List ByteArray)(inn:List Bool):Nat->List Int
 |0=>[0]
 |i+1=>if bAt inn i then insR (z1m (celG 0 (fun _=>0) keys (i+1))) (ordR keys inn i) ((i:Int)+2) else ordR keys inn i
def ordR_eq (keys:List ByteArray)(inn:List Bool):∀i,ordR keys inn i=0::srtR (ltK keys) (mems inn i)
 |0=>rfl
 |i+1=>by
  simp only[ordR,mems]
  split
  ·rw[srtR_snoc,ordR_eq keys inn i,insR_zero (lessC_zero ..)]
   congr 1
   refine insR_congr fun y hy=> ?_;obtain⟨j,hj,_,rfl⟩:=z5e.1 ((srtR_mem _).1 hy);exact lessC_cel (by omega) (by omega)
  exact ordR_eq keys inn i
def lnk (cs:List Cl)(last:Int):List Int->List Cl
 |[]=>cs
 |c::l=>lnk (z2s cs last c) c l
def setR_length (cs:List Cl)(c v:Int):(z2s cs c v).length=cs.length:=by simp[z2s]
def lnk_length:∀(l:List Int) (cs:List Cl) (a:Int),(lnk cs a l).length=cs.length
 |[],_,_=>rfl
 |c::l,cs,a=>by rw[lnk,lnk_length l,setR_length]
def celO (keys:List ByteArray)(i:Nat):List Cl:=celG 0 (fun _=>0) keys i
def ordN_of (keys:List ByteArray)(inn:List Bool)(n:Nat):srtI (z1m (z3m keys inn n)) (mems inn n)++[1]=ordN keys inn n:=by
 rw[srtI_srtR,srt_memsK _ _ n n (qd _),ordN]
def lefL (cs:List Cl)(a:Int):List Int->List Cl
 |[]=>cs
 |c::l=>lefL (z4b cs c a) c l
def cl_set (cs:List Cl)(k q:Nat)(v:Cl)(hq:q<cs.length):cl (cs.set k v) q=if q=k then v else cl cs q:=by
 split
 ·rename_i e;subst e;exact cl_set_eq hq
 rename_i e;exact cl_set_ne (Qt e)
def setB (cs:List Cl)(c:Nat)(b:Bool):List Cl:=cs.set c {cl cs c with gone:=b}
def setB_len (cs:List Cl)(c:Nat)(b:Bool):(setB cs c b).length=cs.length:=by simp[setB]
def cl_setR (cs:List Cl)(c v:Int){q:Nat}(hq:q<cs.length):cl (z2s cs c v) q=if q=c.toNat then {cl cs q with right:=v} else cl cs q:=by
 unfold z2s;rw[cl_set _ _ _ _ hq];split
 ·rename_i e;rw[e]
 rfl
def cl_setF (cs:List Cl)(c v:Int){q:Nat}(hq:q<cs.length):cl (z4b cs c v) q=if q=c.toNat then {cl cs q with left:=v} else cl cs q:=by
 unfold z4b;rw[cl_set _ _ _ _ hq];split
 ·rename_i e;rw[e]
 rfl
def cl_setB (cs:List Cl)(c:Nat)(b:Bool){q:Nat}(hq:q<cs.length):cl (setB cs c b) q=if q=c then {cl cs q with gone:=b} else cl cs q:=by
 unfold setB;rw[cl_set _ _ _ _ hq];split
 ·rename_i e;rw[e]
 rfl
def setR_setF (cs:List Cl)(c v d w:Int):z2s (z4b cs d w) c v=z4b (z2s cs c v) d w:=by
 refine cl_ext (by rw[z31,z52,z52,z31]) fun q hq=> ?_;rw[z31,z52] at hq;rw[cl_setR _ _ _ (by rw[z52];exact hq),cl_setF _ _ _ hq,cl_setF _ _ _ (by rw[z31];exact hq),cl_setR _ _ _ hq]
 split<;>split<;>rfl
def setR_setB (cs:List Cl)(c v:Int)(d:Nat)(b:Bool):z2s (setB cs d b) c v=setB (z2s cs c v) d b:=by
 refine cl_ext (by rw[z31,setB_len,setB_len,z31]) fun q hq=> ?_;rw[z31,setB_len] at hq;rw[cl_setR _ _ _ (by rw[setB_len];exact hq),cl_setB _ _ _ hq,cl_setB _ _ _ (by rw[z31];exact hq),cl_setR _ _ _ hq]
 split<;>split<;>rfl
def lnk_setF:∀(l:List Int) (cs:List Cl) (a d w:Int),lnk (z4b cs d w) a l=z4b (lnk cs a l) d w
 |[],_,_,_,_=>rfl
 |c::l,cs,a,d,w=>by rw[lnk,lnk,setR_setF,lnk_setF l]
def lnk_setB:∀(l:List Int) (cs:List Cl) (a:Int) (d:Nat) (b:Bool),lnk (setB cs d b) a l=setB (lnk cs a l) d b
 |[],_,_,_,_=>rfl
 |c::l,cs,a,d,b=>by rw[lnk,lnk,setR_setB,lnk_setB l]
def lnk2_eq:∀(l:List Int) (cs:List Cl) (a:Int),lnk2 cs a l=lefL (lnk cs a l) a l
 |[],_,_=>rfl
 |c::l,cs,a=>by rw[lnk2,lnk,lefL,lnk2_eq l,lnk_setF]
def gonN (cs:List Cl)(inn:List Bool):Nat->List Cl
 |0=>cs
 |i+1=>setB (gonN cs inn i) (i+2) (!bAt inn i)
def gonN_len (cs:List Cl)(inn:List Bool):∀i,(gonN cs inn i).length=cs.length
 |0=>rfl
 |i+1=>by rw[gonN,setB_len,gonN_len cs inn i]
def lnk_gonN (l:List Int)(cs:List Cl)(a:Int)(inn:List Bool):∀i,lnk (gonN cs inn i) a l=gonN (lnk cs a l) inn i
 |0=>rfl
 |i+1=>by rw[gonN,gonN,lnk_setB,lnk_gonN l cs a inn i]
def gonN_at (cs:List Cl)(inn:List Bool):∀i q,q<cs.length->cl (gonN cs inn i) q=if 2<=q/\q<i+2 then {cl cs q with gone:= !bAt inn (q-2)} else cl cs q
 |0,q,hq=>by rw[qc (by omega)];rfl
 |i+1,q,hq=>by
  rw[gonN,cl_setB _ _ _ (by rw[gonN_len];exact hq),gonN_at cs inn i q hq]
  by_cases e:q=i+2
  ·subst e;rw[qe rfl,qc (by omega),qe (by omega)]
   congr 1
  rw[qc e]
  by_cases g:2<=q/\q<i+2
  ·rw[qe g,qe (by omega)]
  rw[qc g,qc (by omega)]
def cellK_gon (keys:List ByteArray)(inn:List Bool)(n:Nat):z3m keys inn n=gonN (celO keys n) inn n:=by
 have hl:(celO keys n).length=n+2:=celG_length ..;refine cl_ext (by rw[z36,gonN_len,hl]) fun q hq=> ?_;rw[z36] at hq;rw[cellK_at _ _ _ hq,gonN_at _ _ _ _ (by rw[hl];exact hq),celO,celG_at _ _ _ _ hq]
 by_cases c:q<2
 ·rw[qe c,qe c,qc (by omega)];rfl
 rw[qc c,qc c,qe (by omega)]
def newK_ref (keys:List ByteArray)(inn:List Bool)(n:Nat):lefL (gonN (lnk (celO keys n) 0 (ordN keys inn n)) inn n) 0 (ordN keys inn n)=newK keys inn n:=by
 rw[newK,lnk2_eq,cellK_gon,lnk_gonN]
def lt_blk {m:Nat}{o:Bool}{ks:z59}:(Sk.Obj.blk o ks).lt m↔True:=QK
def cls_zero:(fun _=>[SV.str ⟨#[]⟩,SV.int .i64 0,SV.int .i64 0,SV.int .i64 0,SV.bool false]:Nat->List SV)=z1x [noCl,noCl]:=by
 funext i
 match i with
 |0=>rfl
 |1=>rfl
 |i+2=>rfl
section
def rowsOf_cz:(fun _=>[SV.str ⟨#[]⟩,SV.int .i64 0,SV.int .i64 0,SV.int .i64 0,SV.bool false]:Nat->List SV)=z1x [endC 0,endC 0]:=by
 funext i
 match i with
 |0=>rfl
 |1=>rfl
 |i+2=>rfl
def ec39:=aj6 @Tryz.tyStrsK @Tryz.szStrs @Tryz.tyBools @Tryz.szBools @strs_ap @bos_ap
def ec40:=aj @inStr.eq_1 @inBo.eq_1
def ec41:=aj @app_cls @rowsOf_cl'
def LlWm.exE:=aj9 @zd @zf @zo @zh ec1 ec2 @zg @zp (aj9 @zq ec9 ec3 ec4 ec10 @z1a.eq_1 @zu.eq_1 ec39 (aj6 ec40 ec41 @rowsOf_cz @z2d @z18 @ints.eq_1))
def ec42:=aj4 @strs_ren'K @strs_ltK @bos_ren' @bos_lt
def LlWm.gxE:=aj9 ec3 ec4 ec7 ec10 @renL_ite ec11 @z1a.eq_1 @zu.eq_1 (aj3 ec42 ec40 @ints.eq_1)
def ec43:=aj @strs_renK @bos_ren
def LlWm.axE:=aj9 @zd @zf @zo @zh ec1 ec2 @zg @zp (aj9 @zq ec9 ec3 ec4 ec10 @z1a.eq_1 @zu.eq_1 ec39 (aj9 ec40 ec41 @rowsOf_cz @z2d @z18 @z1p @z2j @pAt_ren (aj3 @renL_ite ec43 @z2r)))
open LlWm (gxE axE exE)
open LlBm (oxE)
open D0 (sdE)
def newError_spec (keys:List ByteArray)(inn:List Bool)(n m:Nat)(hn:keys.length=n)(hi:inn.length=n)(hn12:n<=64)(hm1:1<=m)(hm8:m<=8)(hk:∀i,i<n->okKey (kAt keys i)=true)(hd:keys.Nodup):
  zj prog 132 [.slc false 0 0 0 n,.slc false 1 0 0 n,.int .i64 m] ⟨2,[(0,inStr keys),(1,inBo inn)]⟩
   (fun s H1=>s= .int .i64 0/\H1=⟨2,[]⟩):=by
 subst hn;refine Zf false 59 [.tmp 6] func132 ntmps132 results132 fun w0 own0 β0 Q hQ hQn=> ?_;refine Zrs [0,1,2] (z6 ?_);refine z8 fun Q0 hN0 hX0 hR0 hE0=> ?_;refine Zrs [0,1,2,10] ?_;refine Zcm ?_ ?_
 ·intro h10
  exfalso;replace h10:=Znb h10;omega
 intro h10;refine Zrs [0,1,14] ?_;refine Zcm ?_ ?_
 ·intro h14
  exfalso;replace h14:=Znb h14;omega
 intro h14;refine Zrs [0,21] ?_;refine Zcm ?_ ?_
 ·intro h21
  exfalso;simp at h21
 intro h21;refine z7 (za (hN0 _ _ (z6 (Zrs [0,7] ?_))));refine z8 fun Q1 hN1 hX1 hR1 hE1=> ?_;refine zl (σ:=Nat) (fun i=>i<=keys.length) (fun i=>keys.length-i) (fun i=>[(0,.slc false 0 0 0 keys.length),(7,.int .i64 i)]) (fun i=>⟨2,[(0,inStr keys)]⟩) 0 (ql _) (ρ:=id) (Zg id) ?_;rintro i hle QL1 hL1 hRL1 hEL1;refine z6 (Zrs [0,7,30] ?_);refine Zcm ?_ ?_
 ·intro h30;replace h30:=Znb h30;have hli:i<keys.length:=by omega
  refine z7 (z6 ?_);refine z8 fun Q2 hN2 hX2 hR2 hE2=> ?_;refine sg [0,7,38] rfl ?_;intro K hK;iterate 4 (refine Zo Zl ?_)
  refine Zd Zl (z5f (kAt keys i)) (id) ?_;refine Zkl hK ?_;clear hK K;refine Zcm ?_ ?_
  ·intro h38
   exfalso;rw[hk i hli] at h38;cases h38
  intro h38;refine z7 (za (hN2 _ _ (Zrg [0,7] (za (hL1 _ _ ?_)))));rw[iS i];exact⟨i+1,⟨by omega,by omega⟩,id,(Zg id)⟩
 intro h30;refine zk (hEL1 _ _ _ (hX1 _ _ (z6 (Zrs [0,8] ?_))));refine z8 fun Q3 hN3 hX3 hR3 hE3=> ?_;refine zl (σ:=Nat) (fun i=>i<=keys.length) (fun i=>keys.length-i) (fun i=>[(0,.slc false 0 0 0 keys.length),(8,.int .i64 i)]) (fun i=>⟨2,[(0,inStr keys)]⟩) 0 (ql _) (ρ:=id) (Zg id) ?_;rintro a ha QL2 hL2 hRL2 hEL2;refine z6 (Zrs [0,8,42] ?_);refine Zcm ?_ ?_
 ·intro h42;replace h42:=Znb h42;have hla:a<keys.length:=by omega
  refine z7 (z6 ?_);refine z8 fun Q4 hN4 hX4 hR4 hE4=> ?_;refine Zrs [0,8,9] ?_;refine z8 fun Q5 hN5 hX5 hR5 hE5=> ?_;refine zl (σ:=Nat) (fun k=>k<=a) (fun k=>a-k) (fun k=>[(0,.slc false 0 0 0 keys.length),(8,.int .i64 a),(9,.int .i64 k)]) (fun i=>⟨2,[(0,inStr keys)]⟩) 0 (ql _) (ρ:=id) (Zg id) ?_;rintro k hka QL3 hL3 hRL3 hEL3;refine z6 (Zrs [0,8,9,47] ?_);refine Zcm ?_ ?_
  ·intro h47;replace h47:=Znb h47;have hlk:k<a:=by omega
   refine z7 (z6 ?_);refine z8 fun Q6 hN6 hX6 hR6 hE6=> ?_;refine z6 (Zrq [0,8,9,58] [0,1,2,3,4,5,6,7,8] ?_);refine Zcm ?_ ?_
   ·intro h58
    exfalso;rw[z5l,qm] at h58;exact kAt_inj hd hla hlk h58
   intro h58;refine z7 (za (hN6 _ _ (Zrg [0,8,9] (za (hL3 _ _ ?_)))));rw[iS k];exact⟨k+1,⟨by omega,by omega⟩,id,(Zg id)⟩
  intro h47;refine zk (hEL3 _ _ _ (hX5 _ _ (za (hN4 _ _ (Zrg [0,8] (za (hL2 _ _ ?_)))))));rw[iS a];exact⟨a+1,⟨by omega,by omega⟩,id,(Zg id)⟩
 intro h42;refine zk (hEL2 _ _ _ (hX3 _ _ (Zrs [6] (zb (hQ _ _ ?_)))));exact Zoc ⟨2,[]⟩
end
section
def app_intsL (xs ys:List Int):app (fun i=>[SV.int .i64 (nth xs i)]) xs.length (fun i=>[SV.int .i64 (nth ys i)])=ints (xs++ys):=ints_append xs ys
def celO_succ (keys:List ByteArray)(i:Nat):celO keys (i+1)=celO keys i++[⟨kAt keys i,0,0,0,false⟩]:=celG_succ ..
def celO_len (keys:List ByteArray)(i:Nat):(celO keys i).length=i+2:=celG_length ..
noncomputable def bxL (c n p:Nat):Nat×(Nat->Sk.Obj):=rV 85 2 1 (fun _=>[.slc true c 0 0 n,.slc true p 0 0 0])
def ordR_mem {keys:List ByteArray}{inn:List Bool}{i q:Nat}(h:q<(ordR keys inn i).length):0<=nth (ordR keys inn i) q/\nth (ordR keys inn i) q<i+2:=by
 rw[z30 h];have hm:(ordR keys inn i)[q]∈0::srtR (ltK keys) (mems inn i):=(ordR_eq keys inn i) ▸ qK h
 generalize (ordR keys inn i)[q]=z at hm
 rw[qv,srtR_mem] at hm;rcases hm with rfl|h
 ·omega
 obtain⟨j,hj,_,rfl⟩:=z5e.1 h;omega
def ordZ (keys:List ByteArray)(inn:List Bool)(n:Nat):List Int:=0::ordN keys inn n
def ordZ_mem {keys:List ByteArray}{inn:List Bool}{n q:Nat}(h:q<(ordZ keys inn n).length):0<=nth (ordZ keys inn n) q/\nth (ordZ keys inn n) q<n+2:=by
 rw[z30 h];have hm:=qK h
 generalize (ordZ keys inn n)[q]=z at hm
 rw[ordZ,qv] at hm;rcases hm with rfl|hm
 ·omega
 have:=ordN_mem hm;omega
def ordZ_of (keys:List ByteArray)(inn:List Bool)(n:Nat):ordR keys inn n++[1]=ordZ keys inn n:=by rw[ordR_eq,ordZ,ordN];rfl
def ordR_zero (keys:List ByteArray)(inn:List Bool)(i:Nat):nth (ordR keys inn i) 0=0:=by rw[ordR_eq];rfl
def ordR_pos (keys:List ByteArray)(inn:List Bool)(i:Nat):1<=(ordR keys inn i).length/\(ordR keys inn i).length<=i+1:=by
 rw[ordR_eq,QN,srtR_length];have:=mems_length inn i;omega
def LlXm.exE:=aj9 @zd @zf @zo @zh ec1 ec2 @zg @zp (aj9 @zq ec9 ec3 ec4 ec10 @z1a.eq_1 @zu.eq_1 ec39 (aj8 ec40 ec41 @rowsOf_cz @z2d @z18 @ints.eq_1 @app_intsL @bxL.eq_1))
def LlXm.gxE:=aj9 ec3 ec4 ec7 ec10 @renL_ite ec11 @z1a.eq_1 @zu.eq_1 (aj4 ec42 ec40 @ints.eq_1 @bxL.eq_1)
def LlXm.axE:=aj9 @zd @zf @zo @zh ec1 ec2 @zg @zp (aj9 @zq ec9 ec3 ec4 ec10 @z1a.eq_1 @zu.eq_1 ec39 (aj9 ec40 ec41 @rowsOf_cz @z2d @z18 @app_intsL @bxL.eq_1 @z1p (aj5 @z2j @pAt_ren @renL_ite ec43 @z2r)))
open LlXm (gxE axE exE)
open LlBm (oxE)
open D0 (sdE)
def chained_spec (keys:List ByteArray)(inn:List Bool)(n:Nat)(hn:keys.length=n)(hi:inn.length=n)(hn12:n<=64):
  zj prog 133 [.slc false 0 0 0 n,.slc false 1 0 0 n] ⟨2,[(0,inStr keys),(1,inBo inn)]⟩
   (fun s H1=>s= .tup [.slc true 2 0 0 (n+2),.slc true 3 0 0 (ordZ keys inn n).length]/\H1=⟨4,[(3,zu (ordZ keys inn n)),(2,rO 117 5 (n+2) (z1x (lnk (celO keys n) 0 (ordN keys inn n))))]⟩):=by
 subst hn;refine Zf false 92 [.tmp 4,.tmp 5] func133 ntmps133 results133 fun w0 own0 β0 Q hQ hQn=> ?_;refine Zrs [0,1] ?_;refine Zrs [0,1,6] ?_;refine Zrs [0,1,6,7] (z6 ?_);refine Zrs [0,1,6,7,8] ?_;refine z2g 3 1 110 7 (prs []) rfl rfl rfl rfl rfl rfl rfl rfl (by dsimp only;omega) (by simp[SV.ltL,SV.lt]) ?_;simp only[setO,↓reduceIte,Nat.reduceEqDiff,Nat.reduceAdd,Qf,Qe,reduceCtorEq,uQ,rO,rI,rV];rw[show([endC 0,endC 0]:List Cl)=celO keys 0 from rfl,show([0]:List Int)=ordR keys inn 0 from rfl];refine z8 fun Q0 hN0 hX0 hR0 hE0=> ?_;refine zl (σ:=Nat) (fun i=>i<=keys.length) (fun i=>keys.length-i) (fun i=>[(0,.slc false 0 0 0 keys.length),(1,.slc false 1 0 0 keys.length),(6,.ptr 3 0 0 0),(7,.slc true 4 0 0 (ordR keys inn i).length),(8,.int .i64 i)]) (fun i=>⟨6,[(5,rO 110 7 0 (prs [])),(4,zu (ordR keys inn i)),(3,bxL 2 (celO keys i).length 5),(2,z2c (celO keys i)),(0,inStr keys),(1,inBo inn)]⟩) 0 (ql _) (ρ:=id) (have xE:=aj @celO_len (aj @ordR.eq_1 @ordR.eq_2);Zgx id) ?_;rintro i hle QL1 hL1 hRL1 hEL1;refine z6 (Zrs [0,1,6,7,8,20] ?_);refine Zcn ?_ ?_
 ·intro h20;have hli:i<keys.length:=by omega
  have hcl:=celO_len keys i;have hcl1:=celO_len keys (i+1);have hol:=ordR_pos keys inn i;refine z7 (z6 ?_);refine z8 fun Q1 hN1 hX1 hR1 hE1=> ?_;refine z6 ?_;refine Zrd [0,1,6,7,8] [0,1,2,3,4,5,6,7,8,9,10] (ws 0 [(8,[2]),(10,[3])]) (ws 0 [(8,[2]),(9,[2]),(10,[2,3])]) ?_;intro K hK;iterate 8 (refine Zo (Zi [] []) ?_)
  refine Zo (Zi [2] [2]) ?_;rw[<-celO_succ,show(celO keys i).length+1=(celO keys (i+1)).length by omega];refine Zad ?_;refine Zo (Zi [] [2]) ?_;refine Zo (Zi [3] [2,3]) ?_;refine zz (Zpr (hK _ _ ?_));clear hK K;refine z6 (Zrs [0,1,6,7,8,37] ?_);refine Zcm ?_ ?_
  ·intro h37;have hin:bAt inn i=false:=by simpa using h37
   refine zk (hX1 _ _ (Zrg [0,1,6,7,8] (za (hL1 _ _ ?_))));have ho2:ordR keys inn (i+1)=ordR keys inn i:=by rw[ordR,qc (by rw[hin];exact qh)]
   rw[iS i];refine⟨i+1,⟨by omega,by omega⟩,fun q=>if q=2 then 7 else q,?_⟩;simp only[ho2];exact(Zg (fun q=>if q=2 then 7 else q))
  intro h37;have hin:bAt inn i=true:=by simpa using h37
  refine z7 (Zrs [0,1,6,7,8,9] (z6 ?_));refine z8 fun Q2 hN2 hX2 hR2 hE2=> ?_;refine zl (σ:=Nat) (fun k=>(1<=k/\k<=(ordR keys inn i).length)/\∀q,k<=q->q<(ordR keys inn i).length->z1m (celO keys (i+1)) ((i:Int)+2) (nth (ordR keys inn i) q)=true) (fun k=>k) (fun k=>[(0,.slc false 0 0 0 keys.length),(1,.slc false 1 0 0 keys.length),(6,.ptr 3 0 0 0),(7,.slc true 4 0 0 (ordR keys inn i).length),(8,.int .i64 i),(9,.int .i64 k)]) (fun _=>⟨6,[(5,rO 110 7 0 (prs [])),(4,zu (ordR keys inn i)),(3,bxL 2 (celO keys (i+1)).length 5),(2,z2c (celO keys (i+1))),(0,inStr keys),(1,inBo inn)]⟩) (ordR keys inn i).length ⟨⟨hol.1,qd _⟩,fun q q1 q2=>by omega⟩ (ρ:=fun q=>if q=2 then 7 else q) (Zg (fun q=>if q=2 then 7 else q)) ?_;rintro k hk QL2 hL2 hRL2 hEL2;refine z6 (z6 ?_);refine Zrd [0,1,6,7,8,9,48] [0,1,2,3,4,5,6,7,8] [] [] ?_;intro K hK;iterate 6 (refine Zo (Zi [] []) ?_)
  obtain⟨⟨hk1,hk2⟩,hk3⟩:=hk;rw[show(k:Int)-1=((k-1:Nat):Int) from by omega];refine Zad ?_;iterate 2 (refine Zo (Zi [] []) ?_)
  refine Zd (Zi [] []) (below_spec (celO keys (i+1)) (celO keys (i+1)).length 0 rfl ((i:Int)+2) (nth (ordR keys inn i) (k-1)) (by omega) (by have:=ordR_mem (keys:=keys) (inn:=inn) (i:=i) (q:=k-1) (by omega);omega)) (fun q=>if q=0 then 2 else 5) ?_;refine zz (Zpr (hK _ _ ?_));clear hK K;refine Zcm ?_ ?_
  ·intro h48
   have hk4:1<k:=by
    rcases Qo 1 k with h|h
    ·exact h
    have hkk:k=1:=by omega
    subst hkk;rw[show 1-1=0 from rfl,ordR_zero,lessC_zero] at h48
    cases h48
   refine z7 ?_;refine z8 fun Q3 hN3 hX3 hR3 hE3=> ?_;refine Zrg [0,1,6,7,8,9] (za (hN3 _ _ (za (hL2 _ _ ?_))));rw[show(k:Int)-1=((k-1:Nat):Int) from by omega];refine⟨k-1,⟨⟨⟨by omega,by omega⟩,fun q q1 q2=> ?_⟩,by omega⟩,id,(Zg id)⟩
   by_cases e:q=k-1
   ·subst e;exact h48
   exact hk3 q (by omega) q2
  intro h48;refine zk (hEL2 _ _ _ (hX2 _ _ (Zrs [0,1,6,7,8,9] (z6 ?_))));refine Zrd [0,1,6,7,8,9] [0,1,2,3,4,5,6,7] (ws 0 [(7,[7])]) (ws 0 [(7,[7])]) ?_;intro K hK;iterate 3 (refine Zo (Zi [] []) ?_)
  rw[iS k];refine Zad ?_;iterate 4 (refine Zo (Zi [] []) ?_)
  refine Zo (Zi [7] [7]) ?_;refine zz (Zpr (hK _ _ ?_));clear hK K;refine Zrg [0,1,6,7,8] (za (hN1 _ _ ?_));refine Zrg [0,1,6,7,8] (za (hL1 _ _ ?_))
  have hins:ordR keys inn (i+1)=insAtI (ordR keys inn i) k ((i:Int)+2):=by
   rw[ordR,qe hin];exact insR_at (lt:=z1m (celO keys (i+1))) (ordR keys inn i) k hk2 hk3 fun _=>h48
  have hlen:=insAtI_length (x:=(i:Int)+2) hk2;rw[iS i];refine⟨i+1,⟨by omega,by omega⟩,fun j=>if j=4 then 7 else j,?_⟩;simp only[hins,hlen];exact(gvS (fun j=>if j=4 then 7 else j) ⟨Zs,(by simp[z5o,Sk.find,uQ,rO,rI,rV,rO,rI,rV,z1e.eq_1,z1e.eq_2,z1e.eq_3,z4a,SV.renL,SV.ren,Obj.lt_row,SV.ltL,SV.lt,gxE];exact⟨by omega,fun q hq=>ins_rowsI hk2 ((i:Int)+2) (by omega)⟩),Zs,Zs,Zs⟩ ⟨rfl,rfl,qb rfl,rfl⟩)
 intro h20;have hni:i=keys.length:=by omega
 subst hni;have hcl:=celO_len keys keys.length;have hol:=ordR_pos keys inn keys.length;have hO:=ordZ_of keys inn keys.length;have hOl:(ordR keys inn keys.length).length+1=(ordZ keys inn keys.length).length:=by rw[<-hO];simp
 refine zk (hEL1 _ _ _ (hX0 _ _ (sg [6,7] rfl ?_)));intro K hK;iterate 3 (refine Zo Zl ?_)
 rw[hO,hOl];refine Zad ?_;refine Zkl hK ?_;clear hK K;refine z6 (Zrs [6,7,10] ?_);refine z8 fun Q4 hN4 hX4 hR4 hE4=> ?_;refine zl (σ:=Nat×List Cl) (fun σ=>((1<=σ.1/\σ.1<=(ordZ keys inn keys.length).length)/\σ.2.length=(celO keys keys.length).length)/\lnk σ.2 (nth (ordZ keys inn keys.length) (σ.1-1)) ((ordZ keys inn keys.length).drop σ.1)=lnk (celO keys keys.length) 0 (ordN keys inn keys.length)) (fun σ=>(ordZ keys inn keys.length).length-σ.1) (fun σ=>[(6,.ptr 3 0 0 0),(7,.slc true 4 0 0 (ordZ keys inn keys.length).length),(10,.int .i64 σ.1)]) (fun σ=>⟨6,[(5,rO 110 7 0 (prs [])),(4,zu (ordZ keys inn keys.length)),(3,bxL 2 (celO keys keys.length).length 5),(2,rO 117 5 ((celO keys keys.length).length) (z1x σ.2))]⟩) (1,celO keys keys.length) ⟨⟨⟨qd _,by dsimp only;omega⟩,rfl⟩,rfl⟩ (ρ:=fun q=>if q=4 then 7 else q) (Zg (fun q=>if q=4 then 7 else q)) ?_;rintro⟨j,cs⟩ hj QL3 hL3 hRL3 hEL3;refine z6 (Zrs [6,7,10,73] ?_);refine Zcn ?_ ?_
 ·intro h73;obtain⟨⟨⟨hj1,hj2⟩,hj3⟩,hj4⟩:=hj;dsimp only at hj1 hj2 hj3 hj4;have hjl:j<(ordZ keys inn keys.length).length:=by omega
  have hz1:=ordZ_mem (keys:=keys) (inn:=inn) (n:=keys.length) (q:=j) (by omega);have hz2:=ordZ_mem (keys:=keys) (inn:=inn) (n:=keys.length) (q:=j-1) (by omega);refine z7 (z6 ?_);refine z8 fun Q5 hN5 hX5 hR5 hE5=> ?_;refine Zrd [6,7,10] [0,1,2,3,4,5,6,7,8,9,10,11,12,13] (ws 0 [(13,[2])]) (ws 0 [(13,[2])]) ?_;intro K hK;iterate 5 (refine Zo (Zi [] []) ?_)
  rw[show(j:Int)-1=((j-1:Nat):Int) from by omega];refine Zad ?_;iterate 8 (refine Zo (Zi [] []) ?_)
  refine Zo (Zi [2] [2]) ?_;rw[cls_put' cs (nth (ordZ keys inn keys.length) (j-1)).toNat ⟨(cl cs (nth (ordZ keys inn keys.length) (j-1)).toNat).key,(cl cs (nth (ordZ keys inn keys.length) (j-1)).toNat).left,nth (ordZ keys inn keys.length) j,(cl cs (nth (ordZ keys inn keys.length) (j-1)).toNat).lock,(cl cs (nth (ordZ keys inn keys.length) (j-1)).toNat).gone⟩ (by omega)];refine Zad ?_;refine zz (Zpr (hK _ _ ?_));clear hK K;refine za (hN5 _ _ (Zrg [6,7,10] (za (hL3 _ _ ?_))));rw[iS j];refine⟨(j+1,z2s cs (nth (ordZ keys inn keys.length) (j-1)) (nth (ordZ keys inn keys.length) j)),⟨⟨⟨⟨by dsimp only;omega,by dsimp only;omega⟩,by dsimp only;rw[setR_length];exact hj3⟩,?_⟩,by dsimp only;omega⟩,id,?_⟩
  ·dsimp only;rw[<-hj4,jt hjl,lnk,<-z30 hjl]
   rfl
  unfold z2s;exact(Zg id)
 intro h73;obtain⟨⟨⟨hj1,hj2⟩,hj3⟩,hj4⟩:=hj;dsimp only at hj1 hj2 hj3 hj4;rw[jZ (by omega)] at hj4;have hj6:cs=lnk (celO keys keys.length) 0 (ordN keys inn keys.length):=hj4;refine zk (hEL3 _ _ _ (hX4 _ _ (Zrs [4,5] (zb (hQ _ _ ?_)))));rw[<-hj6];refine Zor (fun q=>if q=3 then 4 else q) (.tup [.slc true 2 0 0 (celO keys keys.length).length,.slc true 3 0 0 (ordZ keys inn keys.length).length]) (⟨4,[(3,zu (ordZ keys inn keys.length)),(2,rO 117 5 ((celO keys keys.length).length) (z1x cs))]⟩) ?_
 all_goals(rw[hcl];first|trivial|exact⟨rfl,rfl⟩)
end
end Go.Proofs
