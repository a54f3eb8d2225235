/-
  Walks and plain facts, joined: part 11 of 18.
  Conditions: those that each statement names.
-/
import Derived.Test.YtpnefndionckaaaGreatDoorRpj
import Derived.Test.YtpnefndionckaaaGreatDoorRph
import Derived.Test.YtpnefndionckaaaGreatDoorRpc
import Derived.Test.YtpnefndionckaaaGreatDoorRpf
import Derived.Test.YtpnefndionckaaaGreatDoorRpe
import Derived.Test.YtpnefndionckaaaGreatDoorRpi
import Derived.Test.YtpnefndionckaaaGreatDoorRpg
import Derived.Test.YtpnefndionckaaaGreatDoorRpd
import Derived.Test.YtpnefndionckaaaGreatDoorChecked
import Derived.Below
import Derived.ChangeSame
import Derived.ChangeSlices
import Derived.ReadAgain
import Derived.OpenShut
import Derived.JoinedOf
import Derived.Handed
import Derived.Shelf.SlSortCmp.NoneTotal
set_option linter.unusedSimpArgs false
set_option linter.unusedVariables false
set_option linter.defProp false
set_option maxRecDepth 4000
set_option maxHeartbeats 8000000
namespace Go.Proofs
open Tryz
open Go.Sk
def Tryz.tyLy:z1o prog 89=⟨true,.struct,5,88,[(0,some false,1),(1,some false,1),(2,some false,1),(3,some true,2)]⟩:=by kernel_rfl
def Tryz.szLy:z2m prog 89=5:=by kernel_rfl
def Tryz.zLy:z3d prog 89=some [.int .i64 0,.int .u32 0,.nils,.nils,.nils]:=by kernel_rfl
def Tryz.tyLys:z1o prog 31=⟨true,.slice 89,1,24,[]⟩:=by kernel_rfl
def Tryz.szLys:z2m prog 31=1:=by kernel_rfl
def Tryz.tyCb:z1o prog 58=⟨true,.struct,3,24,[(0,some false,1),(1,some false,1),(2,some false,1)]⟩:=by kernel_rfl
def Tryz.szCb:z2m prog 58=3:=by kernel_rfl
def Tryz.zCb:z3d prog 58=some [.int .i64 0,.int .i64 0,.int .i64 0]:=by kernel_rfl
def Tryz.tyCbs:z1o prog 32=⟨true,.slice 58,1,24,[]⟩:=by kernel_rfl
def Tryz.szCbs:z2m prog 32=1:=by kernel_rfl
def Tryz.tyFo:z1o prog 34=⟨true,.struct,4,80,[(0,some false,1),(1,some false,1),(2,some false,1),(3,some false,1)]⟩:=by kernel_rfl
def Tryz.szFo:z2m prog 34=4:=by kernel_rfl
def Tryz.zFo:z3d prog 34=some [.nils,.int .i64 0,.nils,.nils]:=by kernel_rfl
def Cb.sv (c:Cb):List SV:=[.int .i64 c.kind,.int .i64 c.node,.int .i64 c.lvl]
def cbs (C:List Cb):Nat->List SV:=fun i=>(cbA C i).sv
def cbs_ap (C:List Cb)(i:Nat):cbs C i=[.int .i64 (cbA C i).kind,.int .i64 (cbA C i).node,.int .i64 (cbA C i).lvl]:=rfl
def cbs_ren (ρ:Nat->Nat)(C:List Cb):(fun i=>SV.renL ρ (cbs C i))=cbs C:=by funext i;simp[cbs,Cb.sv,SV.renL,SV.ren]
def cbs_ren' (ρ:Nat->Nat)(C:List Cb)(i:Nat):SV.renL ρ (cbs C i)=cbs C i:=jv (cbs_ren ρ C) i
def cbs_lt (m:Nat)(C:List Cb)(i:Nat):SV.ltL m (cbs C i):=by simp[cbs,Cb.sv,SV.ltL,SV.lt]
def z4j (π:Pn)(C:List Cb)(i:Nat):SV.renPL π (cbs C i)=cbs C i:=by simp[cbs,Cb.sv,SV.renPL,SV.renP]
def z3n (π:Pn)(l:List Cl)(i:Nat):SV.renPL π (z1x l i)=z1x l i:=by simp[z1x,Cl.sv,SV.renPL,SV.renP]
def z51 (π:Pn)(l:List Pr)(i:Nat):SV.renPL π (prs l i)=prs l i:=by simp[prs,Pr.sv,SV.renPL,SV.renP]
def cbs_put (C:List Cb)(k:Nat)(a b c:Int)(h:k<C.length):(fun i=>if i=k then [SV.int .i64 a,SV.int .i64 b,SV.int .i64 c] else cbs C i)=cbs (C.set k ⟨a,b,c⟩):=by
 funext i
 simp only[cbs]
 split
 ·rename_i e;subst e;rw[z4x h];rfl
 rename_i e;rw[cbA_set_ne (Qt e)]
def lyR (f:Nat)(L:List Ly):Nat->List SV:=fun i=>[.int .i64 (lyA L i).lvl,.int .u32 (lyA L i).wd,.slc true f (3*i+1) 0 (lyA L i).ids.length,.slc true f (3*i+2) 0 (lyA L i).cs.length,.slc true f (3*i+3) 0 (lyA L i).ps.length]
def lyO (o:Bool)(x:Ly)(r:Nat):Sk.Obj:=
 if r=0 then .row ⟨o,false,3,1,x.ids.length,ints x.ids⟩ else if r=1 then .row ⟨o,false,117,5,x.cs.length,z1x x.cs⟩ else .row ⟨o,false,110,7,x.ps.length,prs x.ps⟩
def lyF (o:Bool)(L:List Ly):Nat->Sk.Obj:=fun k=>lyO o (lyA L (k/3)) (k%3)
def lyF_0 (o:Bool)(L:List Ly)(i:Nat):lyF o L (3*i)= .row ⟨o,false,3,1,(lyA L i).ids.length,ints (lyA L i).ids⟩:=by
 rw[lyF,Nat.mul_div_cancel_left _ (by decide),Nat.mul_mod_right];rfl
def lyF_1 (o:Bool)(L:List Ly)(i:Nat):lyF o L (3*i+1)= .row ⟨o,false,117,5,(lyA L i).cs.length,z1x (lyA L i).cs⟩:=by
 rw[lyF,show(3*i+1)/3=i by omega,show(3*i+1)%3=1 by omega];rfl
def lyF_2 (o:Bool)(L:List Ly)(i:Nat):lyF o L (3*i+2)= .row ⟨o,false,110,7,(lyA L i).ps.length,prs (lyA L i).ps⟩:=by
 rw[lyF,show(3*i+2)/3=i by omega,show(3*i+2)%3=2 by omega];rfl
def lyR_ap (f:Nat)(L:List Ly)(i:Nat):lyR f L i=[.int .i64 (lyA L i).lvl,.int .u32 (lyA L i).wd,.slc true f (3*i+1) 0 (lyA L i).ids.length,.slc true f (3*i+2) 0 (lyA L i).cs.length,.slc true f (3*i+3) 0 (lyA L i).ps.length]:=rfl
def lyR_ren (ρ:Nat->Nat)(f:Nat)(L:List Ly):(fun i=>SV.renL ρ (lyR f L i))=lyR (ρ f) L:=by funext i;simp[lyR,SV.renL,SV.ren]
def lyR_ren' (ρ:Nat->Nat)(f:Nat)(L:List Ly)(i:Nat):SV.renL ρ (lyR f L i)=lyR (ρ f) L i:=jv (lyR_ren ρ f L) i
def z67 (m:Nat)(f:Nat)(L:List Ly)(i:Nat):SV.ltL m (lyR f L i)↔f<m:=by simp[lyR,SV.ltL,SV.lt]
def lyO_3 (o:Bool)(x:Ly)(r:Nat):lyO o x r= .row ⟨o,false,3,1,x.ids.length,ints x.ids⟩\/lyO o x r= .row ⟨o,false,117,5,x.cs.length,z1x x.cs⟩\/lyO o x r= .row ⟨o,false,110,7,x.ps.length,prs x.ps⟩:=by
 unfold lyO
 split
 ·exact .inl rfl
 split
 ·exact .inr (.inl rfl)
 exact .inr (.inr rfl)
def lyO_givesP (π:Pn)(o o':Bool)(x:Ly)(r:Nat)(h:o'=true->o=true):zt π (lyO o x r) (lyO o' x r):=by
 unfold lyO
 split
 ·exact⟨fun h2=>⟨h h2,rfl⟩,rfl,qd _,fun q _=>(z2q π _ q).symm⟩
 split
 ·exact⟨fun h2=>⟨h h2,rfl⟩,rfl,qd _,fun q _=>(z3n π _ q).symm⟩
 exact⟨fun h2=>⟨h h2,rfl⟩,rfl,qd _,fun q _=>(z51 π _ q).symm⟩
def lyO_gives (ρ:Nat->Nat)(o o':Bool)(x:Ly)(r:Nat):z1e ρ (lyO o x r) (lyO o' x r)↔(o'=true->o=true):=by
 unfold lyO
 split
 ·simp[z1e,z4a,z20]
 split
 ·simp[z1e,z4a,cls_ren']
 simp[z1e,z4a,prs_ren']
def lyO_lt (m:Nat)(o:Bool)(x:Ly)(r:Nat):(lyO o x r).lt m:=by
 unfold lyO
 split
 ·exact Obj.lt_row.2 fun q _=>z1u m _ q
 split
 ·exact Obj.lt_row.2 fun q _=>cls_lt m _ q
 exact Obj.lt_row.2 fun q _=>prs_lt m _ q
def lyF_gives (ρ:Nat->Nat)(o o':Bool)(L:List Ly)(k:Nat):z1e ρ (lyF o L k) (lyF o' L k)↔(o'=true->o=true):=lyO_gives ..
def z4i (m:Nat)(o:Bool)(L:List Ly)(k:Nat):(lyF o L k).lt m:=lyO_lt ..
def lyF_own (o:Bool)(L:List Ly)(k:Nat):(lyF o L k).own=o:=by
 rcases lyO_3 o (lyA L (k/3)) (k%3) with e|e|e<;>exact(Qv Obj.own e)
def lyF_fown (o:Bool)(e:Go.TypeId)(sz:Nat)(L:List Ly)(k:Nat):(fam o e sz (lyF o L) k).own=o:=fam_own1 (lyF_own o L) k
def lyF_ren (ρ:Nat->Nat)(o:Bool)(L:List Ly):(fun k=>(lyF o L k).ren ρ)=lyF o L:=by
 funext k
 show(lyO o (lyA L (k/3)) (k%3)).ren ρ=lyO o (lyA L (k/3)) (k%3)
 rcases lyO_3 o (lyA L (k/3)) (k%3) with e|e|e<;>rw[e]<;>simp[Obj.ren,Row.ren,z1p,z2j,z2r]
def z5r (π:Pn)(o o':Bool)(L L':List Ly)(k:Nat)(h:o'=true->o=true)(e:lyA L' (k/3)=lyA L (k/3)):zt π (lyF o L k) (lyF o' L' k):=by
 rw[lyF,lyF,e];exact lyO_givesP π o o' _ _ h
def lyR_renO (ρ:Nat->Nat)(f j a g:Nat)(L:List Ly)(i:Nat)(h:g≠f):SV.renPL (mvP ρ f j a) (lyR g L i)=lyR (ρ g) L i:=by
 simp[lyR,SV.renPL,SV.renP,mvP,h]
def lyR_renMO (ρ:Nat->Nat)(f g:Nat)(ms:Nat->Option Nat)(L:List Ly)(i:Nat)(h:g≠f):SV.renPL (mvM ρ f ms) (lyR g L i)=lyR (ρ g) L i:=by
 simp[lyR,SV.renPL,SV.renP,mvM,h]
def ms3_at (j a b c i:Nat):ms3 j a b c (3*i+1)=(if i=j then some a else none)/\ms3 j a b c (3*i+2)=(if i=j then some b else none)/\ms3 j a b c (3*i+3)=if i=j then some c else none:=by
 unfold ms3
 by_cases h:i=j
 ·subst h;refine⟨by rw[qe rfl,qe rfl],by rw[qc (by omega),qe rfl,qe rfl],by rw[qc (by omega),qc (by omega),qe rfl,qe rfl]⟩
 refine⟨by rw[qc (by omega),qc (by omega),qc (by omega),qc h],by rw[qc (by omega),qc (by omega),qc (by omega),qc h],by rw[qc (by omega),qc (by omega),qc (by omega),qc h]⟩
def ms2_at (j b c i:Nat):ms2 j b c (3*i+1)=none/\ms2 j b c (3*i+2)=(if i=j then some b else none)/\ms2 j b c (3*i+3)=if i=j then some c else none:=by
 unfold ms2
 by_cases h:i=j
 ·subst h;refine⟨by rw[qc (by omega),qc (by omega)],by rw[qe rfl,qe rfl],by rw[qc (by omega),qe rfl,qe rfl]⟩
 refine⟨by rw[qc (by omega),qc (by omega)],by rw[qc (by omega),qc (by omega),qc h],by rw[qc (by omega),qc (by omega),qc h]⟩
def lyR_renM3 (ρ:Nat->Nat)(f j a b c:Nat)(L:List Ly)(i:Nat):SV.renPL (mvM ρ f (ms3 j a b c)) (lyR f L i)=
  if i=j then [.int .i64 (lyA L i).lvl,.int .u32 (lyA L i).wd,.slc true a 0 0 (lyA L i).ids.length,.slc true b 0 0 (lyA L i).cs.length,.slc true c 0 0 (lyA L i).ps.length] else lyR (ρ f) L i:=by
 obtain⟨h1,h2,h3⟩:=ms3_at j a b c i
 by_cases h:i=j
 ·subst h;rw[qe rfl] at h1 h2 h3;simp only[lyR,SV.renPL,SV.renP,mvM,q9,h1,h2,h3]
 simp only[lyR,SV.renPL,SV.renP,mvM,q9,h1,h2,h3,qc h]
def lyR_renM2 (ρ:Nat->Nat)(f j b c:Nat)(L:List Ly)(i:Nat):SV.renPL (mvM ρ f (ms2 j b c)) (lyR f L i)=
  if i=j then [.int .i64 (lyA L i).lvl,.int .u32 (lyA L i).wd,.slc true (ρ f) (3*i+1) 0 (lyA L i).ids.length,.slc true b 0 0 (lyA L i).cs.length,.slc true c 0 0 (lyA L i).ps.length] else lyR (ρ f) L i:=by
 obtain⟨h1,h2,h3⟩:=ms2_at j b c i
 by_cases h:i=j
 ·subst h;rw[qe rfl] at h2 h3;simp only[lyR,SV.renPL,SV.renP,mvM,q9,h1,h2,h3]
 simp only[lyR,SV.renPL,SV.renP,mvM,q9,h1,h2,h3,qc h]
def lyF_cons3 {ρ:Nat->Nat}{f j a b c m n n':Nat}{os l:List (Nat×Nat×(Nat->Sk.Obj))}{L L':List Ly}{x:Ly}(hf:Sk.find os (ρ f)=some (3*n+1,fam true 3 1 (lyF true L)))
  (ha:Sk.find os a=some (rO 3 1 x.ids.length (ints x.ids))) (hb:Sk.find os b=some (rO 117 5 x.cs.length (z1x x.cs))) (hc:Sk.find os c=some (rO 110 7 x.ps.length (prs x.ps)))
  (hx:lyA L' j=x) (h:∀i,i<n'->i≠j->i<n/\lyA L' i=lyA L i) (hm:f<m) (ht:zw (mvM ρ f (ms3 j a b c)) m os l):zw (mvM ρ f (ms3 j a b c)) m os ((f,(3*n'+1,fam true 3 1 (lyF true L')))::l):=by
 refine zw.consF hf (by omega) ⟨fun _=>⟨rfl,rfl⟩,rfl⟩ (by unfold ms3;rw[qc (by omega),qc (by omega),qc (by omega)]) (fun i hi=> ?_) hm ht;obtain⟨q,r,hr,e⟩:∃q r,r<3/\i=3*q+r:=⟨i/3,i%3,by omega,by omega⟩;obtain⟨h1,h2,h3⟩:=ms3_at j a b c q
 have old:q≠j->i+1<3*n+1/\zt (mvM ρ f (ms3 j a b c)) (lyF true L i) (lyF true L' i)/\(lyF true L' i).lt m:=fun hne=>by
  have:=h q (by omega) hne;exact⟨by omega,z5r _ _ _ _ _ _ id (by rw[show i/3=q by omega];exact this.2),z4i ..⟩
 have h012:r=0\/r=1\/r=2:=by omega
 rcases h012 with g|g|g<;>subst g<;>subst e
 ·rw[h1]
  by_cases hq:q=j
  ·subst hq;rw[qe rfl];refine⟨1,_,ha,qf,?_,z4i ..⟩;rw[ja,lyF_0,hx];exact⟨fun _=>⟨rfl,rfl⟩,rfl,qd _,fun q _=>(z2q _ _ q).symm⟩
  rw[qc hq];exact old hq
 ·rw[show 3*q+1+1=3*q+2 from rfl,h2]
  by_cases hq:q=j
  ·subst hq;rw[qe rfl];refine⟨1,_,hb,qf,?_,z4i ..⟩;rw[lyF_1,hx];exact⟨fun _=>⟨rfl,rfl⟩,rfl,qd _,fun q _=>(z3n _ _ q).symm⟩
  rw[qc hq];exact old hq
 rw[show 3*q+2+1=3*q+3 from rfl,h3]
 by_cases hq:q=j
 ·subst hq;rw[qe rfl];refine⟨1,_,hc,qf,?_,z4i ..⟩;rw[lyF_2,hx];exact⟨fun _=>⟨rfl,rfl⟩,rfl,qd _,fun q _=>(z51 _ _ q).symm⟩
 rw[qc hq];exact old hq
def lyF_cons2 {ρ:Nat->Nat}{f j b c m n:Nat}{os l:List (Nat×Nat×(Nat->Sk.Obj))}{L L':List Ly}{x:Ly}(hf:Sk.find os (ρ f)=some (3*n+1,fam true 3 1 (lyF true L)))
  (hb:Sk.find os b=some (rO 117 5 x.cs.length (z1x x.cs))) (hc:Sk.find os c=some (rO 110 7 x.ps.length (prs x.ps)))
  (hx:lyA L' j=x) (hi:x.ids=(lyA L j).ids) (h:∀i,i≠j->lyA L' i=lyA L i) (hm:f<m) (ht:zw (mvM ρ f (ms2 j b c)) m os l):zw (mvM ρ f (ms2 j b c)) m os ((f,(3*n+1,fam true 3 1 (lyF true L')))::l):=by
 refine zw.consF hf (by omega) ⟨fun _=>⟨rfl,rfl⟩,rfl⟩ (by unfold ms2;rw[qc (by omega),qc (by omega)]) (fun i hi'=> ?_) hm ht;obtain⟨q,r,hr,e⟩:∃q r,r<3/\i=3*q+r:=⟨i/3,i%3,by omega,by omega⟩;obtain⟨h1,h2,h3⟩:=ms2_at j b c q
 have old:q≠j->i+1<3*n+1/\zt (mvM ρ f (ms2 j b c)) (lyF true L i) (lyF true L' i)/\(lyF true L' i).lt m:=fun hne=>
  ⟨by omega,z5r _ _ _ _ _ _ id (by rw[show i/3=q by omega];exact h q hne),z4i ..⟩
 have h012:r=0\/r=1\/r=2:=by omega
 rcases h012 with g|g|g<;>subst g<;>subst e
 ·rw[h1];refine⟨by omega,?_,z4i ..⟩;rw[ja,lyF_0,lyF_0]
  by_cases hq:q=j
  ·subst hq;rw[hx,hi];exact⟨fun _=>⟨rfl,rfl⟩,rfl,qd _,fun q _=>(z2q _ _ q).symm⟩
  rw[h q hq];exact⟨fun _=>⟨rfl,rfl⟩,rfl,qd _,fun q _=>(z2q _ _ q).symm⟩
 ·rw[show 3*q+1+1=3*q+2 from rfl,h2]
  by_cases hq:q=j
  ·subst hq;rw[qe rfl];refine⟨1,_,hb,qf,?_,z4i ..⟩;rw[lyF_1,hx];exact⟨fun _=>⟨rfl,rfl⟩,rfl,qd _,fun q _=>(z3n _ _ q).symm⟩
  rw[qc hq];exact old hq
 rw[show 3*q+2+1=3*q+3 from rfl,h3]
 by_cases hq:q=j
 ·subst hq;rw[qe rfl];refine⟨1,_,hc,qf,?_,z4i ..⟩;rw[lyF_2,hx];exact⟨fun _=>⟨rfl,rfl⟩,rfl,qd _,fun q _=>(z51 _ _ q).symm⟩
 rw[qc hq];exact old hq
def lyPi (i:Nat):Pn:=fun id k=>if id=0 then(0,3*i+2) else if id=1 then(0,3*i+3) else(id,k)
def lyPd (i:Nat):Pn:=fun id k=>if id=0 then(0,3*i+1) else(id,k)
def lyLs {f : Go.FuncId} {ar : List SV} {R : SV -> AH -> Prop} (L : List Ly) (i k : Nat) (hi : i < k)
    (h:zj prog f (.agg [.slc false 0 0 0 (lyA L i).cs.length,.slc false 1 0 0 (lyA L i).ps.length]::ar) ⟨2,[(0,z4l (lyA L i).cs),(1,z5b (lyA L i).ps)]⟩ R)
    (h2:SV.ltL 2 ar) (h3:∀π:Pn,SV.renPL π ar=ar):
    zj prog f (.agg [.slc false 0 (3*i+2) 0 (lyA L i).cs.length,.slc false 0 (3*i+3) 0 (lyA L i).ps.length]::ar) ⟨2,[(0,(3*k+1,fam false 3 1 (lyF false L)))]⟩
      (fun s H'=> ∃s0 H0',R s0 H0'/\s=s0.renP (memP (lyPi i) 2)/\H'=⟨H0'.nxt,renPOs (memP (lyPi i) 2) H0'.os⟩):=by
  have g:=h.mem (lyPi i) (os1:=[(0,(3*k+1,fam false 3 1 (lyF false L)))])
    (by
      refine⟨⟨by show 0<2;decide,fun k=>rfl,fun k' hk=>⟨Obj.lt_row.2 fun q _=>cls_lt _ _ q,?_⟩⟩,⟨by show 1<2;decide,fun k=>rfl,fun k' hk=>⟨Obj.lt_row.2 fun q _=>prs_lt _ _ q,?_⟩⟩,trivial⟩
      · simp only[lyPi,q9,Sk.find];refine⟨by omega,?_⟩;rw[show 3*i+2=(3*i+1)+1 from rfl,z2v,lyF_1];exact⟨fun h=>(by cases h),rfl,qd _,fun q _=>(z3n _ _ q).symm⟩
      simp only[lyPi,q9,Sk.find,JI,Ql];refine⟨by omega,?_⟩;rw[show 3*i+3=(3*i+2)+1 from rfl,z2v,lyF_2]
      exact⟨fun h=>(by cases h),rfl,qd _,fun q _=>(z51 _ _ q).symm⟩)
    ⟨by simp [SV.lt, SV.ltL], h2⟩ (by intro id k hid; simp only [lyPi]; split; · exact Nat.zero_lt_two
                                      split
                                      · exact Nat.zero_lt_two
                                      exact hid) (by
      intro x hx k;simp only[qU] at hx;subst hx
      exact lyF_fown false _ _ L k)
  have e:SV.renPL (lyPi i) (.agg [.slc false 0 0 0 (lyA L i).cs.length,.slc false 1 0 0 (lyA L i).ps.length]::ar)= .agg [.slc false 0 (3*i+2) 0 (lyA L i).cs.length,.slc false 0 (3*i+3) 0 (lyA L i).ps.length]::ar:=by
    rw[SV.renPL,h3];simp[SV.renP,SV.renPL,lyPi]
  rw[e] at g;exact g
def lyLsB {f:Go.FuncId}{B:Bool}(L:List Ly)(i k:Nat)(hi:i<k)
  (h:zj prog f [.agg [.slc false 0 0 0 (lyA L i).cs.length,.slc false 1 0 0 (lyA L i).ps.length]] ⟨2,[(0,z4l (lyA L i).cs),(1,z5b (lyA L i).ps)]⟩ (fun s H1=>s= .bool B/\H1=⟨2,[]⟩)):
  zj prog f [.agg [.slc false 0 (3*i+2) 0 (lyA L i).cs.length,.slc false 0 (3*i+3) 0 (lyA L i).ps.length]] ⟨2,[(0,(3*k+1,fam false 3 1 (lyF false L)))]⟩ (fun s H1=>s= .bool B/\H1=⟨2,[]⟩):=by
 refine(lyLs L i k hi h trivial fun _=>rfl).imp ?_;rintro s H' ⟨s0,H0',⟨rfl,rfl⟩,rfl,rfl⟩;exact⟨rfl,rfl⟩
def lyId {f : Go.FuncId} {ar : List SV} {R : SV -> AH -> Prop} (L : List Ly) (i k : Nat) (hi : i < k)
    (h:zj prog f (.slc false 0 0 0 (lyA L i).ids.length::ar) ⟨1,[(0,rI 3 1 ((lyA L i).ids.length) (ints (lyA L i).ids))]⟩ R)
    (h2:SV.ltL 1 ar) (h3:∀π:Pn,SV.renPL π ar=ar):
    zj prog f (.slc false 0 (3*i+1) 0 (lyA L i).ids.length::ar) ⟨1,[(0,(3*k+1,fam false 3 1 (lyF false L)))]⟩
      (fun s H'=> ∃s0 H0',R s0 H0'/\s=s0.renP (memP (lyPd i) 1)/\H'=⟨H0'.nxt,renPOs (memP (lyPd i) 1) H0'.os⟩):=by
  have g:=h.mem (lyPd i) (os1:=[(0,(3*k+1,fam false 3 1 (lyF false L)))])
    (by
      refine⟨⟨qf,fun k=>rfl,fun k' hk=>⟨Obj.lt_row.2 fun q _=>z1u _ _ q,?_⟩⟩,trivial⟩;simp only[lyPd,q9,Sk.find];refine⟨by omega,?_⟩;rw[z2v,lyF_0]
      exact⟨fun h=>(by cases h),rfl,qd _,fun q _=>(z2q _ _ q).symm⟩)
    ⟨by simp [SV.lt], h2⟩ (by intro id k hid; simp only [lyPd]; split; · exact qf
                              exact hid) (by
      intro x hx k;simp only[qU] at hx;subst hx
      exact lyF_fown false _ _ L k)
  have e:SV.renPL (lyPd i) (.slc false 0 0 0 (lyA L i).ids.length::ar)= .slc false 0 (3*i+1) 0 (lyA L i).ids.length::ar:=by
    rw[SV.renPL,h3];simp[SV.renP,lyPd]
  rw[e] at g;exact g
section
def z5w (L:List Ly)(id lv:Int):Bool:=gn (lyA L (plI L id lv).toNat).cs (plK L id lv)
def memF (L:List Ly)(id lv:Int):Bool:=decide (0<=plI L id lv) && !z5w L id lv
def cbOk (ns:List Nd)(ht:Int)(c:Cb):Bool:=decide (c=noCb)||((c.kind==1||c.kind==2) && decide (0<=findI ns c.node) && decide (0<=c.lvl) && decide (c.lvl<=ht))
def busyF (C:List Cb)(id:Int):Bool:=anyB C.length fun i=>(cbA C i).kind !=0 && (cbA C i).node==id
def upL (L:List Ly)(i:Nat)(cs:List Cl)(ps:List Pr):List Ly:=L.set i {lyA L i with cs:=cs,ps:=ps}
def beginE (L:List Ly)(p:Int)(c:Cb):Int:=z2t (lyA L (plI L c.node c.lvl).toNat).cs (lyA L (plI L c.node c.lvl).toNat).ps p c.kind (plK L c.node c.lvl)
def beginL (L:List Ly)(p:Int)(c:Cb):List Ly:=
 upL L (plI L c.node c.lvl).toNat (lyA L (plI L c.node c.lvl).toNat).cs (startP (lyA L (plI L c.node c.lvl).toNat).cs (lyA L (plI L c.node c.lvl).toNat).ps p c.kind (plK L c.node c.lvl))
def nxC (c:Cb):Cb:=if c.kind=1 then {c with lvl:=c.lvl+1} else {c with lvl:=c.lvl-1}
structure SkEq (L L':List Ly):Prop where
 len:L'.length=L.length
 lvl:∀i,(lyA L' i).lvl=(lyA L i).lvl
 ids:∀i,(lyA L' i).ids=(lyA L i).ids
def SkEq.plI {L L':List Ly}(h:SkEq L L')(id lv:Int):plI L' id lv=plI L id lv:=by
 unfold Go.Proofs.plI;rw[h.len]
 congr 1
 funext i
 rw[plP,plP,h.lvl,h.ids]
def SkEq.plK {L L':List Ly}(h:SkEq L L')(id lv:Int):plK L' id lv=plK L id lv:=by
 unfold Go.Proofs.plK;rw[h.plI,h.ids]
def z40 (L:List Ly)(i:Nat)(cs:List Cl)(ps:List Pr):(upL L i cs ps).length=L.length:=by simp[upL]
def upL_eq {L:List Ly}{i:Nat}(h:i<L.length)(cs:List Cl)(ps:List Pr):lyA (upL L i cs ps) i={lyA L i with cs:=cs,ps:=ps}:=lyA_set_eq h
def upL_ne {L:List Ly}{i j:Nat}(h:i≠j)(cs:List Cl)(ps:List Pr):lyA (upL L i cs ps) j=lyA L j:=lyA_set_ne h
def skEq_up {L:List Ly}{i:Nat}(h:i<L.length)(cs:List Cl)(ps:List Pr):SkEq L (upL L i cs ps):=by
 refine⟨z40 ..,fun j=> ?_,fun j=> ?_⟩
 ·by_cases e:i=j
  ·subst e;rw[upL_eq h]
  rw[upL_ne e]
 by_cases e:i=j
 ·subst e;rw[upL_eq h]
 rw[upL_ne e]
def Fsh.up {fo:Fo}(h:Fsh fo){i:Nat}(hi:i<fo.ly.length){cs:List Cl}{ps:List Pr}{C:List Cb}(hk:z41 (lyA fo.ly i).cs cs)(hp:ps.length=(lyA fo.ly i).ps.length)(hC:C.length=fo.cb.length):Fsh {fo with ly:=upL fo.ly i cs ps,cb:=C}:=by
 refine⟨h.ck,h.sm,h.h0,h.h16,by dsimp only;rw[hC];exact h.m1,by dsimp only;rw[hC];exact h.m8,by dsimp only;rw[z40];exact h.len,fun j hj=> ?_⟩;dsimp only at hj ⊢;rw[z40] at hj;rw[hC];have hA:=h.at_ j hj
 by_cases e:i=j
 ·subst e;rw[upL_eq hi];exact⟨hA.lvl,hA.ids,hk.len.trans hA.len,fun k hk'=>(hk.key _).trans (hA.key k hk'),hA.wd,hp.trans hA.pn⟩
 rw[upL_ne e];exact hA
def Fsh.cbs {fo:Fo}(h:Fsh fo){C:List Cb}(hC:C.length=fo.cb.length):Fsh {fo with cb:=C}:=
 ⟨h.ck,h.sm,h.h0,h.h16,by dsimp only;rw[hC];exact h.m1,by dsimp only;rw[hC];exact h.m8,h.len,fun j hj=>by dsimp only;rw[hC];exact h.at_ j hj⟩
def goneF_up {L:List Ly}{i:Nat}(hi:i<L.length)(cs:List Cl)(ps:List Pr)(id lv:Int):z5w (upL L i cs ps) id lv=if(plI L id lv).toNat=i then gn cs (plK L id lv) else z5w L id lv:=by
 unfold z5w;rw[(skEq_up hi cs ps).plI,(skEq_up hi cs ps).plK]
 split
 ·rename_i e;rw[e,upL_eq hi]
 rename_i e;rw[upL_ne (Qt e)]
structure FI (fo:Fo) (ls:Nat->List Int):Prop where
 sh:Fsh fo
 inv:∀i,i<fo.ly.length->Inv (lyA fo.ly i).cs (lyA fo.ly i).ps (ls i)
 clm:∀p,p<fo.cb.length->cbOk fo.ns fo.ht (cbA fo.cb p)=true
 idl:∀p i,p<fo.cb.length->i<fo.ly.length->((cbA fo.cb p).kind=0\/plI fo.ly (cbA fo.cb p).node (cbA fo.cb p).lvl≠i)->z42 (pr (lyA fo.ly i).ps p)=false
 cur:∀p i:Nat,p<fo.cb.length->i<fo.ly.length->(cbA fo.cb p).kind≠0->plI fo.ly (cbA fo.cb p).node (cbA fo.cb p).lvl=i->
  (pr (lyA fo.ly i).ps p).cell=plK fo.ly (cbA fo.cb p).node (cbA fo.cb p).lvl/\(pr (lyA fo.ly i).ps p).kind=(cbA fo.cb p).kind/\(pr (lyA fo.ly i).ps p).phase≠0/\Own (lyA fo.ly i).cs (pr (lyA fo.ly i).ps p)
 dis:∀p q,p<fo.cb.length->q<fo.cb.length->(cbA fo.cb p).kind≠0->(cbA fo.cb q).kind≠0->(cbA fo.cb p).node=(cbA fo.cb q).node->p=q
 lev:∀x∈fo.ns,busyF fo.cb x.id=false->∀lv,0<=lv->lv<=fo.ht->z5w fo.ly x.id lv=z5w fo.ly x.id 0
 low:∀p,p<fo.cb.length->(cbA fo.cb p).kind≠0->∀lv,0<=lv->lv<=fo.ht->(lv<(cbA fo.cb p).lvl->z5w fo.ly (cbA fo.cb p).node lv=false)/\((cbA fo.cb p).lvl<lv->z5w fo.ly (cbA fo.cb p).node lv=true)
def findI_mem {xs:List Nd}{v:Int}(h:0<=findI xs v):∃x∈xs,x.id=v:=by
 rcases z3j xs.length fun i=>decide ((nd xs i).id=v) with⟨h1,_⟩|⟨j,h1,h2,h3,_⟩
 ·unfold findI at h;omega
 exact⟨nd xs j,nd_mem h2,jO h3⟩
def findI_of {xs:List Nd}{x:Nd}(h:x∈xs):0<=findI xs x.id:=by
 obtain⟨i,hi,rfl⟩:=Qk h;rcases z3j xs.length fun q=>decide ((nd xs q).id=(xs[i]).id) with⟨_,h2⟩|⟨j,h1,_⟩
 ·have:=h2 i hi;rw[qg,z4z hi] at this;exact absurd rfl this
 unfold findI;omega
structure Works (fo:Fo) (c:Cb) (x:Nd):Prop where
 k:c.kind=1\/c.kind=2
 mm:x∈fo.ns
 id:x.id=c.node
 l0:0<=c.lvl
 lh:c.lvl<=fo.ht
def cbOk_works {fo:Fo}{c:Cb}(h:cbOk fo.ns fo.ht c=true)(hk:c.kind≠0):∃x,Works fo c x:=by
 rw[cbOk,qt,qm] at h;rcases h with h|h
 ·subst h;exact absurd rfl hk
 simp only[qj,qt,qD,qm] at h;obtain⟨x,h1,h2⟩:=findI_mem h.1.1.2;exact⟨x,h.1.1.1,h1,h2,h.1.2,h.2⟩
def Works.ok {fo:Fo}{c:Cb}{x:Nd}(h:Works fo c x):cbOk fo.ns fo.ht c=true:=by
 simp only[cbOk,qt,qj,qD,qm];exact .inr ⟨⟨⟨h.k,by rw[<-h.id];exact findI_of h.mm⟩,h.l0⟩,h.lh⟩
def z5h {C:List Cb}{id:Int}:busyF C id=false↔∀p,p<C.length->(cbA C p).kind≠0->(cbA C p).node≠id:=by
 rw[busyF,anyB_iff];refine forall_congr' fun p=>forall_congr' fun hp=> ?_;simp[Qi]
section
variable {fo:Fo} {ls:Nat->List Int}
def FI.works (h:FI fo ls){p:Nat}(hp:p<fo.cb.length)(hk:(cbA fo.cb p).kind≠0):∃x,Works fo (cbA fo.cb p) x:=cbOk_works (h.clm p hp) hk
def FI.stands (h:FI fo ls){p:Nat}(hp:p<fo.cb.length)(hk:(cbA fo.cb p).kind≠0):∃x i k,Works fo (cbA fo.cb p) x/\At fo x (cbA fo.cb p).lvl i k/\
  (pr (lyA fo.ly i).ps p).cell=k+2/\(pr (lyA fo.ly i).ps p).kind=(cbA fo.cb p).kind/\(pr (lyA fo.ly i).ps p).phase≠0/\Own (lyA fo.ly i).cs (pr (lyA fo.ly i).ps p):=by
 obtain⟨x,hw⟩:=h.works hp hk;obtain⟨i,k,ha⟩:=h.sh.place hw.mm hw.l0 hw.lh;have h1:=ha.pI;have h2:=ha.pK;rw[hw.id] at h1 h2;have:=h.cur p i hp ha.hi hk h1;rw[h2] at this;exact⟨x,i,k,hw,ha,this⟩
def At.gone {x:Nd}{lv:Int}{i k:Nat}(a:At fo x lv i k):z5w fo.ly x.id lv=gn (lyA fo.ly i).cs (k+2):=by
 rw[z5w,a.pI,a.pK,qq]
def FI.rest (h:FI fo ls){p:Nat}(hp:p<fo.cb.length)(hd:∀i:Nat,(cbA fo.cb p).kind≠0->plI fo.ly (cbA fo.cb p).node (cbA fo.cb p).lvl=i->(pr (lyA fo.ly i).ps p).phase=18)(i:Nat)(hi:i<fo.ly.length):z42 (pr (lyA fo.ly i).ps p)=false:=by
 by_cases hk:(cbA fo.cb p).kind=0
 ·exact h.idl p i hp hi (.inl hk)
 by_cases he:plI fo.ly (cbA fo.cb p).node (cbA fo.cb p).lvl=i
 ·have:=hd i hk he;simp[z42,this]
 exact h.idl p i hp hi (.inr he)
def Fsh.same (h:Fsh fo){x y:Nd}(hx:x∈fo.ns)(hy:y∈fo.ns){lv lw:Int}(l0:0<=lv)(lh:lv<=fo.ht)(m0:0<=lw)(mh:lw<=fo.ht)(hI:plI fo.ly x.id lv=plI fo.ly y.id lw)(hK:plK fo.ly x.id lv=plK fo.ly y.id lw):x=y/\lv=lw:=by
 obtain⟨i,k,a⟩:=h.place hx l0 lh;obtain⟨j,m,b⟩:=h.place hy m0 mh;have h1:=a.pI;have h2:=a.pK;have h3:=b.pI;have h4:=b.pK;have e1:i=j:=by omega
 have e2:k=m:=by omega
 subst e1 e2;exact a.inj h b
def FI.layer (h:FI fo ls){p:Nat}(hp:p<fo.cb.length)(hk:(cbA fo.cb p).kind≠0){i:Nat}(hI:plI fo.ly (cbA fo.cb p).node (cbA fo.cb p).lvl=i)(ha:z42 (pr (lyA fo.ly i).ps p)=true){ds:List Cl}{y:Pr}(t:Tr (lyA fo.ly i).cs p (pr (lyA fo.ly i).ps p) ds y):
  ∃l',i<fo.ly.length/\Inv ds ((lyA fo.ly i).ps.set p y) l'/\FI {fo with ly:=upL fo.ly i ds ((lyA fo.ly i).ps.set p y)} (fun j=>if j=i then l' else ls j)/\
   ∀x∈fo.ns,∀lv,0<=lv->lv<=fo.ht->x.id≠(cbA fo.cb p).node\/lv≠(cbA fo.cb p).lvl->z5w (upL fo.ly i ds ((lyA fo.ly i).ps.set p y)) x.id lv=z5w fo.ly x.id lv:=by
 obtain⟨x0,i0,k0,hw,hat,hc1,hc2,hc3,hc4⟩:=h.stands hp hk;have e0:i0=i:=by have:=hat.pI;rw[hw.id] at this;omega
 subst e0;have hi:=hat.hi;have hpl:p<(lyA fo.ly i0).ps.length:=by rw[(h.sh.at_ i0 hi).pn];exact hp
 have hinv:=h.inv i0 hi;obtain⟨l',hl'⟩:=hinv.step hpl ha t;have hke:=(hinv.marks hpl ha t).1;have hsk:=skEq_up hi ds ((lyA fo.ly i0).ps.set p y)
 have off:∀x∈fo.ns,∀lv,0<=lv->lv<=fo.ht->x.id≠(cbA fo.cb p).node\/lv≠(cbA fo.cb p).lvl->z5w (upL fo.ly i0 ds ((lyA fo.ly i0).ps.set p y)) x.id lv=z5w fo.ly x.id lv:=fun x hx lv l0 lh hne=>by
  obtain⟨j,m,b⟩:=h.sh.place hx l0 lh;rw[goneF_up hi,b.pI,b.pK,qq]
  split
  ·rename_i e;subst e;rw[hinv.off hpl ha t (by omega) (fun g=> ?_),b.gone];rw[hc1] at g;have e2:m=k0:=by omega
   subst e2;obtain⟨g1,g2⟩:=b.inj h.sh hat;subst g1;rcases hne with hne|hne
   ·exact hne hw.id
   exact hne g2
  rfl
 have kd:=t.kind';refine⟨l',hi,hl',⟨h.sh.up hi hke qy rfl,fun j hj=> ?_,h.clm,fun q j hq hj hz=> ?_,fun q j hq hj hz hzz=> ?_,h.dis,fun x hx hb lv l0 lh=> ?_,fun q hq hz lv l0 lh=> ?_⟩,off⟩
 ·dsimp only at hj ⊢;rw[z40] at hj
  by_cases e:i0=j
  ·subst e;rw[upL_eq hi,qe rfl];exact hl'
  rw[upL_ne e,qc (Qt e)];exact h.inv j hj
 ·dsimp only at hq hj hz ⊢;rw[z40] at hj;rw[hsk.plI] at hz
  by_cases e:i0=j
  ·subst e;rw[upL_eq hi];dsimp only
   by_cases e2:p=q
   ·subst e2;rcases hz with hz|hz
    ·exact absurd hz hk
    exact absurd hI hz
   rw[z2l e2];exact h.idl q i0 hq hj hz
  rw[upL_ne e];exact h.idl q j hq hj hz
 ·dsimp only at hq hj hz hzz ⊢;rw[z40] at hj;rw[hsk.plI] at hzz;rw[hsk.plK]
  by_cases e:i0=j
  ·subst e;rw[upL_eq hi];dsimp only
   by_cases e2:p=q
   ·subst e2;rw[z3q hpl,kd.1,kd.2.1];have:=h.cur p i0 hq hj hz hzz;exact⟨this.1,this.2.1,kd.2.2,hc4.step hinv hpl ha t⟩
   rw[z2l e2];obtain⟨g1,g2,g3,g4⟩:=h.cur q i0 hq hj hz hzz;refine⟨g1,g2,g3,g4.off (hinv.off hpl ha t ?_ ?_)⟩
   ·rw[g1];obtain⟨xq,iq,kq,wq,aq,_⟩:=h.stands hq hz;have:=aq.pK;rw[wq.id] at this;omega
   intro g;obtain⟨xq,wq⟩:=h.works hq hz;have e3:=h.sh.same wq.mm hw.mm wq.l0 wq.lh hw.l0 hw.lh (by rw[wq.id,hw.id,hzz,hI]) (by rw[wq.id,<-g1,g,hc1,hat.pK]);exact e2 (h.dis p q hp hq hk hz (by rw[<-wq.id,<-hw.id,e3.1]))
  rw[upL_ne e];exact h.cur q j hq hj hz hzz
 ·dsimp only at hx hb l0 lh ⊢;have hne:=z5h.1 hb p hp hk;rw[off x hx lv l0 lh (.inl (Qt hne)),off x hx 0 (by omega) (by have:=h.sh.h0;omega) (.inl (Qt hne))];exact h.lev x hx hb lv l0 lh
 dsimp only at hq hz l0 lh ⊢;obtain⟨xq,wq⟩:=h.works hq hz;have:=h.low q hq hz lv l0 lh
 by_cases e:lv=(cbA fo.cb q).lvl
 ·exact⟨fun g=>by omega,fun g=>by omega⟩
 have hg:=off xq wq.mm lv l0 lh (by
  by_cases e2:p=q
  ·subst e2;exact .inr e
  left;intro g;exact e2 (h.dis p q hp hq hk hz (by rw[<-wq.id,g])))
 rw[wq.id] at hg;rw[hg];exact this
def FI.begin (h:FI fo ls){p:Nat}(hp:p<fo.cb.length)(hr:∀i,i<fo.ly.length->z42 (pr (lyA fo.ly i).ps p)=false){c:Cb}{x:Nd}(hw:Works fo c x)
  (hn:∀q,q<fo.cb.length->q≠p->(cbA fo.cb q).kind≠0->(cbA fo.cb q).node≠c.node) (ho:(cbA fo.cb p).kind≠0->(cbA fo.cb p).node=c.node)
  (hg:z5w fo.ly c.node c.lvl=(c.kind==1)) (hl:∀lv,0<=lv->lv<=fo.ht->(lv<c.lvl->z5w fo.ly c.node lv=false)/\(c.lvl<lv->z5w fo.ly c.node lv=true)):
  beginE fo.ly p c=0/\FI {fo with ly:=beginL fo.ly p c,cb:=fo.cb.set p c} ls:=by
 obtain⟨i,k,a⟩:=h.sh.place hw.mm hw.l0 hw.lh;have hI:=a.pI;have hK:=a.pK;rw[hw.id] at hI hK;have hi:=a.hi;have hinv:=h.inv i hi;have hpl:p<(lyA fo.ly i).ps.length:=by rw[(h.sh.at_ i hi).pn];exact hp
 have hcel:=a.cel
 have he:z2t (lyA fo.ly i).cs (lyA fo.ly i).ps (p:Int) c.kind ((k:Int)+2)=0:=by
  unfold z2t;rw[hinv.vb]
  have h1:(decide ((p:Int)<0)||decide (((lyA fo.ly i).ps.length:Int)<=p))=false:=by
   rw[qk,qg,qg];omega
  have h2:(decide ((k:Int)+2<2)||decide (((lyA fo.ly i).cs.length:Int)<=k+2))=false:=by
   rw[qk,qg,qg];omega
  have h3:kindBad c.kind=false:=by
   rw[kindBad,qk,qg,qg];have:=hw.k;omega
  rw[h1,h2,h3,qq,hr i hi]
  rfl
 refine⟨by rw[beginE,hI,hK,qq];exact he,?_⟩;unfold beginL;rw[hI,hK,qq];have hinv':=hinv.start he;have hs:=startP_length (lyA fo.ly i).cs (lyA fo.ly i).ps (p:Int) c.kind ((k:Int)+2);have hst:startP (lyA fo.ly i).cs (lyA fo.ly i).ps (p:Int) c.kind ((k:Int)+2)=(lyA fo.ly i).ps.set p ⟨c.kind,(k:Int)+2,1,0,(cl (lyA fo.ly i).cs 0).right,0,false⟩:=by rw[startP,qq]
 have hsk:=skEq_up hi (lyA fo.ly i).cs (startP (lyA fo.ly i).cs (lyA fo.ly i).ps (p:Int) c.kind ((k:Int)+2))
 have gsame:∀id lv,z5w (upL fo.ly i (lyA fo.ly i).cs (startP (lyA fo.ly i).cs (lyA fo.ly i).ps (p:Int) c.kind ((k:Int)+2))) id lv=z5w fo.ly id lv:=fun id lv=>by
  rw[goneF_up hi]
  split
  ·rename_i e;rw[z5w,e]
  rfl
 have cset:∀q,cbA (fo.cb.set p c) q=if q=p then c else cbA fo.cb q:=fun q=>by
  split
  ·rename_i e;subst e;exact z4x hp
  rename_i e;exact cbA_set_ne (Qt e)
 have hck:c.kind≠0:=by have:=hw.k;omega
 refine⟨h.sh.up hi (.refl _) hs qy,fun j hj=> ?_,fun q hq=> ?_,fun q j hq hj hz=> ?_,fun q j hq hj hz hzz=> ?_,fun q r hq hr1 hz1 hz2 hz3=> ?_,fun y hy hb lv l0 lh=> ?_,fun q hq hz lv l0 lh=> ?_⟩
 ·dsimp only at hj ⊢;rw[z40] at hj
  by_cases e:i=j
  ·subst e;rw[upL_eq hi];exact hinv'
  rw[upL_ne e];exact h.inv j hj
 ·dsimp only at hq ⊢;rw[qy] at hq;rw[cset]
  split
  ·exact hw.ok
  exact h.clm q hq
 ·dsimp only at hq hj hz ⊢;rw[qy] at hq;rw[z40] at hj;rw[hsk.plI,cset] at hz
  by_cases e2:q=p
  ·subst e2;rw[qe rfl] at hz;rcases hz with hz|hz
   ·exact absurd hz hck
   rw[hI] at hz;rw[upL_ne (fun e=>hz (by rw[e]))];exact hr j hj
  rw[qc e2] at hz
  by_cases e:i=j
  ·subst e;rw[upL_eq hi];dsimp only;rw[hst,z2l (Qt e2)];exact h.idl q i hq hj hz
  rw[upL_ne e];exact h.idl q j hq hj hz
 ·dsimp only at hq hj hz hzz ⊢;rw[qy] at hq;rw[z40] at hj;rw[hsk.plI,cset] at hzz;rw[hsk.plK];rw[cset] at hz ⊢
  by_cases e2:q=p
  ·subst e2;rw[qe rfl] at hz hzz ⊢;have e:i=j:=by omega
   subst e;rw[upL_eq hi];dsimp only;rw[hst,z3q hpl,hK];refine⟨rfl,rfl,by dsimp only;decide,Own.start hw.k ?_⟩;rw[<-hg,<-hw.id,a.gone]
  rw[qc e2] at hz hzz ⊢
  by_cases e:i=j
  ·subst e;rw[upL_eq hi];dsimp only;rw[hst,z2l (Qt e2)];exact h.cur q i hq hj hz hzz
  rw[upL_ne e];exact h.cur q j hq hj hz hzz
 ·dsimp only at hq hr1 hz1 hz2 hz3;rw[qy] at hq hr1;rw[cset] at hz1 hz3;rw[cset] at hz2 hz3
  by_cases e1:q=p
  ·by_cases e2:r=p
   ·rw[e1,e2]
   rw[qe e1,qc e2] at hz3;rw[qc e2] at hz2;exact absurd hz3.symm (hn r hr1 e2 hz2)
  rw[qc e1] at hz1
  by_cases e2:r=p
  ·rw[qc e1,qe e2] at hz3;exact absurd hz3 (hn q hq e1 hz1)
  rw[qc e1,qc e2] at hz3;rw[qc e2] at hz2;exact h.dis q r hq hr1 hz1 hz2 hz3
 ·dsimp only at hy hb l0 lh ⊢;rw[gsame,gsame];refine h.lev y hy (z5h.2 fun q hq hz=> ?_) lv l0 lh;have hb1:=z5h.1 hb;rw[qy] at hb1
  by_cases e:q=p
  ·subst e;have:=hb1 q hq;rw[cset,qe rfl] at this;rw[ho hz];exact this hck
  have:=hb1 q hq;rw[cset,qc e] at this;exact this hz
 dsimp only at hq hz l0 lh ⊢;rw[qy] at hq;rw[gsame];rw[cset] at hz ⊢
 split
 ·exact hl lv l0 lh
 rename_i e;rw[qc e] at hz;exact h.low q hq hz lv l0 lh
def FI.finish (h:FI fo ls){p:Nat}(hp:p<fo.cb.length)(hk:(cbA fo.cb p).kind≠0)(hr:∀i,i<fo.ly.length->z42 (pr (lyA fo.ly i).ps p)=false)
  (hg:∀lv,0<=lv->lv<=fo.ht->z5w fo.ly (cbA fo.cb p).node lv=((cbA fo.cb p).kind==2)):FI {fo with cb:=fo.cb.set p noCb} ls:=by
 have cset:∀q,cbA (fo.cb.set p noCb) q=if q=p then noCb else cbA fo.cb q:=fun q=>by
  split
  ·rename_i e;subst e;exact z4x hp
  rename_i e;exact cbA_set_ne (Qt e)
 refine⟨h.sh.cbs qy,h.inv,fun q hq=> ?_,fun q j hq hj hz=> ?_,fun q j hq hj hz hzz=> ?_,fun q r hq hr1 hz1 hz2 hz3=> ?_,fun y hy hb lv l0 lh=> ?_,fun q hq hz lv l0 lh=> ?_⟩
 ·dsimp only at hq ⊢;rw[qy] at hq;rw[cset]
  split
  ·rfl
  exact h.clm q hq
 ·dsimp only at hq hj hz ⊢;rw[qy] at hq
  by_cases e:q=p
  ·subst e;exact hr j hj
  rw[cset,qc e] at hz;exact h.idl q j hq hj hz
 ·dsimp only at hq hj hz hzz ⊢;rw[qy] at hq;rw[cset] at hz hzz ⊢
  by_cases e:q=p
  ·rw[qe e] at hz;exact absurd rfl hz
  rw[qc e] at hz hzz ⊢;exact h.cur q j hq hj hz hzz
 ·dsimp only at hq hr1 hz1 hz2 hz3;rw[qy] at hq hr1;rw[cset] at hz1 hz2;have e1:q≠p:=fun e=>by rw[qe e] at hz1;exact hz1 rfl
  have e2:r≠p:=fun e=>by rw[qe e] at hz2;exact hz2 rfl
  rw[cset,cset,qc e1,qc e2] at hz3;rw[qc e1] at hz1;rw[qc e2] at hz2;exact h.dis q r hq hr1 hz1 hz2 hz3
 ·dsimp only at hy hb l0 lh ⊢
  by_cases e:y.id=(cbA fo.cb p).node
  ·rw[e,hg lv l0 lh,hg 0 (Jz _) h.sh.h0]
  refine h.lev y hy (z5h.2 fun q hq hz=> ?_) lv l0 lh;have hb1:=z5h.1 hb;rw[qy] at hb1
  by_cases e2:q=p
  ·subst e2;exact fun g=>e g.symm
  have:=hb1 q hq;rw[cset,qc e2] at this;exact this hz
 dsimp only at hq hz l0 lh ⊢;rw[qy] at hq;rw[cset] at hz ⊢;have e1:q≠p:=fun e=>by rw[qe e] at hz;exact hz rfl
 rw[qc e1] at hz ⊢;exact h.low q hq hz lv l0 lh
end
end
section
def sumR (f:Nat->Nat):Nat->Nat
 |0=>0
 |n+1=>sumR f n+f n
def sumR_congr {f g:Nat->Nat}:∀{n:Nat},(∀i,i<n->g i=f i)->sumR g n=sumR f n
 |0,_=>rfl
 |n+1,h=>by rw[sumR,sumR,sumR_congr fun i hi=>h i (by omega),h n (by omega)]
def sumR_le {f g:Nat->Nat}:∀{n:Nat},(∀i,i<n->g i<=f i)->sumR g n<=sumR f n
 |0,_=>qd _
 |n+1,h=>by have:=sumR_le (f:=f) (g:=g) (n:=n) fun i hi=>h i (by omega);have:=h n (by omega);simp only[sumR];omega
def sumR_one {f g:Nat->Nat}{i:Nat}:∀{n:Nat},i<n->(∀j,j<n->j≠i->g j=f j)->sumR g n+f i=sumR f n+g i
 |n+1,hi,h=>by
  simp only[sumR]
  by_cases e:i=n
  ·subst e;rw[sumR_congr (f:=f) (g:=g) fun j hj=>h j (by omega) (by omega)];omega
  have:=sumR_one (n:=n) (by omega) fun j hj hne=>h j (by omega) hne;rw[h n (by omega) (Qt e)];omega
def sumR_add (f g:Nat->Nat):∀n,sumR (fun i=>f i+g i) n=sumR f n+sumR g n
 |0=>rfl
 |n+1=>by simp only[sumR];rw[sumR_add f g n];omega
def actN_sum (ps:List Pr):∀n,actN ps n=sumR (fun i=>(z42 (pr ps i)).toNat) n
 |0=>rfl
 |n+1=>by
  simp only[actN,sumR];rw[actN_sum ps n]
  cases z42 (pr ps n)<;>rfl
def futB (L:List Ly)(c:Cb)(i:Nat):Bool:=decide (plI L c.node (lyA L i).lvl=i) && ((c.kind==1 && decide (c.lvl<(lyA L i).lvl))||(c.kind==2 && decide ((lyA L i).lvl<c.lvl)))
def futN (L:List Ly)(C:List Cb)(i:Nat):Nat:=sumR (fun p=>(futB L (cbA C p) i).toNat) C.length
def rem (ht:Int)(c:Cb):Nat:=(if c.kind=1 then ht-c.lvl else c.lvl).toNat
def wC (ht:Int)(k:Nat)(c:Cb):Nat:=if c.kind=0 then 0 else rem ht c*k+1
def Phi (fo:Fo)(ls:Nat->List Int)(k:Nat):Nat:=sumR (fun i=>phiE (lyA fo.ly i).cs (lyA fo.ly i).ps (ls i) (futN fo.ly fo.cb i)) fo.ly.length+sumR (fun p=>wC fo.ht k (cbA fo.cb p)) fo.cb.length
def busyN (C:List Cb):Nat:=sumR (fun p=>((cbA C p).kind !=0).toNat) C.length
def futB_sk {L L':List Ly}(h:SkEq L L')(c:Cb)(i:Nat):futB L' c i=futB L c i:=by rw[futB,futB,h.plI,h.lvl]
def futN_sk {L L':List Ly}(h:SkEq L L')(C:List Cb)(i:Nat):futN L' C i=futN L C i:=by simp only[futN,futB_sk h]
def futB_kind {L:List Ly}{c:Cb}{i:Nat}(h:futB L c i=true):c.kind≠0:=by
 intro e;simp[futB,e] at h
section
variable {fo:Fo} {ls:Nat->List Int}
def FI.crowd (h:FI fo ls){i:Nat}(hi:i<fo.ly.length):actN (lyA fo.ly i).ps (lyA fo.ly i).ps.length+futN fo.ly fo.cb i<=busyN fo.cb:=by
 rw[(h.sh.at_ i hi).pn,actN_sum,futN,<-sumR_add,busyN];refine sumR_le fun p hp=> ?_
 by_cases hk:(cbA fo.cb p).kind=0
 ·rw[h.idl p i hp hi (.inl hk)]
  cases g:futB fo.ly (cbA fo.cb p) i with
  |false=>simp
  |true=>exact absurd hk (futB_kind g)
 have e:((cbA fo.cb p).kind !=0)=true:=by simpa using hk
 rw[e]
 by_cases hI:plI fo.ly (cbA fo.cb p).node (cbA fo.cb p).lvl=i
 ·obtain⟨x,j,k,hw,ha,_⟩:=h.stands hp hk;have hj:j=i:=by have:=ha.pI;rw[hw.id] at this;omega
  subst hj
  have g:futB fo.ly (cbA fo.cb p) j=false:=by
   unfold futB;rw[ha.lvl];simp
  rw[g]
  cases z42 (pr (lyA fo.ly j).ps p)<;>decide
 rw[h.idl p i hp hi (.inr hI)]
 cases futB fo.ly (cbA fo.cb p) i<;>decide
def Fsh.small (h:Fsh fo){i:Nat}(hi:i<fo.ly.length):(lyA fo.ly i).cs.length<=fo.ns.length+2:=by
 rw[(h.at_ i hi).len];have:=(h.sub hi).length_le;rw[<-(z26 fo.ns).length_eq] at this;omega
def stepsN (fo:Fo)(M:Nat):Nat:=(M+1)*(fo.ns.length+7)+7
def FI.layer_phi (h:FI fo ls){p:Nat}(hp:p<fo.cb.length){i:Nat}(hi:i<fo.ly.length)(ha:z42 (pr (lyA fo.ly i).ps p)=true){ds:List Cl}{y:Pr}(t:Tr (lyA fo.ly i).cs p (pr (lyA fo.ly i).ps p) ds y){l':List Int}(hl:Inv ds ((lyA fo.ly i).ps.set p y) l')(k:Nat):
  Phi {fo with ly:=upL fo.ly i ds ((lyA fo.ly i).ps.set p y)} (fun j=>if j=i then l' else ls j) k+1<=Phi fo ls k:=by
 have hpl:p<(lyA fo.ly i).ps.length:=by rw[(h.sh.at_ i hi).pn];exact hp
 have hsk:=skEq_up hi ds ((lyA fo.ly i).ps.set p y);have h1:=phiE_step (h.inv i hi) hpl ha t hl (futN fo.ly fo.cb i);unfold Phi
 try dsimp only
 rw[z40]
 have h2:=sumR_one (f:=fun j=>phiE (lyA fo.ly j).cs (lyA fo.ly j).ps (ls j) (futN fo.ly fo.cb j)) (g:=fun j=>phiE (lyA (upL fo.ly i ds ((lyA fo.ly i).ps.set p y)) j).cs (lyA (upL fo.ly i ds ((lyA fo.ly i).ps.set p y)) j).ps (if j=i then l' else ls j) (futN (upL fo.ly i ds ((lyA fo.ly i).ps.set p y)) fo.cb j)) hi fun j hj hne=>by
  try dsimp only
  rw[futN_sk hsk,upL_ne (Qt hne),qc hne]
 try dsimp only at h2
 rw[futN_sk hsk,upL_eq hi,qe rfl] at h2
 try dsimp only at h2
 omega
def phiE_mono {cs:List Cl}{ps:List Pr}{l:List Int}{e e':Nat}(h:e<=e'):phiE cs ps l e<=phiE cs ps l e':=by
 unfold phiE;have:=qT (cs.length+5) (qT (actN ps ps.length) h);omega
def FI.finish_phi {p:Nat}(hp:p<fo.cb.length)(hk:(cbA fo.cb p).kind≠0)(k:Nat):Phi {fo with cb:=fo.cb.set p noCb} ls k+1<=Phi fo ls k:=by
 have cset:∀q,cbA (fo.cb.set p noCb) q=if q=p then noCb else cbA fo.cb q:=fun q=>by
  split
  ·rename_i e;subst e;exact z4x hp
  rename_i e;exact cbA_set_ne (Qt e)
 unfold Phi
 try dsimp only
 rw[qy]
 have h1:sumR (fun i=>phiE (lyA fo.ly i).cs (lyA fo.ly i).ps (ls i) (futN fo.ly (fo.cb.set p noCb) i)) fo.ly.length<=sumR (fun i=>phiE (lyA fo.ly i).cs (lyA fo.ly i).ps (ls i) (futN fo.ly fo.cb i)) fo.ly.length:=
  sumR_le fun i _=>phiE_mono (by
   unfold futN;rw[qy];refine sumR_le fun q _=> ?_;rw[cset]
   split
   ·rw[show futB fo.ly noCb i=false by simp[futB,noCb]];exact ql _
   exact qd _)
 have h2:=sumR_one (f:=fun q=>wC fo.ht k (cbA fo.cb q)) (g:=fun q=>wC fo.ht k (cbA (fo.cb.set p noCb) q)) hp fun j _ hne=>by(try dsimp only);rw[cset,qc hne]
 try dsimp only at h2
 rw[cset,qe rfl,show wC fo.ht k noCb=0 from rfl] at h2;have h3:1<=wC fo.ht k (cbA fo.cb p):=by unfold wC;rw[qc hk];omega
 omega
def FI.climb_phi (h:FI fo ls){p:Nat}(hp:p<fo.cb.length)(hk:(cbA fo.cb p).kind≠0)(hr:∀i,i<fo.ly.length->z42 (pr (lyA fo.ly i).ps p)=false){x:Nd}(hw:Works fo (nxC (cbA fo.cb p)) x){M:Nat}(hM:busyN fo.cb<=M):
  Phi {fo with ly:=beginL fo.ly p (nxC (cbA fo.cb p)),cb:=fo.cb.set p (nxC (cbA fo.cb p))} ls (stepsN fo M)+1<=Phi fo ls (stepsN fo M):=by
 obtain⟨c0,hc0⟩:∃c0,cbA fo.cb p=c0:=⟨_,rfl⟩;obtain⟨x0,hw0⟩:=h.works hp hk;rw[hc0] at hw hw0 hk ⊢;obtain⟨c,hc⟩:∃c,nxC c0=c:=⟨_,rfl⟩;have hcn:c.node=c0.node:=by subst hc;unfold nxC;split<;>rfl
 have hck:c.kind=c0.kind:=by subst hc;unfold nxC;split<;>rfl
 have hcl:c.lvl=if c0.kind=1 then c0.lvl+1 else c0.lvl-1:=by subst hc;unfold nxC;split<;>rfl
 rw[hc] at hw ⊢;obtain⟨i,k,a⟩:=h.sh.place hw.mm hw.l0 hw.lh;have hI:=a.pI;have hK:=a.pK;rw[hw.id] at hI hK;have hi:=a.hi;have hpl:p<(lyA fo.ly i).ps.length:=by rw[(h.sh.at_ i hi).pn];exact hp
 unfold beginL;rw[hI,hK,qq];have hst:startP (lyA fo.ly i).cs (lyA fo.ly i).ps (p:Int) c.kind ((k:Int)+2)=(lyA fo.ly i).ps.set p ⟨c.kind,(k:Int)+2,1,0,(cl (lyA fo.ly i).cs 0).right,0,false⟩:=by rw[startP,qq]
 rw[hst];obtain⟨qs,hqs⟩:∃qs,(lyA fo.ly i).ps.set p ⟨c.kind,(k:Int)+2,1,0,(cl (lyA fo.ly i).cs 0).right,0,false⟩=qs:=⟨_,rfl⟩;rw[hqs];have hsk:=skEq_up hi (lyA fo.ly i).cs qs
 have cset:∀q,cbA (fo.cb.set p c) q=if q=p then c else cbA fo.cb q:=fun q=>by
  split
  ·rename_i e;subst e;exact z4x hp
  rename_i e;exact cbA_set_ne (Qt e)
 have fut1:futB fo.ly c0 i=true:=by
  unfold futB;rw[a.lvl,<-hcn,hI,hcl];have:=hw0.k;rcases this with g|g<;>simp[g]<;>omega
 have fut2:futB fo.ly c i=false:=by
  unfold futB;rw[a.lvl];simp
 have fut3:∀j,j<fo.ly.length->j≠i->futB fo.ly c j=futB fo.ly c0 j:=fun j hj hne=>by
  unfold futB;rw[hcn,hck]
  by_cases g:plI fo.ly c0.node (lyA fo.ly j).lvl=j
  ·have g2:(lyA fo.ly j).lvl≠c.lvl:=fun e=>by rw[e,<-hcn,hI] at g;omega
   rw[hcl] at g2 ⊢;rcases hw0.k with e|e
   ·rw[qe e] at g2 ⊢;rw[e];simp only[jD,qL];rw[show decide (c0.lvl+1<(lyA fo.ly j).lvl)=decide (c0.lvl<(lyA fo.ly j).lvl) by rw[Je];omega]
    rfl
   rw[qc (by omega)] at g2 ⊢;rw[e];simp only[jD,qL];rw[show decide ((lyA fo.ly j).lvl<c0.lvl-1)=decide ((lyA fo.ly j).lvl<c0.lvl) by rw[Je];omega]
   rfl
  rw[qG g];rfl
 have futs:∀j,futN (upL fo.ly i (lyA fo.ly i).cs qs) (fo.cb.set p c) j+(futB fo.ly c0 j).toNat=futN fo.ly fo.cb j+(futB fo.ly c j).toNat:=fun j=>by
  rw[futN_sk hsk];unfold futN;rw[qy];have:=sumR_one (f:=fun q=>(futB fo.ly (cbA fo.cb q) j).toNat) (g:=fun q=>(futB fo.ly (cbA (fo.cb.set p c) q) j).toNat) hp fun q _ hne=>by(try dsimp only);rw[cset,qc hne]
  try dsimp only at this
  rw[cset,qe rfl,hc0] at this;exact this
 have fi:=futs i;rw[fut1,fut2] at fi;simp only[Bool.toNat_true,Bool.toNat_false,ja] at fi;have hcrowd:=h.crowd hi;have hlen:=h.sh.small hi;have hphi:=phiE_start (h.inv i hi) hpl (hr i hi) (k:=c.kind) (c:=(k:Int)+2) hw.k (futN (upL fo.ly i (lyA fo.ly i).cs qs) (fo.cb.set p c) i);rw[hqs,fi] at hphi;unfold Phi
 try dsimp only
 rw[z40,qy]
 have h2:=sumR_one (f:=fun j=>phiE (lyA fo.ly j).cs (lyA fo.ly j).ps (ls j) (futN fo.ly fo.cb j)) (g:=fun j=>phiE (lyA (upL fo.ly i (lyA fo.ly i).cs qs) j).cs (lyA (upL fo.ly i (lyA fo.ly i).cs qs) j).ps (ls j) (futN (upL fo.ly i (lyA fo.ly i).cs qs) (fo.cb.set p c) j)) hi fun j hj hne=>by
  try dsimp only
  have:=futs j;rw[fut3 j hj hne] at this;rw[upL_ne (Qt hne),show futN (upL fo.ly i (lyA fo.ly i).cs qs) (fo.cb.set p c) j=futN fo.ly fo.cb j by omega]
 have h3:=sumR_one (f:=fun q=>wC fo.ht (stepsN fo M) (cbA fo.cb q)) (g:=fun q=>wC fo.ht (stepsN fo M) (cbA (fo.cb.set p c) q)) hp fun j _ hne=>by(try dsimp only);rw[cset,qc hne]
 try dsimp only at h2 h3
 rw[upL_eq hi] at h2
 try dsimp only at h2
 rw[cset,qe rfl,hc0] at h3;have hck':c.kind≠0:=by rw[hck];exact hk
 have w0:wC fo.ht (stepsN fo M) c0=wC fo.ht (stepsN fo M) c+stepsN fo M:=by
  unfold wC;rw[qc hk,qc hck']
  have:rem fo.ht c0=rem fo.ht c+1:=by
   unfold rem;rw[hck,hcl];have:=hw0.l0;have:=hw0.lh;have:=hw.l0;have:=hw.lh;rw[hcl] at*;rcases hw0.k with g|g
   ·rw[qe g] at*;rw[qe g];omega
   rw[qc (by omega)] at*;rw[qc (by omega)];omega
  rw[this,qV,ju];omega
 have hb:(actN (lyA fo.ly i).ps (lyA fo.ly i).ps.length+futN (upL fo.ly i (lyA fo.ly i).cs qs) (fo.cb.set p c) i)*((lyA fo.ly i).cs.length+5)+(lyA fo.ly i).cs.length+9+1<=stepsN fo M:=by
  have g1:=j9 (show actN (lyA fo.ly i).ps (lyA fo.ly i).ps.length+futN (upL fo.ly i (lyA fo.ly i).cs qs) (fo.cb.set p c) i<=M by omega) (show(lyA fo.ly i).cs.length+5<=fo.ns.length+7 by omega);have:stepsN fo M=M*(fo.ns.length+7)+fo.ns.length+14:=by unfold stepsN;rw[qV,ju];omega
  omega
 omega
end
end
section
def lvlL (ns:List Nd)(h:Nat):List (Int×List Int):=(List.range (h+1)).flatMap fun(n:Nat)=>(lstN ns (n:Int)).map fun ids=>((n:Int),ids)
def lvA (S:List (Int×List Int))(i:Nat):Int×List Int:=S.getD i (0,[])
def shpB (ns:List Nd)(x:Ly)(lv:Int)(ids:List Int):Bool:=
 x.lvl==lv && decide (x.ids=ids) && decide (x.cs.length=ids.length+2) && !anyB ids.length fun i=>(!sEq (cl x.cs (i+2)).key (z3s ns (nth ids i)).key)||(decide (i=0) && x.wd !=(z3s ns (nth ids i)).word)
def headF (fo:Fo):Bool:=(z1t fo.ns !=0)||decide (fo.ht<0)||decide (16<fo.ht)||decide ((fo.cb.length:Int)<1)||decide (8<(fo.cb.length:Int))
def z5v (fo:Fo):Bool:=
 !headF fo && decide (fo.ly.length=(lvlL fo.ns fo.ht.toNat).length) && !anyB fo.ly.length (fun i=> !shpB fo.ns (lyA fo.ly i) (lvA (lvlL fo.ns fo.ht.toNat) i).1 (lvA (lvlL fo.ns fo.ht.toNat) i).2)
  && !anyB fo.ly.length (fun i=> !z1y (lyA fo.ly i).cs (lyA fo.ly i).ps||decide ((lyA fo.ly i).ps.length≠fo.cb.length)) && !anyB fo.cb.length fun p=> !cbOk fo.ns fo.ht (cbA fo.cb p)
def lvlL_eq {ns:List Nd}(hc:z1t ns=0){h:Nat}(h16:h<=16):lvlL ns h=(z37 ns h).map fun s=>(s.1,s.2.map (·.id)):=by
 unfold lvlL z37;rw[List.map_flatMap]
 have:∀l:List Nat,(∀n∈l,n<=16)->l.flatMap (fun(n:Nat)=>(lstN ns (n:Int)).map fun ids=>((n:Int),ids))=l.flatMap fun(n:Nat)=>((z54 (z4w ns) (n:Int)).map fun c=>((n:Int),c)).map fun s=>(s.1,s.2.map (·.id)):=fun l=>by
  induction l with
  |nil=>intro _;rfl
  |cons n l ih=>
   intro hl;rw[JW,JW,ih fun m hm=>hl m (qp _ hm),lstN,qe ⟨hc,by omega,by have:=hl n (qo ..);omega⟩,lstG];simp[j8,Function.comp_def]
 exact this _ fun n hn=>by rw[Qu] at hn;omega
def findN_at {ns:List Nd}(hc:z1t ns=0){x:Nd}(hx:x∈ns):z3s ns x.id=x:=by
 obtain⟨i,hi,rfl⟩:=Qk hx;have hd:=ids_nodup hc;have h0:=findI_of hx
 obtain⟨j,hj,e,hjx⟩:∃j:Nat,j<ns.length/\findI ns (ns[i]).id=j/\(nd ns j).id=(ns[i]).id:=by
  rcases z3j ns.length fun q=>decide ((nd ns q).id=(ns[i]).id) with⟨h1,_⟩|⟨j,h1,h2,h3,_⟩
  ·unfold findI at h0;omega
  exact⟨j,h2,h1,jO h3⟩
 rw[z3s,e,qc (by omega),qq];exact ids_inj hc (nd_mem hj) hx hjx
structure FV (fo:Fo):Prop where
 sh:Fsh fo
 vb:∀i,i<fo.ly.length->z1y (lyA fo.ly i).cs (lyA fo.ly i).ps=true
 cb:∀p,p<fo.cb.length->cbOk fo.ns fo.ht (cbA fo.cb p)=true
def shpB_iff {ns:List Nd}(hc:z1t ns=0){x:Ly}{lv:Int}{c:List Nd}(hs:∀y∈c,y∈ns)(hne:c≠[]):shpB ns x lv (c.map (·.id))=true↔x.lvl=lv/\x.ids=c.map (·.id)/\x.cs.length=c.length+2/\(∀k,k<c.length->(cl x.cs (k+2)).key=(nd c k).key)/\x.wd=(hdN c).word:=by
 have hf:∀k,k<c.length->z3s ns (nth (c.map (·.id)) k)=nd c k:=fun k hk=>by
  rw[z30 (by rw[qx];exact hk),jA,z4z hk];exact findN_at hc (hs _ (qK hk))
 have hl:0<c.length:=by cases c with
  |nil=>exact absurd rfl hne
  |cons _ _=>exact QW _
 rw[shpB];simp only[qj,qD,qm,qn,anyB_iff,qx,qk,qr,z5l,qC,qF]
 constructor
 ·rintro⟨⟨⟨h1,h2⟩,h3⟩,h4⟩;refine⟨h1,h2,h3,fun k hk=> ?_,?_⟩
  ·have:=(h4 k hk).1;rw[hf k hk] at this;exact this
  have:=(h4 0 hl).2 rfl;rw[hf 0 hl] at this;exact this
 rintro⟨h1,h2,h3,h4,h5⟩;refine⟨⟨⟨h1,h2⟩,h3⟩,fun k hk=>⟨by rw[hf k hk];exact h4 k hk,fun e=> ?_⟩⟩;subst e;rw[hf 0 hk];exact h5
def headF_false {fo:Fo}:headF fo=false↔z1t fo.ns=0/\(0<=fo.ht/\fo.ht<=16)/\1<=fo.cb.length/\fo.cb.length<=8:=by
 simp only[headF,qk,qg,qF];omega
def lvA_eq {ns:List Nd}(hc:z1t ns=0){h:Nat}(h16:h<=16){i:Nat}(hi:i<(z37 ns h).length):lvA (lvlL ns h) i=((shA (z37 ns h) i).1,(shA (z37 ns h) i).2.map (·.id)):=by
 rw[lvlL_eq hc h16,shA_lt hi,lvA,qw,qJ (by rw[qx];exact hi)];simp
def shpL_sub {ns:List Nd}{h:Nat}(h16:h<=16){i:Nat}(hi:i<(z37 ns h).length):(∀y∈(shA (z37 ns h) i).2,y∈ns)/\(shA (z37 ns h) i).2≠[]:=by
 rw[shA_lt hi];obtain⟨n,h1,h2,h3⟩:=mem_shpL.1 (qK (l:=z37 ns h) (n:=i) hi);exact⟨fun y hy=>(z26 ns).mem_iff.2 ((cls_sub (by omega) h3).subset hy),(clsN_ok (by omega) _).1.ne _ h3⟩
def FV.vf {fo:Fo}:FV fo->z5v fo=true:=by
 rintro⟨h,hv,hc⟩;simp only[z5v,qj,qn,qm,headF_false];have h16:fo.ht.toNat<=16:=by have:=h.h16;omega
 refine⟨⟨⟨⟨⟨h.ck,⟨h.h0,h.h16⟩,h.m1,h.m8⟩,?_⟩,?_⟩,?_⟩,?_⟩
 ·rw[lvlL_eq h.ck h16,qx];exact h.len
 ·rw[anyB_iff];intro i hi;have hi':i<(z37 fo.ns fo.ht.toNat).length:=by rw[<-h.len];exact hi
  obtain⟨s1,s2⟩:=shpL_sub h16 hi';have hA:=h.at_ i hi;rw[lvA_eq h.ck h16 hi',qr,shpB_iff h.ck s1 s2];exact⟨hA.lvl,hA.ids,hA.len,hA.key,hA.wd⟩
 ·rw[anyB_iff];intro i hi;rw[hv i hi,(h.at_ i hi).pn];simp
 rw[anyB_iff];intro p hp;rw[hc p hp];rfl
def FI.vf {fo:Fo}{ls:Nat->List Int}(h:FI fo ls):z5v fo=true:=FV.vf ⟨h.sh,fun i hi=>(h.inv i hi).vb,h.clm⟩
def inC (C:List Cb)(p:Int):Bool:= !(decide (p<0)||decide ((C.length:Int)<=p))
def begC (ht kind id:Int):Cb:=⟨kind,id,if kind=2 then ht else 0⟩
def z1n (fo:Fo)(p kind id:Int):Int:=
 if !z5v fo then 1 else if !inC fo.cb p then 2 else if findI fo.ns id<0 then 6 else if kind≠1/\kind≠2 then 1 else if(cbA fo.cb p.toNat).kind≠0 then 7
 else if busyF fo.cb id then 13 else if kind=1/\memF fo.ly id 0=true then 5 else if kind=2/\memF fo.ly id 0=false then 18 else beginE fo.ly p (begC fo.ht kind id)
def z12 (fo:Fo)(p kind id:Int):Fo:=if z1n fo p kind id=0 then {fo with ly:=beginL fo.ly p (begC fo.ht kind id),cb:=fo.cb.set p.toNat (begC fo.ht kind id)} else noFo
def curI (fo:Fo)(p:Int):Nat:=(plI fo.ly (cbA fo.cb p.toNat).node (cbA fo.cb p.toNat).lvl).toNat
def endB (fo:Fo)(p:Int):Bool:=(pr (lyA fo.ly (curI fo p)).ps p.toNat).phase==18
def outB (ht:Int)(c:Cb):Bool:=decide (c.lvl<0)||decide (ht<c.lvl)
def z6a (fo:Fo)(p:Int):Bool:=
 z5v fo && (inC fo.cb p && (cbA fo.cb p.toNat).kind !=0) && (if endB fo p then outB fo.ht (nxC (cbA fo.cb p.toNat))||beginE fo.ly p (nxC (cbA fo.cb p.toNat))==0 else z5u (lyA fo.ly (curI fo p)).cs (lyA fo.ly (curI fo p)).ps p)
def z27 (fo:Fo)(p:Int):Fo:=
 if !z5v fo then noFo else if z6a fo p then
  (if endB fo p then(if outB fo.ht (nxC (cbA fo.cb p.toNat)) then {fo with cb:=fo.cb.set p.toNat noCb} else {fo with ly:=beginL fo.ly p (nxC (cbA fo.cb p.toNat)),cb:=fo.cb.set p.toNat (nxC (cbA fo.cb p.toNat))})
   else {fo with ly:=upL fo.ly (curI fo p) (stepR (lyA fo.ly (curI fo p)).cs (lyA fo.ly (curI fo p)).ps p).1 (stepR (lyA fo.ly (curI fo p)).cs (lyA fo.ly (curI fo p)).ps p).2}) else fo
section
variable {fo:Fo} {ls:Nat->List Int}
def memF_at {x:Nd}{lv:Int}{i k:Nat}(a:At fo x lv i k):memF fo.ly x.id lv= !gn (lyA fo.ly i).cs (k+2):=by
 rw[memF,a.pI,a.gone,qB (by omega),qL]
def memF_gone (h:Fsh fo){x:Nd}(hx:x∈fo.ns){lv:Int}(l0:0<=lv)(lh:lv<=fo.ht):memF fo.ly x.id lv= !z5w fo.ly x.id lv:=by
 obtain⟨i,k,a⟩:=h.place hx l0 lh;rw[memF_at a,a.gone]
def inC_iff {C:List Cb}{p:Int}:inC C p=true↔0<=p/\p<C.length:=by
 simp only[inC,qn,qk,qg];omega
structure Sok (fo:Fo) (p kind id:Int) (x:Nd):Prop where
 p0:0<=p
 pl:p.toNat<fo.cb.length
 k:kind=1\/kind=2
 mm:x∈fo.ns
 ide:x.id=id
 idle:(cbA fo.cb p.toNat).kind=0
 free:busyF fo.cb id=false
 mem:memF fo.ly id 0=(kind==2)
def FI.sok (h:FI fo ls){p kind id:Int}(he:z1n fo p kind id=0):∃x,Sok fo p kind id x:=by
 unfold z1n at he;rw[h.vf] at he;simp only[qS,qz,Ql] at he
 split at he
 ·cases he
 rename_i h1
 split at he
 ·cases he
 rename_i h2
 split at he
 ·cases he
 rename_i h3
 split at he
 ·cases he
 rename_i h4
 split at he
 ·cases he
 rename_i h5
 split at he
 ·cases he
 rename_i h6
 split at he
 ·cases he
 rename_i h7;have h1:inC fo.cb p=true:=by simpa using h1
 rw[inC_iff] at h1;obtain⟨x,hx,hxi⟩:=findI_mem (by omega:0<=findI fo.ns id);refine⟨x,h1.1,by omega,by omega,hx,hxi,by omega,by simpa using h5,?_⟩
 cases hm:memF fo.ly id 0 with
 |true=>
  have:kind≠1:=fun e=>h6 ⟨e,hm⟩;have:kind=2:=by omega
  subst this;rfl
 |false=>
  have:kind≠2:=fun e=>h7 ⟨e,hm⟩
  symm;simpa using this
def FI.start_begin (h:FI fo ls){p kind id:Int}{x:Nd}(s:Sok fo p kind id x):beginE fo.ly p (begC fo.ht kind id)=0/\FI {fo with ly:=beginL fo.ly p (begC fo.ht kind id),cb:=fo.cb.set p.toNat (begC fo.ht kind id)} ls:=by
 have h0:=h.sh.h0;have hp:((p.toNat:Nat):Int)=p:=by have:=s.p0;omega
 have hfree:=z5h.1 s.free;have hm:=memF_gone h.sh s.mm (Jz 0) h0;rw[s.ide,s.mem] at hm
 have hlev:∀lv,0<=lv->lv<=fo.ht->z5w fo.ly id lv=(kind==1):=fun lv l0 lh=>by
  have:=h.lev x s.mm (by rw[s.ide];exact s.free) lv l0 lh;rw[s.ide] at this;rw[this];rcases s.k with e|e<;>subst e<;>cases g:z5w fo.ly id 0<;>simp_all
 have hb:(begC fo.ht kind id).kind=kind:=rfl;have hbn:(begC fo.ht kind id).node=id:=rfl;have hbl:(begC fo.ht kind id).lvl=if kind=2 then fo.ht else 0:=rfl
 have:=h.begin (p:=p.toNat) s.pl (fun i hi=>h.idl p.toNat i s.pl hi (.inl s.idle)) (c:=begC fo.ht kind id) (x:=x)
  ⟨s.k,s.mm,s.ide,by rw[hbl];split<;>omega,by rw[hbl];split<;>omega⟩ (fun q hq _ hk=>hfree q hq hk) (fun e=>absurd s.idle e)
  (hlev _ (by rw[hbl];split<;>omega) (by rw[hbl];split<;>omega))
  (fun lv l0 lh=>by
   rw[hbl,hbn,hlev lv l0 lh];rcases s.k with e|e<;>subst e
   ·rw[qc (by decide)];exact⟨fun g=>by omega,fun _=>rfl⟩
   rw[qe rfl];exact⟨fun _=>rfl,fun g=>by omega⟩)
 rw[hp] at this;exact this
def FI.start (h:FI fo ls){p kind id:Int}(he:z1n fo p kind id=0):FI (z12 fo p kind id) ls:=by
 obtain⟨x,s⟩:=h.sok he;rw[z12,qe he];exact(h.start_begin s).2
def FI.step (h:FI fo ls){p:Int}(hs:z6a fo p=true){M:Nat}(hM:busyN fo.cb<=M):∃ls',FI (z27 fo p) ls'/\Phi (z27 fo p) ls' (stepsN fo M)+1<=Phi fo ls (stepsN fo M):=by
 have hs0:=hs;unfold z6a at hs;rw[h.vf,qL,qj,qj,inC_iff,Qi] at hs;obtain⟨⟨⟨p0,pl⟩,hk⟩,hs⟩:=hs;have hp:p.toNat<fo.cb.length:=by omega
 have hpp:((p.toNat:Nat):Int)=p:=by omega
 unfold z27;rw[h.vf,hs0];simp only[qS,qz,Ql,q9];obtain⟨x,i,k,hw,ha,hc1,hc2,hc3,hc4⟩:=h.stands hp hk;have hI:=ha.pI;rw[hw.id] at hI;have hcur:curI fo p=i:=by rw[curI,hI,qq]
 by_cases he:endB fo p=true
 ·rw[qe he] at hs;rw[qe he];rw[endB,hcur,qD] at he
  have hrest:=h.rest hp fun j _ hj=>by
   have:j=i:=by omega
   subst this;exact he
  have hlow:=h.low p.toNat hp hk;have hgn:=ha.gone;rw[hw.id] at hgn;have hnn:(nxC (cbA fo.cb p.toNat)).node=(cbA fo.cb p.toNat).node:=by unfold nxC;split<;>rfl
  have hnk:(nxC (cbA fo.cb p.toNat)).kind=(cbA fo.cb p.toNat).kind:=by unfold nxC;split<;>rfl
  have hnl:(nxC (cbA fo.cb p.toNat)).lvl=if(cbA fo.cb p.toNat).kind=1 then(cbA fo.cb p.toNat).lvl+1 else(cbA fo.cb p.toNat).lvl-1:=by unfold nxC;split<;>rfl
  have hl0:=hw.l0;have hlh:=hw.lh
  have here:z5w fo.ly (cbA fo.cb p.toNat).node (cbA fo.cb p.toNat).lvl=((cbA fo.cb p.toNat).kind==2):=by
   rw[hgn];rcases hw.k with e|e
   ·have:=hc4.i2 (by rw[hc2,e]) (by omega);rw[hc1] at this;rw[this,e];rfl
   have:=hc4.r2 (by rw[hc2,e]) (by omega);rw[hc1] at this;rw[this,e];rfl
  by_cases ho:outB fo.ht (nxC (cbA fo.cb p.toNat))=true
  ·rw[qe ho];rw[outB,qt,qm,qm,hnl] at ho;refine⟨ls,h.finish hp hk hrest fun lv l0 lh=> ?_,FI.finish_phi hp hk _⟩
   by_cases e:lv=(cbA fo.cb p.toNat).lvl
   ·rw[e];exact here
   have:=hlow lv l0 lh;rcases hw.k with e1|e1
   ·rw[qe e1] at ho;rw[this.1 (by omega),e1];rfl
   rw[qc (by omega)] at ho;rw[this.2 (by omega),e1];rfl
  rw[qc ho];have ho:outB fo.ht (nxC (cbA fo.cb p.toNat))=false:=by simpa using ho
  rw[outB,qk,qg,qg] at ho;have hwn:Works fo (nxC (cbA fo.cb p.toNat)) x:=⟨by rw[hnk];exact hw.k,hw.mm,by rw[hnn];exact hw.id,by omega,by omega⟩
  have hb:=h.begin hp hrest hwn (fun q hq hne hkq e=>hne (h.dis q p.toNat hq hp hkq hk (by rw[e,hnn]))) (fun _=>hnn.symm)
   (by
    rw[hnn,hnk];have:=hlow (nxC (cbA fo.cb p.toNat)).lvl (by omega) (by omega);rw[hnl] at*;rcases hw.k with e1|e1
    ·rw[qe e1] at*;rw[this.2 (by omega),e1];rfl
    rw[qc (by omega)] at*;rw[this.1 (by omega),e1];rfl)
   (fun lv l0 lh=>by
    have g:=hlow lv l0 lh;rw[hnn,hnl];rcases hw.k with e1|e1
    ·rw[qe e1];refine⟨fun g1=> ?_,fun g1=>g.2 (by omega)⟩
     by_cases e:lv=(cbA fo.cb p.toNat).lvl
     ·rw[e,here,e1];rfl
     exact g.1 (by omega)
    rw[qc (by omega)];refine⟨fun g1=>g.1 (by omega),fun g1=> ?_⟩
    by_cases e:lv=(cbA fo.cb p.toNat).lvl
    ·rw[e,here,e1];rfl
    exact g.2 (by omega))
  have hf:=h.climb_phi hp hk hrest hwn hM;rw[hpp] at hb hf;exact⟨ls,hb.2,hf⟩
 rw[qc he] at hs;rw[qc he];rw[hcur] at hs ⊢;have hinv:=h.inv i ha.hi
 have hq:goesB (lyA fo.ly i).ps p=true:=by
  rw[goesB,(h.sh.at_ i ha.hi).pn,qn,qk,qg,qg];omega
 have hr:stepR (lyA fo.ly i).cs (lyA fo.ly i).ps p=(z1c (lyA fo.ly i).cs p.toNat (pr (lyA fo.ly i).ps p.toNat),(lyA fo.ly i).ps.set p.toNat (z1d (lyA fo.ly i).cs (pr (lyA fo.ly i).ps p.toNat))):=by
  rw[z5u,hinv.vb,qL] at hs;rw[stepR,hinv.vb,hs];rfl
 rw[z5u,hinv.vb,qL,hq,qL] at hs;rw[hr];have t:=Tr.of (p:=p.toNat) hs;have hact:=step_act hs;obtain⟨l',hi,hl',hF,_⟩:=h.layer hp hk hI hact t;exact⟨_,hF,h.layer_phi hp hi hact t hl' _⟩
end
end
section
def lyB (L:List Ly):Prop:=L.length<=1000000/\∀i,(lyA L i).ids.length<=1000000/\(lyA L i).cs.length<=1000000/\(lyA L i).ps.length<=1000000
def idI_lt (ids:List Int)(v:Int): -1<=idI ids v/\idI ids v<ids.length:=by
 rcases z3j ids.length fun q=>decide (nth ids q=v) with⟨h,_⟩|⟨j,h1,h2,_⟩<;>unfold idI<;>omega
def indexM_spec (L:List Ly)(hb:lyB L)(i k:Nat)(hi:i<k)(v:Int):
  zj prog 121 [.slc false 0 (3*i+1) 0 (lyA L i).ids.length,.int .i64 v] ⟨1,[(0,(3*k+1,fam false 3 1 (lyF false L)))]⟩ (fun s H1=>s= .int .i64 (idI (lyA L i).ids v)/\H1=⟨1,[]⟩):=by
 refine(lyId L i k hi (index_spec (lyA L i).ids v _ rfl (hb.2 i).1) (by simp[SV.ltL,SV.lt]) fun π=>rfl).imp ?_;rintro s H' ⟨s0,H0',⟨rfl,rfl⟩,rfl,rfl⟩;exact⟨rfl,rfl⟩
def ec34:=aj3 @Tryz.tyLy @Tryz.tyCb @Tryz.tyFo
def ec35:=aj9 @Tryz.szLy @Tryz.zLy @Tryz.tyLys @Tryz.szLys @Tryz.szCb @Tryz.zCb @Tryz.tyCbs @Tryz.szCbs (aj5 @Tryz.szFo @Tryz.zFo @lyF_0 @lyF_1 @lyF_2)
def ec36:=aj @lyR_ap @cbs_ap
def JnNm.exE:=aj9 @z11 @zd @zf @zo @zh @zx @z10 ec2 (aj9 @zg @zp @zm @zi z58 @zn z3g z3w (aj9 @zq ec3 ec5 @z1a.eq_1 @zu.eq_1 @ints.eq_1 ec34 ec35 ec36))
def ec37:=aj7 @cbs_ren' @cbs_lt @lyR_ren' @z67 @lyF_gives @z4i @lyF_fown
def JnNm.gxE:=aj9 @z11 z3g ec16 z3w ec3 ec7 ec8 @z1a.eq_1 (aj6 @zu.eq_1 @z20 @z1u ec37 ec26 ec29)
def ec38:=aj3 @cbs_ren @lyR_ren @lyF_ren
def JnNm.axE:=aj9 @z11 @zd @zf @zo @zh @zx @z10 ec2 (aj9 @zg @zp @zm @zi z58 @zn z3g z3w (aj9 @zq ec3 ec5 @z1a.eq_1 @zu.eq_1 ec34 ec35 @z1p (aj5 @z21 @z2j @z2r ec38 @z38)))
def JnNm.oxE:=aj @zq ec34
open JnNm (gxE axE oxE exE)
open D0 (sdE)
def place_spec (L:List Ly)(hb:lyB L)(k n m:Nat)(hk:L.length=k)(ht v lv:Int):
  zj prog 80 [.agg [.slc false 0 0 0 n,.int .i64 ht,.slc false 1 0 0 k,.slc false 3 0 0 m],.int .i64 v,.int .i64 lv] ⟨4,[(1,rI 89 5 k (lyR 2 L)),(2,(3*k+1,fam false 3 1 (lyF false L)))]⟩
   (fun s H1=>s= .tup [.int .i64 (plI L v lv),.int .i64 (plK L v lv)]/\H1=⟨4,[]⟩):=by
 subst hk;have hlen:=hb.1;refine Zf false 35 [.tmp 6,.tmp 7] func80 ntmps80 results80 fun w0 own0 β0 Q hQ hQn=> ?_;refine Zrs [1,2,3] (z6 ?_);refine Zrs [1,2,12,13,14] ?_;refine z8 fun Q0 hN0 hX0 hR0 hE0=> ?_;refine zl (σ:=Nat) (fun i=>i<=L.length/\∀q,q<i->plP L v lv q=false) (fun i=>L.length-i) (fun i=>[(1,.int .i64 v),(2,.int .i64 lv),(12,.slc false 1 0 0 L.length),(13,.int .i64 L.length),(14,.int .i64 i)]) (fun _=>⟨4,[(1,rI 89 5 L.length (lyR 2 L)),(2,(3*L.length+1,fam false 3 1 (lyF false L)))]⟩) 0 ⟨ql _,fun q h=>by omega⟩ (ρ:=id) (Zg id) ?_;rintro i hi QL1 hL1 hRL1 hEL1;refine Zrs [1,2,12,13,14,15] (z6 ?_);refine Zcn ?_ ?_
 ·intro h15;obtain⟨hi1,hi2⟩:=hi;refine z7 (z6 ?_);refine z8 fun Q1 hN1 hX1 hR1 hE1=> ?_;refine Zrs [1,2,8,9,12,13,14] ?_;refine sg [1,2,8,9,10,12,13,14] rfl ?_;intro K hK;iterate 3 (refine Zo Zl ?_)
  refine Zd Zl (indexM_spec L hb i L.length (by omega) v) (fun q=>if q=0 then 2 else q) ?_;refine Zkl hK ?_;clear hK K;refine Zrs [1,2,8,10,12,13,14,30] ?_;refine Zcm ?_ ?_
  ·intro h30;have h30':plP L v lv i=true:=h30;have hil:=(idI_lt (lyA L i).ids v).2;have hib:=(hb.2 i).1;refine Zrs [6,7] (zb (hR1 _ _ (hRL1 _ _ (hR0 _ _ (hQ _ _ ?_)))));have hI:plI L v lv=i:=idxB_at h30' (by omega) hi2;refine Zob ⟨4,[]⟩ ?_;rw[show plK L v lv=idI (lyA L i).ids v+2 by rw[plK,hI,qc (by omega),qq],hI];exact⟨rfl,by trivial⟩
  intro h30;have h30':plP L v lv i=false:=h30;refine z7 (za (hN1 _ _ (Zrg [1,2,12,13,14] (za (hL1 _ _ ?_)))));rw[iS i];refine⟨i+1,⟨⟨by omega,fun q hq=> ?_⟩,by omega⟩,id,(Zg id)⟩
  by_cases e:q=i
  ·subst e;exact h30'
  exact hi2 q (by omega)
 intro h15;obtain⟨hi1,hi2⟩:=hi;refine zk (hEL1 _ _ _ (hX0 _ _ (Zrs [6,7] (zb (hQ _ _ ?_)))));have hI:plI L v lv= -1:=z64 fun q hq=>hi2 q (by omega);refine Zob ⟨4,[]⟩ ?_;rw[show plK L v lv=0 by rw[plK,hI];rfl,hI];exact⟨rfl,by trivial⟩
end
section
def lyC (L:List Ly):Prop:=∀i,i<L.length->(lyA L i).cs.length=(lyA L i).ids.length+2
def plI_lt (L:List Ly)(v lv:Int): -1<=plI L v lv/\plI L v lv<L.length:=by
 rcases z3j L.length (plP L v lv) with⟨h,_⟩|⟨j,h1,h2,_⟩<;>unfold plI<;>omega
def plI_at {L:List Ly}{v lv:Int}(h:0<=plI L v lv):∃i:Nat,i<L.length/\plI L v lv=i/\(lyA L i).lvl=lv/\∃k:Nat,k<(lyA L i).ids.length/\plK L v lv=k+2/\nth (lyA L i).ids k=v:=by
 rcases z3j L.length (plP L v lv) with⟨h1,_⟩|⟨j,h1,h2,h3,_⟩
 ·unfold plI at h;omega
 rw[plP,qj,qD,qm] at h3;obtain⟨k,k1,k2,k3⟩:=idI_mem h3.2;have hI:plI L v lv=j:=h1;exact⟨j,h2,hI,h3.1,k,k1,by rw[plK,hI,qc (by omega),qq,k2],k3⟩
def plK_in {L:List Ly}(hc:lyC L){v lv:Int}(h:0<=plI L v lv):(plI L v lv).toNat<L.length/\2<=plK L v lv/\plK L v lv<(lyA L (plI L v lv).toNat).cs.length:=by
 obtain⟨i,h1,h2,h3,k,k1,k2,k3⟩:=plI_at h;rw[h2,k2,qq,hc i h1];omega
open JnNm (gxE axE oxE exE)
open D0 (sdE)
def member_spec (L:List Ly)(hb:lyB L)(hc:lyC L)(k n m:Nat)(hk:L.length=k)(ht v lv:Int):
  zj prog 61 [.agg [.slc false 0 0 0 n,.int .i64 ht,.slc false 1 0 0 k,.slc false 3 0 0 m],.int .i64 v,.int .i64 lv] ⟨4,[(1,rI 89 5 k (lyR 2 L)),(2,(3*k+1,fam false 3 1 (lyF false L)))]⟩
   (fun s H1=>s= .bool (memF L v lv)/\H1=⟨4,[]⟩):=by
 subst hk;have hlen:=hb.1;have hin:=plK_in (L:=L) hc (v:=v) (lv:=lv);have hI:=plI_lt L v lv;refine Zf false 32 [.tmp 6] func61 ntmps61 results61 fun w0 own0 β0 Q hQ hQn=> ?_;refine Zrs [1,2,3] ?_;refine sg [3,7,8] rfl ?_;intro K hK;iterate 3 (refine Zo Zl ?_)
 refine Zd Zl (place_spec L hb L.length n m rfl ht v lv) (id) ?_;refine Zkl hK ?_;clear hK K;refine z6 ?_;obtain⟨i,hi⟩:∃i,plI L v lv=i:=⟨_,rfl⟩;obtain⟨c,hcc⟩:∃c,plK L v lv=c:=⟨_,rfl⟩;rw[hi,hcc] at hin;rw[hi] at hI;rw[hi,hcc];refine Zrg [6] (zb (hQ _ _ ?_));refine Zob ⟨4,[]⟩ ?_;rw[memF,z5w,hi,hcc]
 first|trivial|exact⟨rfl,trivial⟩
end
section
open JnNm (gxE axE oxE exE)
open D0 (sdE)
def inClone_spec (xs:List Int)(n:Nat)(hn:xs.length=n)(hx:n<=1000000):
  zj prog 99 [.slc false 0 0 0 n] ⟨1,[(0,rI 3 1 n (ints xs))]⟩
   (fun s H1=>s= .slc true 1 0 0 n/\H1=⟨2,[(1,rO 3 1 n (ints xs))]⟩):=by
 refine Zf false 8 [.tmp 2] func99 ntmps99 results99 fun w0 own0 β0 Q hQ hQn=> ?_;refine Zrs [0] (z6 ?_);refine sg [0,4] rfl ?_;intro K hK;iterate 2 (refine Zo Zl ?_)
 intro b hb;refine Zad ?_;refine Zk hK ?_;clear hK K;refine Zcm ?_ ?_
 ·intro h4
  have hn0:n=0:=by
   rcases jY n with h|h
   ·exact h
   rw[hb h] at h4;cases h4
  subst hn0;refine Zrs [2] (z2f 2 3 1 (ints xs) rfl (zb (hQ _ _ ?_)));exact Zoc (⟨2,[(1,rO 3 1 0 (ints xs))]⟩)
 intro h4
 try replace h4:=Znb h4
 refine z7 (Zrs [2] (zb (hQ _ _ ?_)));exact Zos (fun k=>if k=1 then 2 else k) (.slc true 1 0 0 n) (⟨2,[(1,rO 3 1 n (ints xs))]⟩)
def cbClone_spec (xs:List Cb)(n:Nat)(hn:xs.length=n)(hx:n<=1000000):
  zj prog 98 [.slc false 0 0 0 n] ⟨1,[(0,rI 58 3 n (cbs xs))]⟩
   (fun s H1=>s= .slc true 1 0 0 n/\H1=⟨2,[(1,rO 58 3 n (cbs xs))]⟩):=by
 refine Zf false 8 [.tmp 2] func98 ntmps98 results98 fun w0 own0 β0 Q hQ hQn=> ?_;refine Zrs [0] (z6 ?_);refine sg [0,4] rfl ?_;intro K hK;iterate 2 (refine Zo Zl ?_)
 intro b hb;refine Zad ?_;refine Zk hK ?_;clear hK K;refine Zcm ?_ ?_
 ·intro h4
  have hn0:n=0:=by
   rcases jY n with h|h
   ·exact h
   rw[hb h] at h4;cases h4
  subst hn0;refine Zrs [2] (z2f 2 58 3 (cbs xs) rfl (zb (hQ _ _ ?_)));exact Zoc (⟨2,[(1,rO 58 3 0 (cbs xs))]⟩)
 intro h4
 try replace h4:=Znb h4
 refine z7 (Zrs [2] (zb (hQ _ _ ?_)));exact Zos (fun k=>if k=1 then 2 else k) (.slc true 1 0 0 n) (⟨2,[(1,rO 58 3 n (cbs xs))]⟩)
def cloneL_spec (cs:List Cl)(ps:List Pr)(n m:Nat)(hn:cs.length=n)(hm:ps.length=m)(hx:n<=1000000)(hy:m<=1000000):
  zj prog 100 [.agg [.slc false 0 0 0 n,.slc false 1 0 0 m]] ⟨2,[(0,z4l cs),(1,z5b ps)]⟩
   (fun s H1=>s= .agg [.slc true 2 0 0 n,.slc true 3 0 0 m]/\H1=⟨4,[(3,z2p ps),(2,z2c cs)]⟩):=by
 subst hn hm;refine Zf false 10 [.cell 2 85] func100 ntmps100 results100 fun w0 own0 β0 Q hQ hQn=> ?_;refine Zrs [1,2] (z6 ?_);refine Zrd [2] [0,1,3,4,2,5,6,7] (ws 0 [(7,[3])]) (ws 0 [(7,[3])]) ?_;intro K hK;iterate 4 (refine Zo (Zi [] []) ?_)
 refine Zd (Zi [] []) (clClone_spec cs cs.length rfl hx) (id) ?_;refine Zd (Zi [] []) (prClone_spec ps ps.length rfl hy) (fun _=>1) ?_;refine Zo (Zi [] []) ?_;refine Zo (Zi [3] [3]) ?_;refine zz (Zpr (hK _ _ ?_));clear hK K;refine zb (hQ _ _ ?_);exact Zos (fun k=>if k=2 then 4 else if k=3 then 5 else k) (.agg [.slc true 2 0 0 cs.length,.slc true 3 0 0 ps.length]) (⟨4,[(3,z2p ps),(2,z2c cs)]⟩)
def cloneLM_spec (L:List Ly)(hb:lyB L)(i k:Nat)(hi:i<k):
  zj prog 100 [.agg [.slc false 0 (3*i+2) 0 (lyA L i).cs.length,.slc false 0 (3*i+3) 0 (lyA L i).ps.length]] ⟨2,[(0,(3*k+1,fam false 3 1 (lyF false L)))]⟩
   (fun s H1=>s= .agg [.slc true 2 0 0 (lyA L i).cs.length,.slc true 3 0 0 (lyA L i).ps.length]/\H1=⟨4,[(3,z2p (lyA L i).ps),(2,z2c (lyA L i).cs)]⟩):=by
 refine(lyLs L i k hi (cloneL_spec (lyA L i).cs (lyA L i).ps _ _ rfl rfl (hb.2 i).2.1 (hb.2 i).2.2) trivial fun π=>rfl).imp ?_;rintro s H' ⟨s0,H0',⟨rfl,rfl⟩,rfl,rfl⟩;refine⟨by simp[SV.renP,SV.renPL,memP],?_⟩;simp only[renPOs,q8,QU,z2p,z2c,uQ,rO,rI,rV,Obj.renP,z51,z3n]
def inCloneM_spec (L:List Ly)(hb:lyB L)(i k:Nat)(hi:i<k):
  zj prog 99 [.slc false 0 (3*i+1) 0 (lyA L i).ids.length] ⟨1,[(0,(3*k+1,fam false 3 1 (lyF false L)))]⟩
   (fun s H1=>s= .slc true 1 0 0 (lyA L i).ids.length/\H1=⟨2,[(1,rO 3 1 ((lyA L i).ids.length) (ints (lyA L i).ids))]⟩):=by
 refine(lyId L i k hi (inClone_spec (lyA L i).ids _ rfl (hb.2 i).1) trivial fun π=>rfl).imp ?_;rintro s H' ⟨s0,H0',⟨rfl,rfl⟩,rfl,rfl⟩;refine⟨by simp[SV.renP,memP],?_⟩;simp only[renPOs,q8,QU,uQ,rO,rI,rV,Obj.renP,z2q]
end
end Go.Proofs
namespace Go.Sk
open Go.RowKit Go.Proofs
def Zv {a:Prop}(h:a:=by simp[frGivesP,Sk.get,SV.renP,SV.renPL,mvM,SV.lt,SV.ltL,ownU,uQ,rO,rI,rV,keepB,Sk.find,Obj.own.eq_1,Obj.own.eq_2,Obj.own.eq_3,Obj.own.eq_4,gxE]):a:=h
def Zgm {X:Cx}{fr:Fr}{H:AH}{fr1:Fr}{H1:AH}(ρ:Nat->Nat)(f:Nat)(ms:Nat->Option Nat)(hs:MsOk X ρ ms H1.os)(a2:zw (mvM ρ f ms) H1.nxt H.os H1.os)(q:GpQ X (mvM ρ f ms) fr H fr1 H1:=by constructor<;>exact Zv)(r:GmR X ρ f H1:=by exact⟨rfl,rfl,qb rfl,qb rfl,rfl⟩):z5n X (mvM ρ f ms) fr H fr1 H1:=gmS ρ f ms hs a2 q r
end Go.Sk
namespace Go.Proofs
open Tryz
open Go.Sk
section
def z5m {L:List Ly}{i j:Nat}(h:j<i):lyA (L.take i) j=lyA L j:=by
 rw[lyA,lyA,qw,qw,Qb,qe h]
open JnNm (gxE axE oxE exE)
open D0 (sdE)
def clone_specF (fo:Fo)(hb:lyB fo.ly)(n k m:Nat)(hn:fo.ns.length=n)(hk:fo.ly.length=k)(hm:fo.cb.length=m)(hn6:n<=1000000)(hm6:m<=1000000):
  zj prog 62 [.agg [.slc false 0 0 0 n,.int .i64 fo.ht,.slc false 1 0 0 k,.slc false 3 0 0 m]] ⟨4,[(0,rI 62 3 n (nds fo.ns)),(1,rI 89 5 k (lyR 2 fo.ly)),(2,(3*k+1,fam false 3 1 (lyF false fo.ly))),(3,rI 58 3 m (cbs fo.cb))]⟩
   (fun s H1=>s= .agg [.slc true 4 0 0 n,.int .i64 fo.ht,.slc true 5 0 0 k,.slc true 7 0 0 m]/\H1=⟨8,[(4,rO 62 3 n (nds fo.ns)),(5,rO 89 5 k (lyR 6 fo.ly)),(6,(3*k+1,fam true 3 1 (lyF true fo.ly))),(7,rO 58 3 m (cbs fo.cb))]⟩):=by
 obtain⟨ns,ht,L,C⟩:=fo;dsimp only at hb hn hk hm ⊢;subst hn hk hm;have hlen:=hb.1;refine Zf false 38 [.cell 2 34] func62 ntmps62 results62 fun w0 own0 β0 Q hQ hQn=> ?_;refine Zrs [1,2] (z6 ?_);refine Zrt [1,2,3] (.op 0 (.op 1 (.op 3 (.op 4 (.op 5 (.op 6 (.two 2 9 (.two 7 9 (.op 8 (.op 9 (.op 10 .done))) (.op 7 (.op 8 (.op 10 .done)))) (.op 2 (.op 7 (.op 8 (.op 10 .done))))))))))) [] [] ?_;intro K hK hG
 have hk1:K [(1,.ptr 4 0 0 0),(2,.ptr 5 0 0 0),(3,.ptr 8 0 0 0)] ⟨9,[(8,rV 34 4 1 (fun _=>[.slc true 6 0 0 ns.length,.int .i64 ht,.nils,.slc true 7 0 0 C.length])),(7,rO 58 3 C.length (cbs C)),(6,rO 62 3 ns.length (nds ns)),(5,rV 34 4 1 (fun _=>[.nils,.int .i64 0,.nils,.nils])),(4,rV 34 4 1 (fun _=>[.slc false 0 0 0 ns.length,.int .i64 ht,.slc false 1 0 0 L.length,.slc false 3 0 0 C.length])),(1,rI 89 5 L.length (lyR 2 L)),(2,(3*L.length+1,fam false 3 1 (lyF false L)))]⟩:=by
  refine hK _ _ ?_;clear hG hK K;refine z6 (Zrs [2,3,16,17,18] ?_);refine z2g 8 2 89 5 (lyR 10 (L.take 0)) rfl rfl rfl rfl rfl rfl rfl rfl (by dsimp only;omega) (by simp[SV.ltL,SV.lt]) ?_;simp only[setO,↓reduceIte,Nat.reduceEqDiff,Nat.reduceAdd,Qf,Qe,reduceCtorEq,uQ,rO,rI,rV];refine z29 3 1 (lyF true (L.take 0)) ?_;dsimp only;refine z8 fun Q0 hN0 hX0 hR0 hE0=> ?_;refine zl (σ:=Nat) (fun i=>i<=L.length) (fun i=>L.length-i) (fun i=>[(2,.ptr 5 0 0 0),(3,.ptr 8 0 0 0),(16,.slc false 1 0 0 L.length),(17,.int .i64 L.length),(18,.int .i64 i)]) (fun i=>⟨11,[(8,rV 34 4 1 (fun _=>[.slc true 6 0 0 ns.length,.int .i64 ht,.slc true 9 0 0 (i),.slc true 7 0 0 C.length])),(9,rO 89 5 i (lyR 10 (L.take (i)))),(10,(3*(i)+1,fam true 3 1 (lyF true (L.take (i))))),(7,rO 58 3 C.length (cbs C)),(6,rO 62 3 ns.length (nds ns)),(5,rV 34 4 1 (fun _=>[.nils,.int .i64 0,.nils,.nils])),(1,rI 89 5 L.length (lyR 2 L)),(2,(3*L.length+1,fam false 3 1 (lyF false L)))]⟩) 0 (ql _) (ρ:=id) (Zg id) ?_;rintro i hi QL1 hL1 hRL1 hEL1;refine Zrs [2,3,16,17,18,19] (z6 ?_);refine Zcn ?_ ?_
  ·intro h19;refine z7 (z6 ?_);refine z8 fun Q1 hN1 hX1 hR1 hE1=> ?_;refine Zrs [2,3,5,16,17,18] (z6 ?_);refine Zrd [2,3,5,16,17,18] [0,1,3,4,2,6,5,7,8,9] (ws 0 [(7,[11]),(9,[11])]) (ws 0 [(7,[11]),(8,[11]),(9,[11])]) ?_;intro K hK;iterate 4 (refine Zo (Zi [] []) ?_)
   refine Zd (Zi [] []) (inCloneM_spec L hb i L.length (by omega)) (fun q=>if q=0 then 2 else q) ?_;refine Zo (Zi [] []) ?_;refine Zd (Zi [] []) (cloneLM_spec L hb i L.length (by omega)) (fun q=>if q=0 then 2 else 0) ?_;refine Zo (Zi [11] [11]) ?_;refine Zo (Zi [] [11]) ?_;refine Zo (Zi [11] [11]) ?_;refine zz (Zpr (hK _ _ ?_));clear hK K;refine Zrg [2,3,16,17,18] (za (hN1 _ _ ?_));have hT:∀q,q<i->lyA (L.take (i+1)) q=lyA (L.take i) q:=fun q hq=>by rw[z5m (by omega),z5m hq]
   have hx:lyA (L.take (i+1)) i=lyA L i:=z5m (by omega)
   have hout:∀q,q<i+1->app (lyR 10 (L.take i)) i (z3y 5 1 [SV.int .i64 (lyA L i).lvl,SV.int .u32 (lyA L i).wd,SV.slc true 12 0 0 (lyA L i).ids.length,SV.slc true 13 0 0 (lyA L i).cs.length,SV.slc true 14 0 0 (lyA L i).ps.length]) q=SV.renPL (mvM (fun q=>if q=9 then 16 else q) 10 (ms3 i 12 13 14)) (lyR 10 (L.take (i+1)) q):=fun q hq=>by
    rw[lyR_renM3]
    split
    ·rename_i e;subst e;rw[app,qc (by omega),QV,hx];rfl
    rename_i e;rw[app,qe (by omega),lyR,lyR,hT q (by omega)];rfl
   refine z2y (fr':=[(2,.ptr 5 0 0 0),(3,.ptr 8 0 0 0),(16,.slc false 1 0 0 L.length),(17,.int .i64 L.length),(18,.int .i64 i)]) (H':=⟨11,[(8,rV 34 4 1 (fun _=>[.slc true 6 0 0 ns.length,.int .i64 ht,.slc true 9 0 0 (i+1),.slc true 7 0 0 C.length])),(9,rO 89 5 (i+1) (lyR 10 (L.take (i+1)))),(10,(3*(i+1)+1,fam true 3 1 (lyF true (L.take (i+1))))),(7,rO 58 3 C.length (cbs C)),(6,rO 62 3 ns.length (nds ns)),(5,rV 34 4 1 (fun _=>[.nils,.int .i64 0,.nils,.nils])),(1,rI 89 5 L.length (lyR 2 L)),(2,(3*L.length+1,fam false 3 1 (lyF false L)))]⟩) _ (Zgm (fun q=>if q=9 then 16 else q) (10) (ms3 i 12 13 14) (ms3_ok i (by decide) ⟨rfl,rfl,rfl⟩ ⟨qb rfl,qb rfl,qb rfl⟩) ((zc (by decide) rfl qf (ze.of (fun _=>⟨rfl,rfl⟩) rfl (qd _) (fun _ _=>rfl)) (Obj.lt_row.2 fun q _=>by simp[SV.ltL,SV.lt]) (qb rfl) (zc (by decide) rfl qf (ze.of (fun _=>⟨rfl,rfl⟩) rfl (qd _) (hout)) (Obj.lt_row.2 fun q _=>(z67 _ _ _ q).2 (qb rfl)) (qb rfl) (lyF_cons3 (n:=i) (x:=lyA L i) rfl rfl rfl rfl hx (fun q hq hne=>⟨by omega,hT q (by omega)⟩) (qb rfl) (zc (by decide) rfl qf (ze.of (fun _=>⟨rfl,rfl⟩) rfl (qd _) (fun q _=>(z4j _ _ q).symm)) (Obj.lt_row.2 fun q _=>cbs_lt _ _ q) (qb rfl) (zc (by decide) rfl qf (ze.of (fun _=>⟨rfl,rfl⟩) rfl (qd _) (fun q _=>(z28 _ _ q).symm)) (Obj.lt_row.2 fun q _=>z4e _ _ q) (qb rfl) (zc (by decide) rfl qf (ze.of (fun _=>⟨rfl,rfl⟩) rfl (qd _) (fun _ _=>rfl)) (Obj.lt_row.2 fun q _=>by simp[SV.ltL,SV.lt]) (qb rfl) (zc (by decide) rfl qf (ze.of (fun h=>(by cases h)) rfl (qd _) (fun q _=>(show lyR 2 L q=SV.renPL _ (lyR 2 L q) by rw[lyR_renMO _ _ _ _ _ _ (by decide)];rfl))) (Obj.lt_row.2 fun q _=>(z67 _ _ _ q).2 (qb rfl)) (qb rfl) (zw.consO (by decide) rfl ⟨fun h=>(by cases h),rfl⟩ (by omega) (qd _) (fun q _=>⟨z5r _ _ _ _ _ _ (fun h=>(by cases h)) rfl,z4i _ _ _ _⟩) (qb rfl) trivial)))))))))) ?_
   refine Zrg [2,3,16,17,18] (za (hL1 _ _ ?_));rw[iS i];exact⟨i+1,⟨by omega,by omega⟩,id,(Zg id)⟩
  intro h19;refine zk (hEL1 _ _ _ (hX0 _ _ (Zrs [2] (zb (hQ _ _ ?_)))))
  have hi2:i=L.length:=by
   have:¬(i:Int)<L.length:=by simpa using h19
   omega
  subst hi2;rw[jf];exact Zos (fun q=>if q=4 then 6 else if q=5 then 9 else if q=6 then 10 else q) (.agg [.slc true 4 0 0 ns.length,.int .i64 ht,.slc true 5 0 0 L.length,.slc true 7 0 0 C.length]) (⟨8,[(4,rO 62 3 ns.length (nds ns)),(5,rO 89 5 L.length (lyR 6 L)),(6,(3*L.length+1,fam true 3 1 (lyF true L))),(7,rO 58 3 C.length (cbs C))]⟩)
 iterate 6 (refine Zo (ZT [] [] []) ?_)
 refine z2e ?_ ?_
 ·skip
  refine Zd (ZT [] [] []) (z5q ns ns.length rfl hn6) (id) ?_;refine z2e ?_ ?_
  ·skip
   refine Zd (ZT [] [] []) (cbClone_spec C C.length rfl hm6) (fun _=>3) ?_;refine Zo (ZT [] [] []) ?_;refine Zo (ZT [] [] [8]) ?_;refine Zo (ZT [8] [] [8]) ?_;refine z14 ?_;refine Zpr ?_;exact hG _ _ _ _ id (Zg id) hk1
  skip
  refine Zo (ZT [] [] [7]) ?_;refine Zd (ZT [7] [] [7]) (cbClone_spec C C.length rfl hm6) (fun _=>3) ?_;refine Zo (ZT [7] [] [7]) ?_;refine Zo (ZT [7] [] [7]) ?_;refine z14 ?_;refine Zpr ?_;exact hG _ _ _ _ (fun q=>if q=7 then 8 else if q=8 then 7 else q) (Zg (fun q=>if q=7 then 8 else if q=8 then 7 else q)) hk1
 skip
 refine Zo (ZT [] [] [6]) ?_;refine Zd (ZT [6] [] [6]) (z5q ns ns.length rfl hn6) (id) ?_;refine Zd (ZT [6] [] [6]) (cbClone_spec C C.length rfl hm6) (fun _=>3) ?_;refine Zo (ZT [6] [] [6]) ?_;refine Zo (ZT [6] [] [6]) ?_;refine z14 ?_;refine Zpr ?_;exact hG _ _ _ _ (fun q=>if q=6 then 7 else if q=7 then 8 else if q=8 then 6 else q) (Zg (fun q=>if q=6 then 7 else if q=7 then 8 else if q=8 then 6 else q)) hk1
end
section
def ext_nth {xs ys:List Int}(h:xs.length=ys.length)(he:∀q,q<xs.length->nth xs q=nth ys q):xs=ys:=by
 refine Qw h fun q h1 h2=> ?_;have:=he q h1;rw[z30 h1,z30 h2] at this;exact this
open JnNm (gxE axE oxE exE)
open D0 (sdE)
def equalI_spec (xs ys:List Int)(n m:Nat)(hn:xs.length=n)(hm:ys.length=m)(hx:n<=1000000)(hy:m<=1000000):
  zj prog 134 [.slc false 0 0 0 n,.slc false 1 0 0 m] ⟨2,[(0,rI 3 1 n (ints xs)),(1,rI 3 1 m (ints ys))]⟩
   (fun s H1=>s= .bool (decide (xs=ys))/\H1=⟨2,[]⟩):=by
 subst hn hm;refine Zf false 26 [.tmp 4] func134 ntmps134 results134 fun w0 own0 β0 Q hQ hQn=> ?_;refine Zrs [0,1] (z6 ?_);refine Zrs [0,1,10] ?_;refine Zcn ?_ ?_
 ·intro h10;refine Zrs [4] (zb (hQ _ _ ?_));refine Zob ⟨2,[]⟩ ?_;rw[qG (show¬xs=ys from fun e=>by subst e;omega)];exact⟨rfl,by trivial⟩
 intro h10;refine z7 (z6 (Zrs [0,1,12,13] ?_));refine z8 fun Q0 hN0 hX0 hR0 hE0=> ?_;refine zl (σ:=Nat) (fun i=>i<=xs.length/\∀q,q<i->nth xs q=nth ys q) (fun i=>xs.length-i) (fun i=>[(0,.slc false 0 0 0 xs.length),(1,.slc false 1 0 0 ys.length),(12,.int .i64 xs.length),(13,.int .i64 i)]) (fun _=>⟨2,[(0,rI 3 1 xs.length (ints xs)),(1,rI 3 1 ys.length (ints ys))]⟩) 0 ⟨ql _,fun q h=>by omega⟩ (ρ:=id) (Zg id) ?_;rintro i hi QL1 hL1 hRL1 hEL1;refine Zrs [0,1,12,13,14] (z6 ?_);refine Zcn ?_ ?_
 ·intro h14;obtain⟨hi1,hi2⟩:=hi;refine z7 (z6 ?_);refine z8 fun Q1 hN1 hX1 hR1 hE1=> ?_;refine Zrs [0,1,5,12,13] (z6 ?_);refine Zrq [0,1,12,13,24] [0,1,2,3,4,5,6,7,8] ?_;refine Zcn ?_ ?_
  ·intro h24;refine Zrs [4] (zb (hR1 _ _ (hRL1 _ _ (hR0 _ _ (hQ _ _ ?_)))));refine Zob ⟨2,[]⟩ ?_;rw[qG (show¬xs=ys from fun e=>h24 (by rw[e]))];exact⟨rfl,by trivial⟩
  intro h24;refine z7 (za (hN1 _ _ (Zrg [0,1,12,13] (za (hL1 _ _ ?_)))));rw[iS i];refine⟨i+1,⟨⟨by omega,fun q hq=> ?_⟩,by omega⟩,id,(Zg id)⟩
  by_cases e:q=i
  ·subst e;exact h24
  exact hi2 q (by omega)
 intro h14;obtain⟨hi1,hi2⟩:=hi;refine zk (hEL1 _ _ _ (hX0 _ _ (Zrs [4] (zb (hQ _ _ ?_)))));refine Zob ⟨2,[]⟩ ?_;rw[qB (ext_nth (by omega) fun q hq=>hi2 q (by omega))];exact⟨rfl,by trivial⟩
def lenB (c b:Nat):((c:Int) !=(b:Int)+2)= !decide (c=b+2):=by
 rw[qY];simp;omega
def shQ (ns:List Nd)(x:Ly)(ids:List Int)(i:Nat):Bool:=(!sEq (cl x.cs (i+2)).key (z3s ns (nth ids i)).key)||(decide (i=0) && x.wd !=(z3s ns (nth ids i)).word)
def shQ_eq (ns:List Nd)(x:Ly)(ids:List Int)(i:Nat):(!sEq (cl x.cs ((i:Int)+2).toNat).key (z3s ns (nth ids i)).key||(i:Int)==0 && x.wd !=(z3s ns (nth ids i)).word)=shQ ns x ids i:=by
 rw[shQ,show((i:Int)+2).toNat=i+2 by omega,show((i:Int)==0)=decide (i=0) by rw[qY];simp]
def shpB_eq (ns:List Nd)(x:Ly)(lv:Int)(ids:List Int):shpB ns x lv ids=(x.lvl==lv && decide (x.ids=ids) && decide (x.cs.length=ids.length+2) && !anyB ids.length (shQ ns x ids)):=rfl
def shaped_specF (ns:List Nd)(x:Ly)(ids:List Int)(n k m a c p b:Nat)(ht lv:Int)(hn:ns.length=n)(ha:x.ids.length=a)(hc:x.cs.length=c)(hp:x.ps.length=p)(hb:ids.length=b)(hx:n<=1000000)(hy:a<=1000000)(hz:b<=1000000)(hw:c<=1000000):
  zj prog 95 [.agg [.slc false 0 0 0 n,.int .i64 ht,.slc false 4 0 0 k,.slc false 5 0 0 m],.agg [.int .i64 x.lvl,.int .u32 x.wd,.slc false 1 0 0 a,.slc false 2 0 0 c,.slc false 6 0 0 p],.int .i64 lv,.slc false 3 0 0 b]
   ⟨7,[(0,rI 62 3 n (nds ns)),(1,rI 3 1 a (ints x.ids)),(2,rI 117 5 c (z1x x.cs)),(3,rI 3 1 b (ints ids))]⟩
   (fun s H1=>s= .bool (shpB ns x lv ids)/\H1=⟨7,[]⟩):=by
 subst hn ha hc hp hb;refine Zf false 71 [.tmp 8] func95 ntmps95 results95 fun w0 own0 β0 Q hQ hQn=> ?_;refine Zrs [2,3,4,5] (z6 ?_);refine sg [3,4,5,33] rfl ?_;intro K hK
 have hk1:∀B:Bool,B= !(x.lvl==lv && decide (x.ids=ids) && decide (x.cs.length=ids.length+2))->K [(3,.slc false 3 0 0 ids.length),(4,.ptr 7 0 0 0),(5,.ptr 8 0 0 0),(33,.bool B)] ⟨9,[(8,rV 89 5 1 (fun _=>[.int .i64 x.lvl,.int .u32 x.wd,.slc false 1 0 0 x.ids.length,.slc false 2 0 0 x.cs.length,.slc false 6 0 0 x.ps.length])),(7,rV 34 4 1 (fun _=>[.slc false 0 0 0 ns.length,.int .i64 ht,.slc false 4 0 0 k,.slc false 5 0 0 m])),(0,rI 62 3 ns.length (nds ns)),(1,rI 3 1 x.ids.length (ints x.ids)),(2,rI 117 5 x.cs.length (z1x x.cs)),(3,rI 3 1 ids.length (ints ids))]⟩:=by
  intro B hB;subst hB;refine hK _ _ ?_;clear hK K;refine Zcm ?_ ?_
  ·intro h33;have h33':(x.lvl==lv && decide (x.ids=ids) && decide (x.cs.length=ids.length+2))=false:=by rw[<-qn];exact h33
   refine Zrs [8] (zb (hQ _ _ ?_));refine Zob ⟨7,[]⟩ ?_;rw[shpB_eq,h33',Qm];exact⟨rfl,by trivial⟩
  intro h33;have h33':(x.lvl==lv && decide (x.ids=ids) && decide (x.cs.length=ids.length+2))=true:=by rw[<-qr];exact h33
  have hcl:x.cs.length=ids.length+2:=by
   rw[qj] at h33';exact jO h33'.2
  refine z7 (z6 (Zrs [4,5,34,35,36] ?_));refine z8 fun Q0 hN0 hX0 hR0 hE0=> ?_;refine zl (σ:=Nat) (fun i=>i<=ids.length/\∀q,q<i->shQ ns x ids q=false) (fun i=>ids.length-i) (fun i=>[(4,.ptr 7 0 0 0),(5,.ptr 8 0 0 0),(34,.slc false 3 0 0 ids.length),(35,.int .i64 ids.length),(36,.int .i64 i)]) (fun _=>⟨9,[(8,rV 89 5 1 (fun _=>[.int .i64 x.lvl,.int .u32 x.wd,.slc false 1 0 0 x.ids.length,.slc false 2 0 0 x.cs.length,.slc false 6 0 0 x.ps.length])),(7,rV 34 4 1 (fun _=>[.slc false 0 0 0 ns.length,.int .i64 ht,.slc false 4 0 0 k,.slc false 5 0 0 m])),(0,rI 62 3 ns.length (nds ns)),(2,rI 117 5 x.cs.length (z1x x.cs)),(3,rI 3 1 ids.length (ints ids))]⟩) 0 ⟨ql _,fun q h=>by omega⟩ (ρ:=id) (Zg id) ?_;rintro i hi QL1 hL1 hRL1 hEL1;refine Zrs [4,5,34,35,36,37] (z6 ?_);refine Zcn ?_ ?_
  ·intro h37;obtain⟨hi1,hi2⟩:=hi;refine z7 (z6 ?_);refine z8 fun Q1 hN1 hX1 hR1 hE1=> ?_;refine Zrs [4,5,9,10,34,35,36] ?_;refine sg [4,5,9,11,34,35,36] rfl ?_;intro K hK;iterate 3 (refine Zo Zl ?_)
   refine Zd Zl (find_spec ns (nth ids i) ns.length rfl hx) (id) ?_;refine Zkl hK ?_;clear hK K;refine z6 (Zrq [4,5,34,35,36,69] [0,1,2,3,4,5,6,7,8,9,10,11,12,13,14,15,16,17,18,19,20,21] ?_);refine Zcm ?_ ?_
   ·intro h69;have h69':shQ ns x ids i=true:=by rw[<-shQ_eq];exact h69
    refine Zrs [8] (zb (hR1 _ _ (hRL1 _ _ (hR0 _ _ (hQ _ _ ?_)))));refine Zob ⟨7,[]⟩ ?_;rw[shpB_eq,z3l (i:=i) (by omega) h69',qS,Qq];exact⟨rfl,by trivial⟩
   intro h69;have h69':shQ ns x ids i=false:=by rw[<-shQ_eq];exact h69
   refine z7 (za (hN1 _ _ (Zrg [4,5,34,35,36] (za (hL1 _ _ ?_)))));rw[iS i];refine⟨i+1,⟨⟨by omega,fun q hq=> ?_⟩,by omega⟩,id,(Zg id)⟩
   by_cases e:q=i
   ·subst e;exact h69'
   exact hi2 q (by omega)
  intro h37;obtain⟨hi1,hi2⟩:=hi;refine zk (hEL1 _ _ _ (hX0 _ _ (Zrs [8] (zb (hQ _ _ ?_)))));refine Zob ⟨7,[]⟩ ?_;rw[shpB_eq,h33',z1q fun q hq=>hi2 q (by omega)];exact⟨rfl,by trivial⟩
 iterate 8 (refine Zo Zl ?_)
 refine z13 ?_;refine z1b rfl rfl ?_;refine Zgr ?_
 first|refine z15 ?_ ?_|refine(fun(h1:false=true->_) (h2:false=false->_)=>qi h1 fun _=>h2 rfl) ?_ ?_|refine qi ?_ ?_
 ·intro hg8
  first
   |(simp at hg8;done)
   |skip
    try replace hg8:=Znb hg8
    refine Zo id ?_;refine Zc1 (equalI_spec x.ids ids x.ids.length ids.length rfl rfl hy hz) (fun q=>if q=0 then 1 else if q=1 then 3 else q) ?_;iterate 12 (refine Zo Zl ?_)
    refine zr ?_;refine Zpr ?_;refine hk1 _ ?_;simp_all[lenB]
 intro hg8;refine⟨.bool false,?_⟩
 first
  |(simp at hg8;done)
  |skip
   try replace hg8:=Znb hg8
   iterate 12 (refine Zo Zl ?_)
   refine zr ?_;refine Zpr ?_;refine hk1 _ ?_;simp_all[lenB]
end
section
def shPi (i q:Nat):Pn:=fun id k=>if id=1 then(1,3*i+1) else if id=2 then(1,3*i+2) else if id=3 then(2,q+1) else if id=6 then(1,3*i+3) else(id,k)
def shapedM_spec (ns:List Nd)(L:List Ly)(hb:lyB L)(ls:List (List Int))(i q n k m w kk:Nat)(ht lv:Int)(hn:ns.length=n)(hx:n<=1000000)(hi:i<k)(hq:q<w)(hz:(ind ls q).length<=1000000):
  zj prog 95 [.agg [.slc false 0 0 0 n,.int .i64 ht,.slc false 4 0 0 kk,.slc false 5 0 0 m],.agg [.int .i64 (lyA L i).lvl,.int .u32 (lyA L i).wd,.slc false 1 (3*i+1) 0 (lyA L i).ids.length,.slc false 1 (3*i+2) 0 (lyA L i).cs.length,.slc false 1 (3*i+3) 0 (lyA L i).ps.length],.int .i64 lv,.slc false 2 (q+1) 0 (ind ls q).length]
   ⟨7,[(0,rI 62 3 n (nds ns)),(1,(3*k+1,fam false 3 1 (lyF false L))),(2,(w+1,fam false 3 1 (ilF false ls)))]⟩
   (fun s H1=>s= .bool (shpB ns (lyA L i) lv (ind ls q))/\H1=⟨7,[]⟩):=by
 have h:=shaped_specF ns (lyA L i) (ind ls q) n kk m _ _ _ _ ht lv hn rfl rfl rfl rfl hx (hb.2 i).1 hz (hb.2 i).2.1
 have g:=h.mem (shPi i q) (os1:=[(0,rI 62 3 n (nds ns)),(1,(3*k+1,fam false 3 1 (lyF false L))),(2,(w+1,fam false 3 1 (ilF false ls)))])
  (by
   refine⟨⟨by show 0<7;decide,fun k=>rfl,fun k' hk=>⟨Obj.lt_row.2 fun q _=>z4e _ _ q,?_⟩⟩,⟨by show 1<7;decide,fun k=>rfl,fun k' hk=>⟨Obj.lt_row.2 fun q _=>z1u _ _ q,?_⟩⟩,⟨by show 2<7;decide,fun k=>rfl,fun k' hk=>⟨Obj.lt_row.2 fun q _=>cls_lt _ _ q,?_⟩⟩,⟨by show 3<7;decide,fun k=>rfl,fun k' hk=>⟨Obj.lt_row.2 fun q _=>z1u _ _ q,?_⟩⟩,trivial⟩
   ·have:k'=0:=by have:k'<1:=hk;omega
    subst this;exact⟨qf,fun h=>(by cases h),rfl,qd _,fun q _=>(z28 _ _ q).symm⟩
   ·show 3*i+1<3*k+1/\zt _ (fam false 3 1 (lyF false L) (3*i+1)) _
    refine⟨by omega,?_⟩;rw[z2v,lyF_0];exact⟨fun h=>(by cases h),rfl,qd _,fun q _=>(z2q _ _ q).symm⟩
   ·show 3*i+2<3*k+1/\zt _ (fam false 3 1 (lyF false L) ((3*i+1)+1)) _
    refine⟨by omega,?_⟩;rw[z2v,lyF_1];exact⟨fun h=>(by cases h),rfl,qd _,fun q _=>(z3n _ _ q).symm⟩
   show q+1<w+1/\zt _ (fam false 3 1 (ilF false ls) (q+1)) _
   refine⟨by omega,?_⟩;rw[z2v,ilF_ap]
   exact⟨fun h=>(by cases h),rfl,qd _,fun q _=>(z2q _ _ q).symm⟩)
  ⟨by simp[SV.lt,SV.ltL],by simp[SV.lt,SV.ltL],by simp[SV.lt],by simp[SV.lt],trivial⟩ (by
   intro id k hid;have hid:id<7:=hid
   show(shPi i q id k).1<7
   simp only[shPi];repeat' split
   all_goals first|exact hid|(show 1<7;decide)|(show 2<7;decide)) (by
   intro x hx k;simp only[qv,QJ,jU] at hx;rcases hx with e|e|e<;>subst e
   ·rfl
   ·exact lyF_fown false _ _ L k
   exact ilF_fown false _ _ ls k)
 have e:SV.renPL (shPi i q) [.agg [.slc false 0 0 0 n,.int .i64 ht,.slc false 4 0 0 kk,.slc false 5 0 0 m],.agg [.int .i64 (lyA L i).lvl,.int .u32 (lyA L i).wd,.slc false 1 0 0 (lyA L i).ids.length,.slc false 2 0 0 (lyA L i).cs.length,.slc false 6 0 0 (lyA L i).ps.length],.int .i64 lv,.slc false 3 0 0 (ind ls q).length]=[.agg [.slc false 0 0 0 n,.int .i64 ht,.slc false 4 0 0 kk,.slc false 5 0 0 m],.agg [.int .i64 (lyA L i).lvl,.int .u32 (lyA L i).wd,.slc false 1 (3*i+1) 0 (lyA L i).ids.length,.slc false 1 (3*i+2) 0 (lyA L i).cs.length,.slc false 1 (3*i+3) 0 (lyA L i).ps.length],.int .i64 lv,.slc false 2 (q+1) 0 (ind ls q).length]:=rfl;rw[e] at g;refine g.imp ?_;rintro s H' ⟨s0,H0',⟨rfl,rfl⟩,rfl,rfl⟩;exact⟨rfl,rfl⟩
def eqCb (a b c a' b' c':Int):EqT prog 58 [.int .i64 a,.int .i64 b,.int .i64 c] [.int .i64 a',.int .i64 b',.int .i64 c']:=
 EqT.of [(false,3,0),(false,3,1),(false,3,2)] (by kernel_rfl) (by kernel_rfl) (by kernel_rfl) (by kernel_rfl)
  ⟨⟨rfl,rfl,by kernel_rfl,rfl,_,z3i⟩,⟨rfl,rfl,by kernel_rfl,rfl,_,z3i⟩,⟨rfl,rfl,by kernel_rfl,rfl,_,z3i⟩,trivial⟩
def eqL_cb (c:Cb):eqL [.int .i64 c.kind,.int .i64 c.node,.int .i64 c.lvl] [.int .i64 0,.int .i64 0,.int .i64 0]=decide (c=noCb):=by
 rw[qY]
 cases c
 simp[eqL,eqS,noCb]
def neB (a b:Nat):((a:Int) !=(b:Int))=decide (a≠b):=by
 rw[qY];simp;omega
def z4s (ns:List Nd)(n:Nat):List (Int×List Int):=(List.range n).flatMap fun(l:Nat)=>(lstN ns (l:Int)).map fun ids=>((l:Int),ids)
def lvlP_succ (ns:List Nd)(n:Nat):z4s ns (n+1)=z4s ns n++(lstN ns (n:Int)).map fun ids=>((n:Int),ids):=by
 simp[z4s,Jp,List.flatMap_append]
def lvlP_pre (ns:List Nd){n m:Nat}(h:n<=m):∃t,z4s ns m=z4s ns n++t:=by
  induction m with
  | zero => have : n = 0 := by omega
            subst this;exact⟨[],by simp⟩
  |succ m ih=>
    by_cases e:n=m+1
    · subst e;exact⟨[],by simp⟩
    obtain⟨t,ht⟩:=ih (by omega);exact⟨t++(lstN ns (m:Int)).map fun ids=>((m:Int),ids),by rw[lvlP_succ,ht,QF]⟩
def lvA_in {ns:List Nd}{h n q:Nat}(hn:n<=h)(hq:q<(lstN ns (n:Int)).length):lvA (lvlL ns h) ((z4s ns n).length+q)=((n:Int),ind (lstN ns (n:Int)) q):=by
 obtain⟨t,ht⟩:=lvlP_pre ns (n:=n+1) (m:=h+1) (by omega);rw[show lvlL ns h=z4s ns (h+1) from rfl,ht,lvlP_succ,lvA,qw,QF,QI (by omega),QC (by rw[qx];omega)];rw[show(z4s ns n).length+q-(z4s ns n).length=q by omega,qQ,qJ hq];simp[ind_lt hq]
def lvlP_len {ns:List Nd}{n:Nat}:(z4s ns (n+1)).length=(z4s ns n).length+(lstN ns (n:Int)).length:=by rw[lvlP_succ];simp
def lvlP_le {ns:List Nd}{n m:Nat}(h:n<=m):(z4s ns n).length<=(z4s ns m).length:=by
 obtain⟨t,ht⟩:=lvlP_pre ns h;rw[ht];simp
def lstN_len (ns:List Nd)(lv:Int):(lstN ns lv).length<=ns.length:=by
 unfold lstN
 split
 ·rw[lstG_len];exact qR (clsN_len _ _) (by rw[(z26 ns).length_eq];exact qd _)
 simp
def ind_len (ns:List Nd)(lv:Int)(q:Nat):(ind (lstN ns lv) q).length<=ns.length:=by
 unfold lstN
 split
 ·by_cases h:q<(z54 (z4w ns) lv).length
  ·rw[ind_lstG _ _ h,qx];exact qR (cnd_len _ _ _) (by rw[(z26 ns).length_eq];exact qd _)
  rw[show ind (lstG (z4w ns) lv) q=[] by rw[ind,qw,qP (by rw[lstG_len];omega)];rfl];simp
 simp[ind]
def lvlP_bd (ns:List Nd):∀n,(z4s ns n).length<=n*ns.length
 |0=>by simp[z4s]
 |n+1=>by have:=lvlP_bd ns n;have:=lstN_len ns (n:Int);rw[lvlP_len,qV,ju];omega
def JnSm.exE:=aj9 @z11 @zd @zf @zo @zh @zx @z10 ec2 (aj9 @zg @zp @zm @zi z58 @zn z3g z3w (aj9 @zq ec3 ec5 @z1a.eq_1 @zu.eq_1 @ints.eq_1 ec34 ec35 (aj3 ec36 ec30 ec31)))
def JnSm.gxE:=aj9 @z11 z3g ec16 z3w ec3 ec7 ec8 @z1a.eq_1 (aj7 @zu.eq_1 @z20 @z1u ec37 ec26 ec29 ec32)
def JnSm.axE:=aj9 @z11 @zd @zf @zo @zh @zx @z10 ec2 (aj9 @zg @zp @zm @zi z58 @zn z3g z3w (aj9 @zq ec3 ec5 @z1a.eq_1 @zu.eq_1 ec34 ec35 ec30 (aj8 @z1p @z21 @z2j @z2r ec38 @z38 ec33 @ilR_fold)))
open JnSm (gxE axE exE)
open JnNm (oxE)
open D0 (sdE)
def valid_specF (fo:Fo)(hb:lyB fo.ly)(n k m:Nat)(hn:fo.ns.length=n)(hk:fo.ly.length=k)(hm:fo.cb.length=m)(hn6:n<=20)(hm6:m<=1000000)(hht: -1000000<=fo.ht/\fo.ht<=1000000):
  zj prog 58 [.agg [.slc false 0 0 0 n,.int .i64 fo.ht,.slc false 1 0 0 k,.slc false 3 0 0 m]] ⟨4,[(0,rI 62 3 n (nds fo.ns)),(1,rI 89 5 k (lyR 2 fo.ly)),(2,(3*k+1,fam false 3 1 (lyF false fo.ly))),(3,rI 58 3 m (cbs fo.cb))]⟩
   (fun s H1=>s= .bool (z5v fo)/\H1=⟨4,[]⟩):=by
 obtain⟨ns,ht,L,C⟩:=fo;dsimp only at hb hn hk hm hht ⊢;subst hn hk hm;have hlen:=hb.1;refine Zf false 149 [.tmp 2] func58 ntmps58 results58 fun w0 own0 β0 Q hQ hQn=> ?_;refine Zrs [1] (z6 ?_);refine sg [1,39] rfl ?_;intro K hK;iterate 2 (refine Zo Zl ?_)
 refine Zd Zl (check_spec ns ns.length rfl (by omega)) (id) ?_;refine Zkl hK ?_;clear hK K;refine Zcm ?_ ?_
 ·intro h39;have hv:z5v ⟨ns,ht,L,C⟩=false:=by rw[z5v,show headF ⟨ns,ht,L,C⟩=true from h39];rfl
  refine Zrs [2] (zb (hQ _ _ ?_));refine Zob ⟨4,[]⟩ ?_;rw[hv];exact⟨rfl,by trivial⟩
 intro h39;have hh:headF ⟨ns,ht,L,C⟩=false:=h39;obtain⟨hc0,hht2,hC1,hC8⟩:=headF_false.1 hh;dsimp only at hc0 hht2 hC1 hC8;have hbd:=lvlP_bd ns;refine z7 (Zrs [1,3] (z6 ?_));refine Zrs [1,3,42,43] ?_;have hhn:((ht.toNat:Nat):Int)=ht:=by omega
 refine z8 fun Q0 hN0 hX0 hR0 hE0=> ?_;refine zl (σ:=Nat) (fun i=>i<=ht.toNat+1/\∀j,j<(z4s ns i).length->j<L.length/\shpB ns (lyA L j) (lvA (lvlL ns ht.toNat) j).1 (lvA (lvlL ns ht.toNat) j).2=true) (fun i=>ht.toNat+1-i) (fun i=>[(1,.ptr 4 0 0 0),(3,.int .i64 (z4s ns i).length),(42,.int .i64 (ht+1)),(43,.int .i64 i)]) (fun _=>⟨5,[(4,rV 34 4 1 (fun _=>[.slc false 0 0 0 ns.length,.int .i64 ht,.slc false 1 0 0 L.length,.slc false 3 0 0 C.length])),(0,rI 62 3 ns.length (nds ns)),(1,rI 89 5 L.length (lyR 2 L)),(2,(3*L.length+1,fam false 3 1 (lyF false L))),(3,rI 58 3 C.length (cbs C))]⟩) 0 ⟨ql _,fun q h=>absurd h (qI _)⟩ (ρ:=id) (have xE:=@z4s.eq_1;Zgx id) ?_;rintro i hi QL1 hL1 hRL1 hEL1;refine Zrs [1,3,42,43,44] (z6 ?_);refine Zcn ?_ ?_
 ·intro h44;obtain⟨hi1,hi2⟩:=hi;have hbi:=lvlP_bd ns i;refine z7 (z6 ?_);refine z8 fun Q1 hN1 hX1 hR1 hE1=> ?_;refine Zrs [1,3,4,42,43] ?_;refine sg [1,3,4,42,43,49,50,51] rfl ?_;intro K hK;iterate 3 (refine Zo Zl ?_)
  refine Zd Zl (lists_spec ns ns.length rfl i hn6) (id) ?_;have hll:=lstN_len ns (i:Int);have hil:=ind_len ns (i:Int);obtain⟨ls,hls⟩:∃ls,lstN ns (i:Int)=ls:=⟨_,rfl⟩;rw[hls] at hll hil ⊢;refine Zkl hK ?_;clear hK K;refine z8 fun Q2 hN2 hX2 hR2 hE2=> ?_;refine zl (σ:=Nat) (fun q=>q<=ls.length/\∀j,j<(z4s ns i).length+q->j<L.length/\shpB ns (lyA L j) (lvA (lvlL ns ht.toNat) j).1 (lvA (lvlL ns ht.toNat) j).2=true) (fun q=>ls.length-q) (fun q=>[(1,.ptr 4 0 0 0),(3,.int .i64 (((z4s ns i).length+q:Nat):Int)),(4,.int .i64 i),(42,.int .i64 (ht+1)),(43,.int .i64 i),(49,.slc true 5 0 0 ls.length),(50,.int .i64 ls.length),(51,.int .i64 q)]) (fun _=>⟨7,[(5,rO 22 1 ls.length (ilR true 6 ls)),(6,(ls.length+1,fam true 3 1 (ilF true ls))),(4,rV 34 4 1 (fun _=>[.slc false 0 0 0 ns.length,.int .i64 ht,.slc false 1 0 0 L.length,.slc false 3 0 0 C.length])),(0,rI 62 3 ns.length (nds ns)),(1,rI 89 5 L.length (lyR 2 L)),(2,(3*L.length+1,fam false 3 1 (lyF false L))),(3,rI 58 3 C.length (cbs C))]⟩) 0 ⟨ql _,fun j h=>hi2 j h⟩ (ρ:=id) (Zg id) ?_;rintro q hq QL2 hL2 hRL2 hEL2;refine Zrs [1,3,4,42,43,49,50,51,52] (z6 ?_);refine Zcn ?_ ?_
  ·intro h52;obtain⟨hq1,hq2⟩:=hq;have hlq:=hil q;refine z7 (z6 ?_);refine z8 fun Q3 hN3 hX3 hR3 hE3=> ?_;refine Zrs [1,3,4,6,42,43,49,50,51] (z6 (z6 ?_));refine Zrd [1,3,4,42,43,49,50,51,71] [0,1,2,3,4,5,6,7,8,9,10,11,12,13,14,15,16] [] [] ?_;intro K hK
   have hk10:∀B:Bool,B=(decide (L.length<=(z4s ns i).length+q)|| !shpB ns (lyA L ((z4s ns i).length+q)) i (ind ls q))->K [(1,.ptr 4 0 0 0),(3,.int .i64 (((z4s ns i).length+q:Nat):Int)),(4,.int .i64 i),(42,.int .i64 (ht+1)),(43,.int .i64 i),(49,.slc true 5 0 0 ls.length),(50,.int .i64 ls.length),(51,.int .i64 q),(71,.bool B)] ⟨7,[(5,rO 22 1 ls.length (ilR true 6 ls)),(6,(ls.length+1,fam true 3 1 (ilF true ls))),(4,rV 34 4 1 (fun _=>[.slc false 0 0 0 ns.length,.int .i64 ht,.slc false 1 0 0 L.length,.slc false 3 0 0 C.length])),(0,rI 62 3 ns.length (nds ns)),(1,rI 89 5 L.length (lyR 2 L)),(2,(3*L.length+1,fam false 3 1 (lyF false L))),(3,rI 58 3 C.length (cbs C))]⟩:=by
    intro B hB;subst hB;refine hK _ _ ?_;clear hK K;refine Zcm ?_ ?_
    ·intro h71;have hA:lvA (lvlL ns ht.toNat) ((z4s ns i).length+q)=((i:Int),ind ls q):=by rw[<-hls];exact lvA_in (by omega) (by rw[hls];omega)
     have hv:z5v ⟨ns,ht,L,C⟩=false:=by
      rw[qt,qm,qn] at h71
      cases hz:z5v ⟨ns,ht,L,C⟩ with
      |false=>rfl
      |true=>
       exfalso
       simp only[z5v,qj,qn,qm] at hz;have z1:=hz.1.1.1.2;have z2:=hz.1.1.2
       have z3:(z4s ns i).length+q<(lvlL ns ht.toNat).length:=by
        have:=lvlP_le (ns:=ns) (n:=i+1) (m:=ht.toNat+1) (by omega);rw[lvlP_len,hls] at this
        show _<(z4s ns (ht.toNat+1)).length
        omega
       rcases h71 with g|g
       ·omega
       have:=anyB_elim z2 (i:=(z4s ns i).length+q) (by omega);rw[hA,g] at this;cases this
     refine Zrs [2] (zb (hR3 _ _ (hRL2 _ _ (hR2 _ _ (hR1 _ _ (hRL1 _ _ (hR0 _ _ (hQ _ _ ?_))))))));refine Zob ⟨4,[]⟩ ?_;rw[hv];exact⟨rfl,by trivial⟩
    intro h71;have hA:lvA (lvlL ns ht.toNat) ((z4s ns i).length+q)=((i:Int),ind ls q):=by rw[<-hls];exact lvA_in (by omega) (by rw[hls];omega)
    have h71':(z4s ns i).length+q<L.length/\shpB ns (lyA L ((z4s ns i).length+q)) i (ind ls q)=true:=by
     rw[qk,qg,qr] at h71;exact⟨by omega,h71.2⟩
    refine z7 ?_;refine z3v [1,3,4,42,43,49,50,51] rfl ?_;intro K hK;iterate 2 (refine Zo Zl ?_)
    rw[show(((z4s ns i).length+q:Nat):Int)+1=(((z4s ns i).length+(q+1):Nat):Int) by omega];refine Zad ?_;refine Zkl hK ?_;clear hK K;refine za (hN3 _ _ (Zrg [1,3,4,42,43,49,50,51] (za (hL2 _ _ ?_))));rw[iS q];refine⟨q+1,⟨⟨by omega,fun j hj=> ?_⟩,by omega⟩,id,(Zg id)⟩
    by_cases e:j=(z4s ns i).length+q
    ·subst e;rw[hA];exact h71'
    exact hq2 j (by omega)
   iterate 14 (refine Zo (Zi [] []) ?_)
   refine runI_cons _ [] [] rfl rfl rfl ?_;refine z1b rfl rfl ?_;refine Zgr ?_
   first|refine z15 ?_ ?_|refine(fun(h1:false=true->_) (h2:false=false->_)=>qi h1 fun _=>h2 rfl) ?_ ?_|refine qi ?_ ?_
   ·intro hg14
    first
     |(simp at hg14;done)
     |skip
      try replace hg14:=Znb hg14
      refine Zo id ?_;refine Zc1 (shapedM_spec ns L hb ls ((z4s ns i).length+q) q ns.length L.length C.length ls.length L.length ht i rfl (by omega) (by omega) (by omega) (by have:=hil q;omega)) (fun q=>if q=0 then 0 else if q=1 then 2 else if q=2 then 6 else if q=4 then 1 else if q=5 then 3 else q) ?_;iterate 2 (refine Zo (Zi [] []) ?_)
      refine zz ?_;refine Zpr ?_;refine hk10 _ ?_;clear hk10 K hK;have e:decide ((L.length:Int)<=(((z4s ns i).length+q:Nat):Int))=decide (L.length<=(z4s ns i).length+q):=Je.2 (by omega)
      first
      |(rw[e];done)
      |(rw[qB (show L.length<=(z4s ns i).length+q by omega),Jq])
   intro hg14;refine⟨.bool false,?_⟩
   first
    |(simp at hg14;done)
    |skip
     try replace hg14:=Znb hg14
     iterate 2 (refine Zo (Zi [] []) ?_)
     refine zz ?_;refine Zpr ?_;refine hk10 _ ?_;clear hk10 K hK;have e:decide ((L.length:Int)<=(((z4s ns i).length+q:Nat):Int))=decide (L.length<=(z4s ns i).length+q):=Je.2 (by omega)
     first
     |(rw[e];done)
     |(rw[qB (show L.length<=(z4s ns i).length+q by omega),Jq])
  intro h52;obtain⟨hq1,hq2⟩:=hq;refine zk (hEL2 _ _ _ (hX2 _ _ (za (hN1 _ _ (Zrg [1,3,42,43] (za (hL1 _ _ ?_)))))));rw[iS i];have hqe:(z4s ns i).length+q=(z4s ns (i+1)).length:=by rw[lvlP_len,hls];omega
  rw[hqe] at hq2 ⊢;exact⟨i+1,⟨⟨by omega,hq2⟩,by omega⟩,id,(Zg id)⟩
 intro h44;obtain⟨hi1,hi2⟩:=hi;refine zk (hEL1 _ _ _ (hX0 _ _ (z6 (Zrs [1,80] ?_))));refine Zcn ?_ ?_
 ·intro h80;have hie:i=ht.toNat+1:=by omega
  subst hie
  have hv:z5v ⟨ns,ht,L,C⟩=false:=by
   rw[z5v,qG (show¬L.length=(lvlL ns ht.toNat).length from fun e=>by have:(lvlL ns ht.toNat).length=(z4s ns (ht.toNat+1)).length:=rfl;omega),Qq,Qm,Qm,Qm]
  refine Zrs [2] (zb (hQ _ _ ?_));refine Zob ⟨4,[]⟩ ?_;rw[hv];exact⟨rfl,by trivial⟩
 intro h80;have hie:i=ht.toNat+1:=by omega
 subst hie
 have hle:L.length=(lvlL ns ht.toNat).length:=by
  have e:(lvlL ns ht.toNat).length=(z4s ns (ht.toNat+1)).length:=rfl
  by_cases g:L.length<(z4s ns (ht.toNat+1)).length
  ·have:=(hi2 L.length g).1;omega
  omega
 have hs1:anyB L.length (fun i=> !shpB ns (lyA L i) (lvA (lvlL ns ht.toNat) i).1 (lvA (lvlL ns ht.toNat) i).2)=false:=z1q fun j hj=>by
  rw[(hi2 j (by rw[hle] at hj;exact hj)).2];rfl
 refine z7 (z6 (Zrs [1,82,83,84] ?_));refine z8 fun Q4 hN4 hX4 hR4 hE4=> ?_;refine zl (σ:=Nat) (fun i=>i<=L.length/\∀q,q<i->(!z1y (lyA L q).cs (lyA L q).ps||decide ((lyA L q).ps.length≠C.length))=false) (fun i=>L.length-i) (fun i=>[(1,.ptr 4 0 0 0),(82,.slc false 1 0 0 L.length),(83,.int .i64 L.length),(84,.int .i64 i)]) (fun _=>⟨5,[(4,rV 34 4 1 (fun _=>[.slc false 0 0 0 ns.length,.int .i64 ht,.slc false 1 0 0 L.length,.slc false 3 0 0 C.length])),(0,rI 62 3 ns.length (nds ns)),(1,rI 89 5 L.length (lyR 2 L)),(2,(3*L.length+1,fam false 3 1 (lyF false L))),(3,rI 58 3 C.length (cbs C))]⟩) 0 ⟨ql _,fun q h=>absurd h (qI _)⟩ (ρ:=id) (Zg id) ?_;rintro i hi QL3 hL3 hRL3 hEL3;refine Zrs [1,82,83,84,85] (z6 ?_);refine Zcn ?_ ?_
 ·intro h85;obtain⟨hi1',hi2'⟩:=hi;have hbi:=hb.2 i;refine z7 (z6 ?_);refine z8 fun Q5 hN5 hX5 hR5 hE5=> ?_;refine Zrs [1,8,82,83,84] ?_;refine sg [1,82,83,84,101] rfl ?_;intro K hK;iterate 2 (refine Zo Zl ?_)
  refine Zd Zl (lyLsB L i L.length (by omega) (valid_specK (lyA L i).cs (lyA L i).ps _ _ rfl rfl (by omega) (by omega))) (fun q=>if q=0 then 2 else 0) ?_;refine Zkl hK ?_;clear hK K;refine Zcm ?_ ?_
  ·intro h101;have h101':(!z1y (lyA L i).cs (lyA L i).ps||decide ((lyA L i).ps.length≠C.length))=true:=by rw[<-neB];exact h101
   have hv:z5v ⟨ns,ht,L,C⟩=false:=by
    rw[z5v,z3l (i:=i) (p:=fun i=> !z1y (lyA L i).cs (lyA L i).ps||decide ((lyA L i).ps.length≠C.length)) (by show i<L.length;omega) h101',qS,Qq,Qm]
   refine Zrs [2] (zb (hR5 _ _ (hRL3 _ _ (hR4 _ _ (hQ _ _ ?_)))));refine Zob ⟨4,[]⟩ ?_;rw[hv];exact⟨rfl,by trivial⟩
  intro h101;have h101':(!z1y (lyA L i).cs (lyA L i).ps||decide ((lyA L i).ps.length≠C.length))=false:=by rw[<-neB];exact h101
  refine z7 (za (hN5 _ _ (Zrg [1,82,83,84] (za (hL3 _ _ ?_)))));rw[iS i];refine⟨i+1,⟨⟨by omega,fun q hq=> ?_⟩,by omega⟩,id,(Zg id)⟩
  by_cases e:q=i
  ·subst e;exact h101'
  exact hi2' q (by omega)
 intro h85;obtain⟨hi1',hi2'⟩:=hi;have hs2:anyB L.length (fun i=> !z1y (lyA L i).cs (lyA L i).ps||decide ((lyA L i).ps.length≠C.length))=false:=z1q fun q hq=>hi2' q (by omega);refine zk (hEL3 _ _ _ (hX4 _ _ (z6 (Zrs [1,104,105,106] ?_))));refine z8 fun Q6 hN6 hX6 hR6 hE6=> ?_;refine zl (σ:=Nat) (fun i=>i<=C.length/\∀q,q<i->cbOk ns ht (cbA C q)=true) (fun i=>C.length-i) (fun i=>[(1,.ptr 4 0 0 0),(104,.slc false 3 0 0 C.length),(105,.int .i64 C.length),(106,.int .i64 i)]) (fun _=>⟨5,[(4,rV 34 4 1 (fun _=>[.slc false 0 0 0 ns.length,.int .i64 ht,.slc false 1 0 0 L.length,.slc false 3 0 0 C.length])),(0,rI 62 3 ns.length (nds ns)),(1,rI 89 5 L.length (lyR 2 L)),(2,(3*L.length+1,fam false 3 1 (lyF false L))),(3,rI 58 3 C.length (cbs C))]⟩) 0 ⟨ql _,fun q h=>absurd h (qI _)⟩ (ρ:=id) (Zg id) ?_;rintro i hi QL4 hL4 hRL4 hEL4;refine Zrs [1,104,105,106,107] (z6 ?_);refine Zcm ?_ ?_
 ·intro h107;obtain⟨hi1',hi2'⟩:=hi;have h107':(i:Int)<C.length:=by simpa using h107
  refine z7 (z6 ?_);refine z8 fun Q7 hN7 hX7 hR7 hE7=> ?_;refine Zrs [1,10,104,105,106] ?_;refine sg [1,10,12,104,105,106] rfl ?_;intro K hK;iterate 4 (refine Zo Zl ?_)
  refine Zd Zl (find_spec ns (cbA C i).node ns.length rfl (by omega)) (id) ?_;refine Zkl hK ?_;clear hK K;refine Zrs [1,10,13,104,105,106] ?_;refine sg [1,104,105,106,147] rfl ?_;intro K hK;iterate 3 (refine Zo Zl ?_)
  refine qi (eqCb _ _ _ _ _ _) ?_;rw[eqL_cb];refine Zad ?_;refine Zkl hK ?_;clear hK K;refine Zcm ?_ ?_
  ·intro h147;have h147':cbOk ns ht (cbA C i)=false:=by rw[<-qn,cbOk,Bool.not_or];exact h147
   have hv:z5v ⟨ns,ht,L,C⟩=false:=by
    rw[z5v,z3l (i:=i) (n:=C.length) (p:=fun p=> !cbOk ns ht (cbA C p)) (by omega) (by rw[h147'];rfl),qS,Qq]
   refine Zrs [2] (zb (hR7 _ _ (hRL4 _ _ (hR6 _ _ (hQ _ _ ?_)))));refine Zob ⟨4,[]⟩ ?_;rw[hv];exact⟨rfl,by trivial⟩
  intro h147;have h147':cbOk ns ht (cbA C i)=true:=by rw[<-qr,cbOk,Bool.not_or];exact h147
  refine z7 (za (hN7 _ _ (Zrg [1,104,105,106] (za (hL4 _ _ ?_)))));rw[iS i];refine⟨i+1,⟨⟨by omega,fun q hq=> ?_⟩,by omega⟩,id,(Zg id)⟩
  by_cases e:q=i
  ·subst e;exact h147'
  exact hi2' q (by omega)
 intro h107;obtain⟨hi1',hi2'⟩:=hi;have h107':¬(i:Int)<C.length:=by simpa using h107
 refine zk (hEL4 _ _ _ (hX6 _ _ (Zrs [2] (zb (hQ _ _ ?_)))));refine Zob ⟨4,[]⟩ ?_;rw[z5v,hh,qB hle,hs1,hs2,z1q fun q hq=>by rw[hi2' q (by have hq:q<C.length:=hq;omega)];rfl];exact⟨rfl,by trivial⟩
end
end Go.Proofs
namespace Go.Sk
open Go.RowKit
section
variable {X:Cx} {Q:Exit->Fr->AH->Prop} {fr:Fr} {H:AH} {l:List Code}
def Cs.famE {c:Code}(n:Nat)(e:TypeId)(sz:Nat)(G:Nat->Obj)(hG:∀i,i<n->∃r:Row,G i= .row r/\r.n=0)(h:Cs X (c::l) Q fr ⟨H.nxt+1,(H.nxt,n+1,fam true e sz G)::H.os⟩):Cs X (c::l) Q fr H:=fun β a w hF hS=>by
 have hag:=Env.agree_set β H.nxt (fun _=>none);refine h (β.set H.nxt fun _=>none) a w (hF.agree (QH H.nxt) hag) ?_;refine St.new' hS (fun k L _ he=>by cases he) (fun k k' L L' h h' he he' _=>by cases he) (fun k hk=> ?_) (fun k hk=> ?_)
 ·cases k with
  |zero=>exact .inl ⟨rfl,rfl⟩
  |succ i=>
   obtain⟨r,hr,hn⟩:=hG i (by omega);rw[z2v,hr];exact .inl ⟨hn,rfl⟩
 ·cases k with
  |zero=>exact fun i j s hi _=>absurd hi (qI _)
  |succ i=>
   obtain⟨r,hr,hn⟩:=hG i (by omega);rw[z2v,hr];intro i j s hi _;rw[hn] at hi;exact absurd hi (qI _)
end
structure MuOk (X:Cx) (ρ:Nat->Nat) (f:Nat) (μ:Nat->Nat×Nat):Prop where
 inj:∀k k',0<k->0<k'->μ k=μ k'->k=k'
 z:∀k,0<k->μ k≠(ρ f,0)
 m:∀k,X.m0<=(μ k).1
def MuL (ρ:Nat->Nat)(f:Nat)(μ:Nat->Nat×Nat):List (Nat×Nat×(Nat->Obj))->Prop
 |[]=>True
 |(id,_,_)::l=>(id=f\/∀k,(μ k).1≠ρ id)/\MuL ρ f μ l
def MuL.get {ρ:Nat->Nat}{f:Nat}{μ:Nat->Nat×Nat}:∀{os:List (Nat×Nat×(Nat->Obj))},MuL ρ f μ os->∀x∈os,x.1=f\/∀k,(μ k).1≠ρ x.1
 |[],_,_,hm=>by cases hm
 |(_,_,_)::l,h,x,hm=>by
  cases hm with
  |head=>exact h.1
  |tail _ hm=>exact MuL.get h.2 x hm
def z5n.mkO {X:Cx}{fr:Fr}{H:AH}{fr':Fr}{H':AH}(ρ:Nat->Nat)(f:Nat)(μ:Nat->Nat×Nat)(h2:HGivesJ (anP ρ f μ) H'.nxt H.os H'.os)(hμ:MuOk X ρ f μ)(h3b:MuL ρ f μ H'.os)(h1:frGivesP (anP ρ f μ) H'.nxt fr fr')(h3:injB ρ H'.os=true)(h3u:ownU H'.os)
  (h4:(List.range X.m0).all (fun id=>ρ id==id)=true) (h5:X.m0<=H'.nxt) (h5f:X.m0<=f) (h6:∀x∈H.os,x.1<X.m0->∀k,(x.2.2 k).own=(x.2.2 0).own) (h7:keepB X.m0 H.os H'.os) (h8:bigB X.m0 ρ H'.os=true):z5n X (anP ρ f μ) fr H fr' H' where
 fr:=frGivesP_ok h1
 os id k o' hl:=by
  obtain⟨c,F,hf,hk,rfl⟩:=z1h hl;exact h2.get _ _ _ (z1j hf) k hk
 inj id k o id' k' o' hl hl' ho he:=by
  have hij:InjOn ρ H'.os:= .of h3 h3u
  have hne:∀{id k:Nat} {o:Obj},look H'.os id k=some o->id≠f->∀j,(μ j).1≠ρ id:=fun {id k o} h g=>by
   obtain⟨c,F,hf,hk,rfl⟩:=z1h h;rcases h3b.get _ (z1j hf) with e|e
   ·exact absurd e g
   ·exact e
  unfold anP at he
  by_cases c1:id=f/\0<k<;>by_cases c2:id'=f/\0<k'
  ·rw[qe c1,qe c2] at he;exact⟨c1.1.trans c2.1.symm,hμ.inj _ _ c1.2 c2.2 he⟩
  ·rw[qe c1,qc c2] at he
   exfalso
   by_cases g:id'=f
   ·subst g;have:k'=0:=by omega
    subst this;exact hμ.z _ c1.2 he
   ·exact hne hl' g k (Qv Prod.fst he)
  ·rw[qc c1,qe c2] at he
   exfalso
   by_cases g:id=f
   ·subst g;have:k=0:=by omega
    subst this;exact hμ.z _ c2.2 he.symm
   ·exact hne hl g k' (Qv Prod.fst he).symm
  ·rw[qc c1,qc c2] at he;obtain⟨g1,g2⟩:=Prod.mk.inj he;exact⟨hij _ _ _ _ _ _ hl hl' ho g1,g2⟩
 fix id k hid:=by
  have:=qu.1 h4 id (Qu.2 hid);rw[qD] at this;simp only[anP,this,qc (show¬(id=f/\0<k) by omega)]
 m0:=h5
 keep id k hid ho:=by
  obtain⟨o,ho1,ho2⟩:=ho;obtain⟨c,F,hf,hk,rfl⟩:=z1h ho1;have:=h7 _ (z1j hf) hid (by have:=h6 _ (z1j hf) hid k;simp only at this;rw[<-this];exact ho2);simp only at this
  split at this
  ·rename_i c' F' hf';exact⟨F' k,(zy hf' (by omega)).trans (Obj.opt_of fun e=>by have:=this.2 k;rw[e] at this;cases this),this.2 k⟩
  ·exact this.elim
 big id k o h0 hl ho:=by
  obtain⟨c,F,hf,hk,rfl⟩:=z1h hl;have h9:=qu.1 h8 _ (z1j hf);have h10:=h3u _ (z1j hf) k;simp only[qt,qm,qn] at h9;simp only at h10;rw[ho] at h10;rw[<-h10] at h9;unfold anP
  split
  ·exact hμ.m k
  ·rcases h9 with(h9|h9)|h9
   ·simp only;omega
   ·exact h9
   ·cases h9
def HGivesAn.consFO {ρ:Nat->Nat}{f m:Nat}{μ:Nat->Nat×Nat}{os l:List (Nat×Nat×(Nat->Obj))}{c c':Nat}{o o':Bool}{e e':TypeId}{sz sz':Nat}{G G':Nat->Obj}(hf:find os (ρ f)=some (c,fam o e sz G))(hc:0<c)(h1:(o'=true->o=true/\e'=e)/\sz'=sz)
  (h:∀i,i+1<c'->∃c1 F1,find os (μ (i+1)).1=some (c1,F1)/\(μ (i+1)).2<c1/\zt (anP ρ f μ) (F1 (μ (i+1)).2) (G' i)/\(G' i).lt m) (hm:f<m) (ht:HGivesJ (anP ρ f μ) m os l):
  HGivesJ (anP ρ f μ) m os ((f,(c',fam o' e' sz' G'))::l):=by
 refine⟨fun k hk=> ?_,hm,ht⟩
 cases k with
 |zero=>
  have e9:anP ρ f μ f 0=(ρ f,0):=by rw[anP,qc (by omega)]
  rw[e9];refine⟨c,_,hf,hc,?_,fun i j s hi _=>absurd hi (qI _)⟩;simp only[fam,zt,ze];exact⟨h1.1,h1.2,qd _,fun i hi=>absurd hi (qI _)⟩
 |succ i=>
  have e9:anP ρ f μ f (i+1)=μ (i+1):=by rw[anP,qe ⟨rfl,QW i⟩]
  rw[e9];exact h i hk
def goS {X:Cx}{fr:Fr}{H:AH}{fr1:Fr}{H1:AH}(ρ:Nat->Nat)(f:Nat)(μ:Nat->Nat×Nat)(a2:HGivesJ (anP ρ f μ) H1.nxt H.os H1.os)(hμ:MuOk X ρ f μ)(t:MuL ρ f μ H1.os)(q:GpQ X (anP ρ f μ) fr H fr1 H1)(r:GpR X ρ f H1):z5n X (anP ρ f μ) fr H fr1 H1:=
 z5n.mkO ρ f μ a2 hμ t q.a1 r.a3 q.a4 r.a5 r.a6 r.a6f q.a7 q.a8 r.a9
end Go.Sk
namespace Go.Proofs
open Tryz
open Go.Sk
def mgM (g d e P:Nat):Nat->Nat×Nat:=fun k=>if k<=3*P then(g,k) else if(k-1-3*P)%3=0 then(d,(k-1-3*P)/3+1) else(e,2*((k-1-3*P)/3)+(k-1-3*P)%3)
def mgM_old (g d e P:Nat){k:Nat}(h:k<=3*P):mgM g d e P k=(g,k):=qe h
def mgM_new (g d e P q:Nat):mgM g d e P (3*(P+q)+1)=(d,q+1)/\mgM g d e P (3*(P+q)+2)=(e,2*q+1)/\mgM g d e P (3*(P+q)+3)=(e,2*q+2):=by
 unfold mgM;refine⟨?_,?_,?_⟩
 ·rw[qc (by omega),qe (by omega),show(3*(P+q)+1-1-3*P)/3=q by omega]
 ·rw[qc (by omega),qc (by omega),show(3*(P+q)+2-1-3*P)/3=q by omega,show(3*(P+q)+2-1-3*P)%3=1 by omega]
 rw[qc (by omega),qc (by omega),show(3*(P+q)+3-1-3*P)/3=q by omega,show(3*(P+q)+3-1-3*P)%3=2 by omega]
def mgM_ne {d e P g z:Nat}(h:g≠z/\d≠z/\e≠z)(k:Nat):(mgM g d e P k).1≠z:=by
 unfold mgM
 (repeat' split)<;>simp_all
def mgM_ok {X:Cx}{ρ:Nat->Nat}{f:Nat}(g d e P:Nat)(h:g≠d/\g≠e/\d≠e)(hg:ρ f=g)(hm:X.m0<=g/\X.m0<=d/\X.m0<=e):MuOk X ρ f (mgM g d e P):=by
 refine⟨fun k k' h1 h2 he=> ?_,fun k h1 he=> ?_,fun k=> ?_⟩
 ·unfold mgM at he
  (repeat' split at he)<;>simp only[jn] at he<;>omega
 ·unfold mgM at he
  (repeat' split at he)<;>simp only[jn] at he<;>omega
 unfold mgM
 (repeat' split)
 ·exact hm.1
 ·exact hm.2.1
 exact hm.2.2
def lyI (f P:Nat)(ls:List (List Int)):Nat->List SV:=fun q=>[.slc true f (3*(P+q)+1) 0 (ind ls q).length]
def lyI_ap (f P:Nat)(ls:List (List Int))(q:Nat):lyI f P ls q=[.slc true f (3*(P+q)+1) 0 (ind ls q).length]:=rfl
def lyI_ren' (ρ:Nat->Nat)(f P:Nat)(ls:List (List Int))(q:Nat):SV.renL ρ (lyI f P ls q)=lyI (ρ f) P ls q:=by simp[lyI,SV.renL,SV.ren]
def lyI_ren (ρ:Nat->Nat)(f P:Nat)(ls:List (List Int)):(fun q=>SV.renL ρ (lyI f P ls q))=lyI (ρ f) P ls:=by funext q;exact lyI_ren' ρ f P ls q
def lyI_lt (m f P:Nat)(ls:List (List Int))(q:Nat):SV.ltL m (lyI f P ls q)↔f<m:=by simp[lyI,SV.ltL,SV.lt]
def lyI_renG (ρ:Nat->Nat)(f d e P:Nat)(ls:List (List Int))(q:Nat):SV.renPL (anP ρ f (mgM (ρ f) d e P)) (lyI f P ls q)=ilR true d ls q:=by
 simp only[lyI,ilR,SV.renPL,SV.renP,anP,QW,JM,q9,(mgM_new (ρ f) d e P q).1]
def lyI_renM2 (ρ:Nat->Nat)(f j b c P:Nat)(ls:List (List Int))(q:Nat):SV.renPL (mvM ρ f (ms2 j b c)) (lyI f P ls q)=lyI (ρ f) P ls q:=by
 simp only[lyI,SV.renPL,SV.renP,mvM,q9,(ms2_at j b c (P+q)).1]
def lyR_renG (ρ:Nat->Nat)(f d e P:Nat)(L:List Ly){i:Nat}(h:i<P):SV.renPL (anP ρ f (mgM (ρ f) d e P)) (lyR f L i)=lyR (ρ f) L i:=by
 simp only[lyR,SV.renPL,SV.renP,anP,QW,JM,q9,mgM_old (ρ f) d e P (show 3*i+1<=3*P by omega),mgM_old (ρ f) d e P (show 3*i+2<=3*P by omega),mgM_old (ρ f) d e P (show 3*i+3<=3*P by omega)]
def lyE:Nat->Sk.Obj:=fun i=>if i%2=0 then .row ⟨true,false,117,5,0,z1x []⟩ else .row ⟨true,false,110,7,0,prs []⟩
def lyE_0 (i:Nat):∃r:Row,lyE i= .row r/\r.n=0:=by
 unfold lyE
 split
 ·exact⟨_,rfl,rfl⟩
 exact⟨_,rfl,rfl⟩
def idLy (ids:List Int):Ly:=⟨0,0,ids,[],[]⟩
def pxL (L:List Ly)(P:Nat)(l:List (List Int)):List Ly:=L.take P++l.map idLy
def pxL_lo {L:List Ly}{P:Nat}{l:List (List Int)}{i:Nat}(hP:P<=L.length)(h:i<P):lyA (pxL L P l) i=lyA L i:=by
 rw[pxL,lyA,lyA,qw,qw,QC (by rw[qN];omega),Qb,qe h]
def pxL_hi {L:List Ly}{P:Nat}{l:List (List Int)}{q:Nat}(hP:P<=L.length)(h:q<l.length):lyA (pxL L P l) (P+q)=idLy (ind l q):=by
 have ht:(L.take P).length=P:=by rw[qN];omega
 rw[pxL,lyA,qw,QI (by rw[ht];omega),ht,show P+q-P=q by omega,qQ,qJ h,ind_lt h];rfl
def pxL_nil {L:List Ly}{P:Nat}:pxL L P []=L.take P:=by simp[pxL]
def lyF_consG {ρ:Nat->Nat}{f d e P w m:Nat}{os l:List (Nat×Nat×(Nat->Sk.Obj))}{L:List Ly}{ls:List (List Int)}(hP:P<=L.length)(hf:Sk.find os (ρ f)=some (3*P+1,fam true 3 1 (lyF true (L.take P))))
  (hd:Sk.find os d=some (w+1,fam true 3 1 (ilF true ls))) (he:Sk.find os e=some (2*w+1,fam true 3 1 lyE)) (hw:ls.length=w) (hm:f<m) (ht:HGivesJ (anP ρ f (mgM (ρ f) d e P)) m os l):
  HGivesJ (anP ρ f (mgM (ρ f) d e P)) m os ((f,(3*(P+w)+1,fam true 3 1 (lyF true (pxL L P ls))))::l):=by
 refine HGivesAn.consFO hf (by omega) ⟨fun _=>⟨rfl,rfl⟩,rfl⟩ (fun i hi=> ?_) hm ht
 by_cases hlt:i<3*P
 ·rw[mgM_old _ _ _ _ (show i+1<=3*P by omega)];refine⟨_,_,hf,by dsimp only;omega,?_,z4i ..⟩
  show zt _ (lyF true (L.take P) i) _
  exact z5r _ _ _ _ _ _ id (by rw[pxL_lo hP (by omega),z5m (by omega)])
 obtain⟨q,r,hr,hq⟩:∃q r,r<3/\i=3*(P+q)+r:=⟨(i-3*P)/3,(i-3*P)%3,by omega,by omega⟩;have hqw:q<w:=by omega
 have hx:=pxL_hi (L:=L) (l:=ls) hP (show q<ls.length by omega);obtain⟨g1,g2,g3⟩:=mgM_new (ρ f) d e P q;have h012:r=0\/r=1\/r=2:=by omega
 rcases h012 with g|g|g<;>subst g<;>subst hq
 ·rw[show 3*(P+q)+0+1=3*(P+q)+1 from rfl,g1];refine⟨_,_,hd,by dsimp only;omega,?_,z4i ..⟩
  show zt _ (ilF true ls q) (lyF true _ (3*(P+q)))
  rw[lyF_0,hx,ilF_ap];exact⟨fun _=>⟨rfl,rfl⟩,rfl,qd _,fun q _=>(z2q _ _ q).symm⟩
 ·rw[show 3*(P+q)+1+1=3*(P+q)+2 from rfl,g2];refine⟨_,_,he,by dsimp only;omega,?_,z4i ..⟩
  show zt _ (lyE (2*q)) _
  rw[lyF_1,hx,lyE,qe (by omega)];exact⟨fun _=>⟨rfl,rfl⟩,rfl,qd _,fun q _=>(z3n _ _ q).symm⟩
 rw[show 3*(P+q)+2+1=3*(P+q)+3 from rfl,g3];refine⟨_,_,he,by dsimp only;omega,?_,z4i ..⟩
 show zt _ (lyE (2*q+1)) _
 rw[lyF_2,hx,lyE,qc (by omega)];exact⟨fun _=>⟨rfl,rfl⟩,rfl,qd _,fun q _=>(z51 _ _ q).symm⟩
section
def keyL (c:List Nd):List ByteArray:=c.map (·.key)
def innL (dn:List Int)(c:List Nd):List Bool:=c.map fun x=>dn.contains x.id
def newLy (dn:List Int)(m:Nat)(s:Int×List Nd):Ly:=⟨s.1,(hdN s.2).word,s.2.map (·.id),newK (keyL s.2) (innL dn s.2) s.2.length,List.replicate m noPr⟩
def z2n (ns:List Nd)(dn:List Int)(m:Nat)(ht:Int):Fo:=⟨ns,ht,(z37 ns ht.toNat).map (newLy dn m),List.replicate m noCb⟩
def z3e (c:List Nd):(keyL c).length=c.length:=qx ..
def z5c (dn:List Int)(c:List Nd):(innL dn c).length=c.length:=qx ..
def keyL_at {c:List Nd}{k:Nat}(h:k<c.length):kAt (keyL c) k=(nd c k).key:=by
 rw[z4z h,kAt,qw,qJ (by rw[z3e];exact h)];simp[keyL]
def innL_at {dn:List Int}{c:List Nd}{k:Nat}(h:k<c.length):bAt (innL dn c) k=dn.contains (nd c k).id:=by
 rw[z4z h,bAt,qw,qJ (by rw[z5c];exact h)];simp[innL]
def newK_cell (keys:List ByteArray)(inn:List Bool){n k:Nat}(hn:keys.length=n)(hk:k<n):(cl (newK keys inn n) (k+2)).key=kAt keys k/\(cl (newK keys inn n) (k+2)).gone= !bAt inn k:=by
 subst hn;have hlP:(z3m keys inn keys.length).length=keys.length+2:=z36 ..;obtain⟨r,f,h1,_,_⟩:=lnk2_cell (ordN keys inn keys.length) (z3m keys inn keys.length) 0 (by omega) (fun x hx=>by have:=ordN_mem hx;omega) (k+2);rw[newK,h1,cellK_at _ _ _ (by omega),qc (by omega)];exact⟨rfl,rfl⟩
def lyA_new {ns:List Nd}{dn:List Int}{m:Nat}{h i:Nat}(hi:i<(z37 ns h).length):lyA ((z37 ns h).map (newLy dn m)) i=newLy dn m (shA (z37 ns h) i):=by
 rw[lyA_lt (by rw[qx];exact hi),shA_lt hi,jA]
def cbA_new (m p:Nat):cbA (List.replicate m noCb) p=noCb:=by
 rw[cbA,qw,jW];split<;>rfl
structure MkF (ns:List Nd) (m:Nat) (ht:Int):Prop where
 ck:z1t ns=0
 six:ns.length<=6
 two:2<=m
 four:m<=4
 h0:0<=ht
 h16:ht<=16
section
variable {ns:List Nd} {dn:List Int} {m:Nat} {ht:Int}
def newF_sh (hc:z1t ns=0)(hs:ns.length<=20)(h0:0<=ht)(h16:ht<=16)(m1:1<=m)(m8:m<=8):Fsh (z2n ns dn m ht):=by
 refine⟨hc,hs,h0,h16,by simp[z2n];omega,by simp[z2n];omega,by simp[z2n],fun i hi=> ?_⟩;have hi':i<(z37 ns ht.toNat).length:=by simpa [z2n] using hi
 show LyOk (lyA ((z37 ns ht.toNat).map (newLy dn m)) i) (shA (z37 ns ht.toNat) i) (List.replicate m noCb).length
 rw[lyA_new hi',Qy];refine⟨rfl,rfl,by rw[newLy];exact newK_length ..,fun k hk=> ?_,rfl,by rw[newLy];exact Qy⟩
 show(cl (newK (keyL _) (innL dn _) _) (k+2)).key=_
 rw[(newK_cell _ _ (z3e _) hk).1,keyL_at hk]
def newF_gone (hc:z1t ns=0)(hs:ns.length<=20)(h0:0<=ht)(h16:ht<=16)(m1:1<=m)(m8:m<=8){x:Nd}(hx:x∈ns){lv:Int}(l0:0<=lv)(lh:lv<=ht):z5w (z2n ns dn m ht).ly x.id lv= !dn.contains x.id:=by
 obtain⟨i,k,a⟩:=(newF_sh (dn:=dn) hc hs h0 h16 m1 m8).place hx l0 lh;have hi:=a.hi;have hk:=a.hk;have hi':i<(z37 ns ht.toNat).length:=by simpa [z2n] using hi
 rw[z5w,a.pI,a.pK,qq];have e:lyA (z2n ns dn m ht).ly i=newLy dn m (shA (z37 ns ht.toNat) i):=lyA_new hi';rw[e] at hk ⊢;have hk':k<(shA (z37 ns ht.toNat) i).2.length:=by simpa [newLy] using hk
 show(cl (newK (keyL _) (innL dn _) _) ((k:Int)+2).toNat).gone=_
 rw[show((k:Int)+2).toNat=k+2 by omega,(newK_cell _ _ (z3e _) hk').2,innL_at hk'];have:=a.nde;rw[show(z2n ns dn m ht).ns=ns from rfl,show(z2n ns dn m ht).ht=ht from rfl] at this;rw[this]
def mk_new (h:MkF ns m ht){i:Nat}(hi:i<(z37 ns ht.toNat).length):Mk (keyL (shA (z37 ns ht.toNat) i).2) (innL dn (shA (z37 ns ht.toNat) i).2) m:=by
 have h2:=h.two;have h4:=h.four;have hs:=(newF_sh (dn:=dn) h.ck (qR h.six (by decide)) h.h0 h.h16 (m:=m) (by omega) (by omega)).sub (i:=i) (by simpa [z2n] using hi);have hs:(shA (z37 ns ht.toNat) i).2.Sublist (z4w ns):=hs;have hl:=hs.length_le;rw[<-(z26 ns).length_eq] at hl;have hg:=good_sub hs (good_perm (z26 _) h.ck);have hgi:=(good_iff _).1 hg;have h6:=h.six;refine⟨by rw[z3e];omega,by rw[z5c,z3e],fun k hk=> ?_,?_,h.two,h.four⟩
 ·rw[z3e] at hk;rw[keyL_at hk];have:=hgi.2.1 _ (nd_mem hk);simp only[badN,qk] at this;simp_all
 rw[keyL,Ji,jN];exact hgi.2.2.imp fun h=>(twinN_false h).2
def FI_new (h:MkF ns m ht)(dn:List Int):FI (z2n ns dn m ht) fun i=>ordN (keyL (shA (z37 ns ht.toNat) i).2) (innL dn (shA (z37 ns ht.toNat) i).2) (shA (z37 ns ht.toNat) i).2.length:=by
 have h2:=h.two;have h4:=h.four;have hk0:∀p,(cbA (z2n ns dn m ht).cb p).kind=0:=fun p=>by show(cbA (List.replicate m noCb) p).kind=0;rw[cbA_new];rfl
 have hS:=newF_sh (dn:=dn) h.ck (qR h.six (by decide)) h.h0 h.h16 (show 1<=m by omega) (show m<=8 by omega);refine⟨hS,fun i hi=> ?_,fun p hp=> ?_,fun p i hp hi _=> ?_,fun p i _ _ hk=>absurd (hk0 p) hk,fun p q _ _ hk=>absurd (hk0 p) hk,fun x hx _ lv l0 lh=> ?_,fun p _ hk=>absurd (hk0 p) hk⟩
 ·have hi':i<(z37 ns ht.toNat).length:=by simpa [z2n] using hi
  have e:lyA (z2n ns dn m ht).ly i=newLy dn m (shA (z37 ns ht.toNat) i):=lyA_new hi';rw[e];have:=inv_made (mk_new (dn:=dn) h hi');rw[z3e] at this;exact this
 ·show cbOk _ _ (cbA (List.replicate m noCb) p)=true
  rw[cbA_new,cbOk];rfl
 ·have hi':i<(z37 ns ht.toNat).length:=by simpa [z2n] using hi
  have e:lyA (z2n ns dn m ht).ly i=newLy dn m (shA (z37 ns ht.toNat) i):=lyA_new hi';rw[e]
  show z42 (pr (List.replicate m noPr) p)=false
  rw[show pr (List.replicate m noPr) p=noPr by rw[pr,qw,jW];split<;>rfl]
  rfl
 rw[newF_gone h.ck (qR h.six (by decide)) h.h0 h.h16 (by omega) (by omega) hx l0 lh,newF_gone h.ck (qR h.six (by decide)) h.h0 h.h16 (by omega) (by omega) hx (Jz _) h.h0]
end
end
section
noncomputable def lsCap (c n p m:Nat):Nat×(Nat->Sk.Obj):=uQ (.row ⟨false,true,85,2,1,fun _=>[.slc true c 0 0 n,.slc true p 0 0 m]⟩)
noncomputable def lsCapF (c n p m:Nat):Nat×(Nat->Sk.Obj):=uQ (.row ⟨false,true,85,2,1,fun _=>[.slc false c 0 0 n,.slc false p 0 0 m]⟩)
def LlNm.exE:=aj9 @zd @zf @zo @zh ec1 ec2 @zg @zp (aj9 @zq ec3 ec4 @clCap.eq_1 @z4d.eq_1 ec5 ec6 @z1a.eq_1 (aj6 @zu.eq_1 @z18 @z2d @lsCap.eq_1 @lsCapF.eq_1 @ints.eq_1))
def LlNm.gxE:=aj9 ec3 ec4 @clCap.eq_1 @z4d.eq_1 ec7 ec8 @z1a.eq_1 @zu.eq_1 (aj5 @z20 @ints_lt'K @lsCap.eq_1 @lsCapF.eq_1 @ints.eq_1)
def LlNm.axE:=aj9 @zd @zf @zo @zh ec1 ec2 @zg @zp (aj9 @zq ec3 ec4 @clCap.eq_1 @z4d.eq_1 ec5 ec6 @z1a.eq_1 (aj8 @zu.eq_1 @z18 @z2d @lsCap.eq_1 @lsCapF.eq_1 @z1p @z2j @z2r))
open LlNm (gxE axE exE)
open LlBm (oxE)
open D0 (sdE)
def cmpN_spec (cs:List Cl)(n m:Nat)(hn:cs.length=n)(a b:Int)(ha:0<=a/\a<n)(hb:0<=b/\b<n):
  zj prog 90 [.int .i64 a,.int .i64 b,.ptr 0 0 0 0] ⟨3,[(0,lsCap 1 n 2 m),(1,z4l cs),(2,noPrs)]⟩ (fun s H1=>s= .int .i64 (cmpI cs a b)/\H1=⟨3,[]⟩):=by
 refine Zf false 10 [.tmp 5] func90 ntmps90 results90 fun w0 own0 β0 Q hQ hQn=> ?_;refine Zrs [0,1,2] (z6 ?_);refine sg [9] rfl ?_;intro K hK;iterate 3 (refine Zo Zl ?_)
 refine Zd Zl (less_specK cs n m hn a b ha hb) (fun q=>q+1) ?_;refine Zk hK ?_;clear hK K;refine Zcm ?_ ?_
 ·intro h9;refine Zrs [5] (zb (hQ _ _ ?_));refine Zob ⟨3,[]⟩ ?_;rw[cmpI,qe h9];exact⟨rfl,trivial⟩
 intro h9;refine z7 (Zrs [5] (zb (hQ _ _ ?_)));refine Zob ⟨3,[]⟩ ?_;rw[cmpI,qc (by rw[h9];exact qh)];exact⟨rfl,trivial⟩
def CmpOk (f:FuncId):Prop:=∀(cs:List Cl) (n m:Nat),cs.length=n->∀a b:Int,(0<=a/\a<n)->(0<=b/\b<n)->zj prog f [.int .i64 a,.int .i64 b,.ptr 0 0 0 0] ⟨3,[(0,lsCap 1 n 2 m),(1,z4l cs),(2,noPrs)]⟩ (fun s H1=>s= .int .i64 (cmpI cs a b)/\H1=⟨3,[]⟩)
def cmpOkN:CmpOk 90:=fun cs n m hn a b ha hb=>cmpN_spec cs n m hn a b ha hb
noncomputable def cmpSv (f:FuncId):SV:= .fn f [.ptr 1 0 0 0]
end
end Go.Proofs
namespace Go.Sk
open Go.RowKit Go.WideShapes Go.ChangeShapes
def below_sameAt {w w':World}(h:Below w.heap.size w w'){p:MemPlace}(hp:p.block<w.heap.size):w.sameAt w' p:=by
 cases p with
 |cell b off=>exact Q9 (h.block b hp)
 |map b=>exact h.block b hp
section
variable {H:Type} {enc:TypeId×Value->H} {P:Program}
def trodAll_carry {w w':World}{base:Nat}{sp:Nat->Bool}{held:Bool}:∀{ts:List TypeId} {vs:List Value} {ds:List (DataW H)} {ps:List MemPlace},DataW.TrodAll enc P w base sp held ts vs ds ps->(∀p∈ps,w.sameAt w' p)->
  DataW.TrodAll enc P w' base sp held ts vs ds ps
 |[],[],[],_,h,_=>h
 |_::_,_::_,_::_,_,⟨p,q,⟨n,h1⟩,h2,e⟩,hs=>
  ⟨p,q,⟨n,DataW.trod_carry n _ _ _ h1 fun x hx=>hs x (by rw[e];exact QD _ hx)⟩,trodAll_carry h2 (fun x hx=>hs x (by rw[e];exact Qg _ hx)),e⟩
def trodAll_len {w:World}{base:Nat}{sp:Nat->Bool}{held:Bool}:∀{ts:List TypeId} {vs:List Value} {ds:List (DataW H)} {ps:List MemPlace},DataW.TrodAll enc P w base sp held ts vs ds ps->ds.length=ts.length
 |[],[],[],_,_=>rfl
 |_::_,_::_,_::_,_,⟨_,_,_,h2,_⟩=>by simp[trodAll_len h2]
def law_post {f:Func}{s:ChangeSpec}{apart fresh handsOn again:Bool}{W W':World}{args:Array Value}{ds gs:List (DataW H)}{before:List MemPlace}(hl:laidOutB P=true)(hm:mapsRowed P=true)
  (hz:∀t e,t<P.types.size->P.underlying t=some (.slice e)->0<P.cellsOf e) (hts:∀t∈f.params.toList,t<P.types.size) (hv:s.vars=[])
  (hW:DataW.Whole enc P f.params.toList s.vars apart W args.toList ds gs before) (hb:Below W.heap.size W W') {tb:TypeId} (hres:f.resultTypes= #[tb]) (hbool:P.underlying tb=some .bool)
  (hfn:∀ds:List (DataW H),ds.length=f.params.toList.length->s.fn H ds={results:=[.lit (.bool true)],args:=ds}):s.post enc P f apart fresh handsOn again W args (.bool true) W':=by
 have hW':=hW;obtain⟨p,q,hA,hV,rfl,hfz,hnd⟩:=hW;rw[hv] at hV
 have hq:gs=[]/\q=[]:=by
  cases gs with
  |nil=>exact⟨rfl,hV⟩
  |cons _ _=>exact hV.elim
 obtain⟨rfl,rfl⟩:=hq;have hfn':=hfn (ds++[]) (by rw[jc];exact trodAll_len hA);have hlt:∀x∈p,x.block<W.heap.size:=DataW.TrodAll.lt hA
 have hargs:∀sp:Nat->Bool,(∀x∈p++[],sp x.block=true)->DataW.TrodAll enc P W' 0 sp true f.params.toList args.toList ds p:=fun sp hsp=>
  trodAll_carry (DataW.TrodAll.respare (kids_rows hl hm) hz hts hA fun x hx=>hsp x (QD _ hx)) fun x hx=>below_sameAt hb (hlt x hx)
 have hrl:((Value.bool true).resultList f.resultTypes.size)=[.bool true]:=by rw[hres];rfl
 have hres':∀(b:Nat) (sp:Nat->Bool) (hd:Bool),DataW.TrodAll enc P W' b sp hd f.resultTypes.toList ((Value.bool true).resultList f.resultTypes.size) (s.fn H (ds++[])).results []:=fun b sp hd=>by
  rw[hrl,hfn',hres];exact trodAll_mk1 (shut_bool hbool true)
 have hvars:∀sp:Nat->Bool,DataW.TrodVars enc P W' sp s.vars (s.fn H (ds++[])).vars []:=fun sp=>by rw[hfn',hv];rfl
 have hargs':∀sp:Nat->Bool,(∀x∈p++[],sp x.block=true)->DataW.TrodAll enc P W' 0 sp true f.params.toList args.toList (s.fn H (ds++[])).args p:=fun sp hsp=>by
  rw[hfn'];simpa using hargs sp hsp
 have hold:∀x∈p++[],(fun b=>decide (b<W.heap.size)) x.block=true:=fun x hx=>by simpa using hlt x (by simpa using hx)
 refine⟨ds,[],p++[],[],p,[],hW',hres' _ _ _,hargs' _ hold,hvars _,World.keptBut_mono (fun x hx=>⟨hx,?_⟩) (hb.frame (· ∈p++[])),fun _=>⟨?_,_,_,([]++p)++[],⟨[]++p,[],trodAll_append (hargs' _ (fun _ _=>rfl)) (hres' _ _ _),hvars _,rfl,?_,?_⟩,?_⟩⟩
 ·exact .inr (.inl (by simpa using hx))
 ·intro j t r ht hr;rw[hrl] at hr;rw[hres] at ht
  cases j with
  |zero=>simp at ht hr;subst ht hr;exact okWide_bool_mk hbool _
  |succ j=>simp at hr
 ·intro b off hp;have hin:MemPlace.cell b off∈p++[]:=by simpa using hp
  rw[hb.frozen (hlt _ (by simpa using hin))];exact hfz b off hin
 ·intro ha;simpa using hnd ha
 ·intro x hx _;simpa using hx
end
def zj.top {P:Program}{f:FuncId}{args:List SV}{H0:AH}(hent:Ent P f)(hF:zj P f args H0 (fun s _=>s= .bool true))(β:Env)(w:World)(vs:List Value)
  (hh:∀id k o,look H0.os id k=some o->o.own=false/\id<H0.nxt/\o.lt H0.nxt/\o.holds β w (β id k)) (hd:z2u β args vs) (hl:SV.ltL H0.nxt args) (htab:∀g,tabG P g=true->g<w.heap.size/\TabAt w g) (htabB:∀g,tabBG P g=true->g<w.heap.size/\TabBAt w g):
  Calls P f vs.toArray w fun e w'=>e= .returned (.bool true)/\Below w.heap.size w w':=by
 let own0:Nat->Nat->Prop:=fun id k=> ∃o,look H0.os id k=some o/\o.own=true
 let X:Cx:={P:=P,n:=0,w0:=w,own0:=own0,m0:=H0.nxt,β0:=β}
 have no:∀id k o,look H0.os id k=some o->¬o.own=true:=fun id k o h=>by rw[(hh id k o h).1];simp
 have no0:∀id k,¬own0 id k:=fun id k ⟨o,h1,h2⟩=>no id k o h1 h2
 have hS:St X β H0 w:={
  os:=rfl,tape:=rfl,output:=rfl,size:=qd _,fix:=fun _ _ _=>rfl
  holds:=fun id k o h=>(hh id k o h).2.2.2
  sep:=fun id k id' k' o o' L L' h _ ho=>absurd ho (no id k o h)
  old:=fun _ _ _=>rfl
  mine:=fun id k o L h ho=>absurd ho (no id k o h)
  keep:=fun id k h=>absurd h (no0 id k)
  m0:=qd _
  lt:=fun id k o h=>⟨(hh id k o h).2.1,(hh id k o h).2.2.1⟩
  tabs:=⟨fun g hg=>⟨(htab g hg).1,(htab g hg).2,fun id k _ h _=>absurd h (no0 id k)⟩,fun g hg=>⟨(htabB g hg).1,(htabB g hg).2,fun id k _ h _=>absurd h (no0 id k)⟩⟩
  drawn:=qd _}
 refine((hF X β w vs rfl rfl rfl rfl rfl hS hd hl).calls hent).mono fun e w' ⟨v,he,β',s,H',hs,_,hdv,_,hS'⟩=> ?_;subst hs;simp only[den] at hdv;subst hdv
 exact⟨he,hS'.os,hS'.tape,hS'.output,hS'.size,fun b hb=>hS'.old b hb fun id k o L h ho hβ=>by
  rcases hS'.mine id k o L h ho hβ with⟨_,h1⟩|⟨_,h2⟩
  ·exact absurd h1 (no0 id k)
  ·have:w.heap.size<=L.blk:=h2
   omega⟩
end Go.Sk
namespace Go.Sk
open Go.RowKit Go.Shelf Go.Lib
def world_grow {W w':World}(h1:w'.os=W.os)(h2:w'.tape=W.tape)(h3:w'.output=W.output)(h4:W.heap.size<=w'.heap.size)(h5:∀b,b<W.heap.size->w'.heap[b]? =W.heap[b]?)(h6:W.drawn<=w'.drawn):∃q os',w'=Go.Sort.grow (W.drewN q) os':=by
 refine⟨w'.drawn-W.drawn,w'.heap.extract W.heap.size w'.heap.size,?_⟩;obtain⟨h,t,d,o,u⟩:=w';obtain⟨H,T,D,O,U⟩:=W;dsimp only at*;subst h1 h2 h3
 have e:h=H++h.extract H.size h.size:=by
  apply Array.ext_getElem?;intro k
  by_cases hk:k<H.size
  ·rw[Jf hk,h5 k hk]
  ·rw[Array.getElem?_append_right (by omega),Array.getElem?_extract]
   by_cases hk2:k<h.size
   ·rw[qe (by omega),show H.size+(k-H.size)=k by omega]
   ·rw[qc (by omega),QL (by omega)]
 simp only[Go.Sort.grow,World.drewN,World.mk.injEq];exact⟨e,trivial,by omega,trivial,trivial⟩
def zj.reads {P:Program}{g:FuncId}{args0:List SV}{Hc:AH}{r:Int}(hF:zj P g args0 Hc (fun s _=>s= .int .i64 r))(hno:∀id k o,look Hc.os id k=some o->o.own=false)(hent:Ent P g)
  {X:Cx} {β:Env} {H:AH} {W:World} (hP:X.P=P) (hS:St X β H W) (ρ:Nat->Nat) (hg:z5o ρ Hc.nxt H.os Hc.os) {vs:List Value} (hd:z2u β (SV.renL ρ args0) vs) (hl0:SV.ltL Hc.nxt args0):
  Calls P g vs.toArray W fun e w'=>e= .returned (.int .i64 r)/\∃q os',w'=Go.Sort.grow (W.drewN q) os':=by
 subst hP
 let Y:Cx:=⟨X.P,0,W,fun id k=> ∃o,look Hc.os id k=some o/\o.own=true,Hc.nxt,β.via ρ,false⟩
 have hn:∀id k,¬∃o,look Hc.os id k=some o/\o.own=true:=fun id k ⟨o,h1,h2⟩=>by rw[hno id k o h1] at h2;cases h2
 have hY:St Y (β.via ρ) Hc W:=by
  refine⟨rfl,rfl,rfl,qd _,fun _ _ _=>rfl,fun id k o h=> ?_,fun id k id' k' o o' L L' h h' ho hb hb' he=>(hn id k ⟨o,h,ho⟩).elim,fun _ _ _=>rfl,fun id k o L h ho _=>(hn id k ⟨o,h,ho⟩).elim,fun id k ho=>(hn id k ho).elim,qd _,fun id k o h=>⟨(hg.look h).1,(hg.look h).2.1⟩,⟨fun g hgt=> ?_,fun g hgt=> ?_⟩,qd _⟩
  ·obtain⟨_,_,o0,h1,h2⟩:=hg.look h;exact objGives_holds h2 (hS.holds _ _ _ h1)
  ·obtain⟨_,hlt2,htab⟩:=hS.tab hgt;exact⟨hlt2,htab,fun id k L ho hb=>(hn id k ho).elim⟩
  ·obtain⟨_,hlt2,htab⟩:=hS.tabB hgt;exact⟨hlt2,htab,fun id k L ho hb=>(hn id k ho).elim⟩
 refine((hF Y (β.via ρ) W vs rfl rfl rfl rfl rfl hY ((denL_ren _ _).1 hd) hl0).calls hent).mono ?_;rintro e w' ⟨v,rfl,β',s0,H',hR,_,hds,_,hS'⟩;subst hR;simp only[den] at hds;subst hds;refine⟨rfl,world_grow hS'.os hS'.tape hS'.output hS'.size (fun b hb=>hS'.old b hb fun id k o L h ho hb' he=> ?_) hS'.drawn⟩;rcases hS'.mine _ _ _ _ h ho hb' with⟨_,h2⟩|⟨_,h2⟩
 ·exact hn id k h2
 ·have:Y.w0.heap.size=W.heap.size:=rfl;omega
def St.refun {X:Cx}{β:Env}{H:AH}{w:World}(hS:St X β H w){os':List (Nat×Nat×(Nat->Obj))}
  (h:∀id k o,look os' id k=some o->∃o0,look H.os id k=some o0/\o0.own=o.own/\(∀q,o0.holds β w q->o.holds β w q)/\(o0.lt H.nxt->o.lt H.nxt))
  (h2:∀id k o0,look H.os id k=some o0->∃o,look os' id k=some o/\o.own=o0.own):St X β ⟨H.nxt,os'⟩ w where
 os:=hS.os
 tape:=hS.tape
 output:=hS.output
 size:=hS.size
 fix:=hS.fix
 holds id k o ho:=by
  obtain⟨o0,h3,_,h5,_⟩:=h id k o ho;exact h5 _ (hS.holds _ _ _ h3)
 sep id k id' k' o o' L L' ho ho' hw:=by
  obtain⟨o0,h3,h4,_⟩:=h id k o ho;obtain⟨o1,h5,_⟩:=h id' k' o' ho';exact hS.sep _ _ _ _ _ _ _ _ h3 h5 (h4.trans hw)
 old b hb hn:=hS.old b hb fun id k o L ho hw hbb=>by
  obtain⟨o1,h3,h4⟩:=h2 id k o ho;exact hn id k o1 L h3 (h4.trans hw) hbb
 mine id k o L ho hw:=by
  obtain⟨o0,h3,h4,_⟩:=h id k o ho;exact hS.mine _ _ _ _ h3 (h4.trans hw)
 keep id k hk:=by
  obtain⟨q1,o,q2,q3⟩:=hS.keep id k hk;obtain⟨o1,h3,h4⟩:=h2 id k o q2;exact⟨q1,o1,h3,h4.trans q3⟩
 m0:=hS.m0
 lt id k o ho:=by
  obtain⟨o0,h3,_,_,h6⟩:=h id k o ho;have:=hS.lt _ _ _ h3;exact⟨this.1,h6 this.2⟩
 tabs:=hS.tabs
 drawn:=hS.drawn
def zj.mono {P:Program}{f:FuncId}{args:List SV}{H0:AH}{R R':SV->AH->Prop}(hF:zj P f args H0 R)(h:∀s H,R s H->R' s H):zj P f args H0 R':=fun X β w vs h1 h2 h3 h4 h5 h6 h7 h8=>
 (hF X β w vs h1 h2 h3 h4 h5 h6 h7 h8).mono fun _ _ ⟨v,he,β',s,H',hR,r⟩=>⟨v,he,β',s,H',h _ _ hR,r⟩
section
variable {α:Type} [Inhabited α]
def vals (val:α->Int)(d:Array α):Nat->List SV:=fun i=>[.int .i64 (val d[i]!)]
def St.sorted {X:Cx}{β:Env}{H:AH}{w:World}(hS:St X β H w)(val:α->Int){e:TypeId}{n:Nat}{f:Nat->List SV}(hl:look H.os 0 0=some (.row ⟨true,false,e,1,n,f⟩)){os':List (Nat×Nat×(Nat->Obj))}(dk:Array α)(hdk:dk.size=n)
  (hos:∀id' k',look os' id' k'=if id'=0/\k'=0 then some (.row ⟨true,false,e,1,n,vals val dk⟩) else look H.os id' k') {L:Loc} (hb:β 0 0=some L) (m:Nat) (os:Array Go.Obj):
  St X β ⟨H.nxt,os'⟩ (Go.Proofs.sortWorld (fun x:α=>Value.int .i64 (val x)) w L.blk 0 m dk os):=by
 have hh:=hS.holds _ _ _ hl;rw[hb] at hh;rcases hh with⟨_,hc⟩|⟨L',hL',hsz,hlt,hcells,hown⟩
 ·cases hc
 cases hL'
 obtain⟨ho1,ho2,ho3,cur,hcur,hcs⟩:=hown rfl
 have hbk:(Go.Sort.putRow (fun x:α=>Value.int .i64 (val x)) w L.blk 0 dk).heap[L.blk]? =some (.cells (Go.Sort.putCells (fun x:α=>Value.int .i64 (val x)) 0 dk cur) e (0,0)):=by
  simp only[Go.Sort.putRow,Go.Sort.mapBlock,j5,q9,hcur,jj,Go.Sort.onCells]
 have h1:St X β ⟨H.nxt,os'⟩ (Go.Sort.putRow (fun x:α=>Value.int .i64 (val x)) w L.blk 0 dk):=by
  refine St.upd hS hl rfl hb (o':= .row ⟨true,false,e,1,n,vals val dk⟩) rfl hos ⟨rfl,rfl,rfl,rfl,Go.Sort.size_putRow ..,fun b hbne=> ?_⟩ (.inr ⟨L,rfl,hsz,?_,fun i hi=>⟨rfl,fun j s hs=> ?_⟩,fun _=>⟨ho1,ho2,ho3,_,hbk,?_⟩⟩) ?_
  ·simp only[Go.Sort.putRow,Go.Sort.mapBlock,j5];rw[qc (by omega)]
  ·rw[Go.Sort.size_putRow];exact hlt
  ·cases j with
   |succ j=>cases hs
   |zero=>
    cases hs
    refine⟨rfl,.int .i64 (val dk[i]!),?_,by simp only[den]⟩;have hi':i<n:=hi;have hcell:w.cell? ⟨L.blk,i,none⟩=cur[i]? :=by simp[World.cell?,hcur]
    have hic:i<cur.size:=by
     rw[hcs];have:(⟨true,false,e,1,n,f⟩:Row).sz=1:=rfl;have h2:(⟨true,false,e,1,n,f⟩:Row).n=n:=rfl;simp only[JO];exact Qc hi' ho2
    have hL1:L.sz=1:=hsz;rw[show L.off+i*L.sz+0=i by rw[ho1,hL1];omega];simp only[World.cell?,hbk,Go.Sort.putCells,Array.getElem?_mapIdx,Jl hic,jj,ql,QE,QQ,J4,JQ,qz,Ql];rw[qe (by omega)]
  ·simp only[Go.Sort.putCells,Array.size_mapIdx];exact hcs
  ·intro i j s hi hj
   cases j with
   |succ j=>cases hj
   |zero=>cases hj;trivial
 refine h1.ext ⟨⟨rfl,rfl,rfl,?_,fun k hk=> ?_⟩,?_⟩
 ·show _<=((Go.Sort.putRow _ (Go.Sort.ahead w m) L.blk 0 dk).heap++os).size
  simp only[JV,Go.Sort.size_putRow]
  show w.heap.size<=w.heap.size+_
  omega
 ·show((Go.Sort.putRow _ (Go.Sort.ahead w m) L.blk 0 dk).heap++os)[k]? =_
  rw[Jf (by rw[Go.Sort.size_putRow] at hk ⊢;exact hk)]
  rfl
 ·show w.drawn<=w.drawn+m
  omega
def z5g (cf:α->α->Int)(d:Array α):Array α:=(d.toList.mergeSort fun x y=> !(Go.Proofs.ltOf cf) y x).toArray
omit [Inhabited α] in
def sortedOf_size (cf:α->α->Int)(d:Array α):(z5g cf d).size=d.size:=by simp[z5g]
def sortFn_spec {P:Program}{ρs:Ren}(L:Go.Proofs.SlLaysF.n6 P ρs)(hentS:Ent P (ρs.f 6))(g:FuncId)(hent:Ent P g)(cap:List SV)(N:Nat)(os:List (Nat×Nat×(Nat->Obj)))(e:TypeId)(n:Nat)(f:Nat->List SV)
  (val:α->Int) (d:Array α) (hn:d.size=n) (hf:∀i,i<n->f i=[.int .i64 (val d[i]!)]) (cf:α->α->Int) (hO:Go.Sort.SWO (Go.Proofs.ltOf cf)) (hT:∀x y,Go.Proofs.ltOf cf x y=false->Go.Proofs.ltOf cf y x=false->x=y)
  (ρ:Nat->Nat) (Hc:AH) (hno:∀id k o,look Hc.os id k=some o->o.own=false) (hgv:∀f',z5o ρ Hc.nxt ((0,uQ (.row ⟨true,false,e,1,n,f'⟩))::os) Hc.os)
  (capc:List SV) (hcap:SV.renL ρ capc=cap) (hcl:SV.ltL Hc.nxt capc) (hos:∀id k o,look os id k=some o->o.own=false) (hcmp:∀x y:α,zj P g (.int .i64 (val x):: .int .i64 (val y)::capc) Hc (fun s _=>s= .int .i64 (cf x y))) (hsz:n<=1000000):
  zj P (ρs.f 6) [.slc true 0 0 0 n,.fn g cap] ⟨N,(0,uQ (.row ⟨true,false,e,1,n,f⟩))::os⟩
   (fun s H1=>s= .tup []/\H1=⟨N,[(0,uQ (.row ⟨true,false,e,1,n,vals val (z5g cf d)⟩))]⟩):=by
 intro X β w vs hP hm hw hβ ho hS hdl hl;refine .inl ⟨hentS,?_⟩;subst hP hn;simp only[z2u,den] at hdl;obtain⟨v0,r0,h0,⟨v1,r1,⟨cb,hcb,rfl⟩,⟨rfl,rfl⟩⟩,rfl⟩:=hdl;have hl0:look ((0,uQ (.row ⟨true,false,e,1,d.size,vals val d⟩))::os) 0 0=some (.row ⟨true,false,e,1,d.size,vals val d⟩):=rfl
 have hS:St X β ⟨N,(0,uQ (.row ⟨true,false,e,1,d.size,vals val d⟩))::os⟩ w:=by
  refine hS.refun (fun id k o h=> ?_) fun id k o h=> ?_
  ·rw[z19] at h
   split at h
   ·rename_i he;obtain rfl:=he
    split at h
    ·rename_i hk
     cases h
     have hk0:k=0:=by omega
     subst hk0;refine⟨_,rfl,rfl,fun q hq=> ?_,fun _ i j s hi hj=> ?_⟩
     ·rcases hq with⟨h1,h2⟩|⟨L,h1,h2,h3,h4,h5⟩
      ·exact .inl ⟨h1,h2⟩
      ·refine .inr ⟨L,h1,h2,h3,fun i hi=> ?_,h5⟩;have:=h4 i hi;rw[show(⟨true,false,e,1,d.size,f⟩:Row).f i=vals val d i from hf i hi] at this;exact this
     ·cases j with
      |succ j=>cases hj
      |zero=>cases hj;trivial
    ·cases h
   ·rename_i he;exact⟨o,by show look ((0,_)::os) id k=some o;rw[z19,qc he];exact h,rfl,fun _ h=>h,fun h=>h⟩
  ·have h':look ((0,uQ (.row ⟨true,false,e,1,d.size,f⟩))::os) id k=some o:=h;clear h;rw[z19] at h'
   split at h'
   ·rename_i he;obtain rfl:=he
    split at h'
    ·rename_i hk
     cases h'
     have hk0:k=0:=by omega
     subst hk0;exact⟨_,hl0,rfl⟩
    ·cases h'
   ·rename_i he;exact⟨o,by rw[z19,qc he];exact h',rfl⟩
 have fin:∀{w2:World} {f':Nat->List SV},St X β ⟨N,(0,uQ (.row ⟨true,false,e,1,d.size,f'⟩))::os⟩ w2->St X β ⟨N,[(0,uQ (.row ⟨true,false,e,1,d.size,f'⟩))]⟩ w2:=fun hS2=>by
  refine hS2.less rfl (fun id k o h=> ?_) fun id k o _ h hown=> ?_
  ·rw[z19] at h ⊢
   split at h
   ·rename_i he;rw[qe he];exact h
   ·cases h
  ·rw[z19] at h ⊢
   split at h
   ·rename_i he;rw[qe he];exact h
   ·rw[hos id k o h] at hown;cases hown
 have own:∀f':Nat->List SV,OwnAll ⟨N,(0,uQ (.row ⟨true,false,e,1,d.size,f⟩))::os⟩ [(0,uQ (.row ⟨true,false,e,1,d.size,f'⟩))]:=fun f' x hx=>by
  rw[qU] at hx;subst hx;exact⟨fun _=>rfl,.inr ⟨_,qo ..,rfl,rfl,rfl⟩⟩
 by_cases hz:d.size=0
 ·have hd0:z5g cf d=d:=by
   have:d= #[]:=Array.eq_empty_of_size_eq_zero hz;subst this;simp[z5g]
  have hv0:∃p c,v0= .slice p 0 c:=by
   obtain⟨a,c,rfl,_⟩:=z3z h0;exact⟨a,c,by rw[hz]⟩
  obtain⟨p,c,rfl⟩:=hv0;refine(Go.Proofs.AnyF.slices_SortFunc_none (P:=X.P) (ρ:=ρs) {L with} p c (.func (.func g) #[] cb.toArray) w).mono ?_;rintro e1 w' ⟨rfl,rfl⟩;rw[hd0];exact⟨_,rfl,β,.tup [],_,⟨rfl,rfl⟩,own _,by simp only[den];exact⟨[],rfl,rfl⟩,trivial,fin hS⟩
 ·have h0':∃Lc cc,β 0 0=some Lc/\v0= .slice (some ⟨Lc.blk,0,none⟩) d.size cc:=by
   unfold z56 at h0;rw[qe rfl] at h0;rcases h0 with⟨_,h,_⟩|⟨Lc,cc,h1,_,_,_,_,h2⟩
   ·exact absurd h hz
   ·exact⟨Lc,cc,h1,h2⟩
  obtain⟨Lc,cc,hb,rfl⟩:=h0';have hh:=hS.holds _ _ _ hl0;rw[hb] at hh;rcases hh with⟨hc,_⟩|⟨L',hL',hsz1,hblk,hcells,hown⟩
  ·exact absurd hc hz
  cases hL'
  obtain⟨ho1,ho2,ho3,cur,hcur,hcs⟩:=hown rfl;have hL1:Lc.sz=1:=hsz1
  have hH:Go.Sort.Holds (fun x:α=>Value.int .i64 (val x)) w Lc.blk 0 d:=fun j hj=>by
   obtain⟨_,v,h1,h2⟩:=(hcells j hj).2 0 _ rfl;simp only[den] at h2;subst h2;refine⟨?_,by simp[World.frozen?,hcur]⟩;rw[<-h1]
   congr 2
   rw[ho1,hL1];omega
  have hlook:∀(dk:Array α) (id' k':Nat),look ((0,uQ (.row ⟨true,false,e,1,d.size,vals val dk⟩))::os) id' k'=if id'=0/\k'=0 then some (.row ⟨true,false,e,1,d.size,vals val dk⟩) else look ((0,uQ (.row ⟨true,false,e,1,d.size,vals val d⟩))::os) id' k':=fun dk id' k'=>by
   simp only[z19,uQ]
   by_cases h1:id'=0
   ·subst h1
    by_cases h2:k'=0
    ·subst h2;simp[Obj.opt]
    ·simp[h2]
   ·have h1':¬0=id':=fun e=>h1 e.symm;simp[h1,h1']
  have hsd:=fun(dk:Array α) (hdk:dk.size=d.size) (m:Nat) (os2:Array Go.Obj)=>hS.sorted val hl0 (os':=(0,uQ (.row ⟨true,false,e,1,d.size,vals val dk⟩))::os) dk hdk (hlook dk) hb m os2
  have hC:Go.Proofs.CmpLays1 X.P g cb.toArray (fun x:α=>Value.int .i64 (val x)) cf Lc.blk 0 d.size w:=fun m os2 dk hdk x y=>by
   have h1:=(hcmp x y).reads hno hent rfl (hsd dk hdk m os2) ρ (hgv _) (vs:= .int .i64 (val x):: .int .i64 (val y)::cb) (by
    simp only[SV.renL,SV.ren,z2u,den]
    exact⟨_,_,rfl,⟨_,_,rfl,by rw[hcap];exact hcb,rfl⟩,rfl⟩) (by simp only[SV.ltL,SV.lt,QQ];exact hcl)
   simpa using h1
  refine(Go.Proofs.Any.slices_SortFunc_total L (fun x:α=>Value.int .i64 (val x)) (fun _=>rfl) cf hO g cb.toArray Lc.blk 0 cc d w hent hC hH hblk (by omega) hT).mono ?_;rintro e1 w' ⟨rfl,m,os2,rfl⟩;exact⟨_,rfl,β,.tup [],_,⟨rfl,rfl⟩,own _,by simp only[den];exact⟨[],rfl,rfl⟩,trivial,fin (hsd (z5g cf d) (sortedOf_size cf d) m os2)⟩
end
end Go.Sk
