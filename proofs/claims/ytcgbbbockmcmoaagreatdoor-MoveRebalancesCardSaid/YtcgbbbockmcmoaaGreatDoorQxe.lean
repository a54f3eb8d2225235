/-
  Walks and plain facts, joined: part 5 of 6.
  Conditions: those that each statement names.
-/
import Derived.Test.YtcgbbbockmcmoaaGreatDoorQxd
import Derived.Test.YtcgbbbockmcmoaaGreatDoorQxc
import Derived.Test.YtcgbbbockmcmoaaGreatDoorQxb
set_option linter.unusedSimpArgs false
set_option linter.unusedVariables false
set_option maxRecDepth 4000
namespace Go.Proofs
open Go.Sk
theorem hoR_eqT (g:Bool)(f:Nat)(l:List Hd)(i:Nat):([SV.int .i64 (hd l i).nd.id,.str (hd l i).nd.key,.int .u32 (hd l i).nd.word,.slc g f (i+1) 0 (hd l i).rows.length]=hoR g f l i)=True:=eq_true rfl
theorem mrg_hd {V:List Hd}{a b:Nat}(hb:b<V.length)(q:Nat):hd (z7n V a b) q=if q=b then(if a<b then⟨z54 (hd V b).nd (hd V a).nd.key,(hd V a).rows++(hd V b).rows⟩ else⟨(hd V b).nd,(hd V b).rows++(hd V a).rows⟩) else hd V q:=by
 rw[z7n]
 split
 ·rw[hd_set _ _ _ _ hb]
 ·rw[hd_set _ _ _ _ hb]
def movY (X:List Hd)(k N:Nat)(x:Nd):List Hd:=X.set k ⟨(hd X k).nd,(hd X k).rows.take N⟩++[⟨z54 x (ro (hd X k).rows N).key,(hd X k).rows.drop N⟩]
theorem movY_lt {X:List Hd}{k N:Nat}{x:Nd}(hk:k<X.length){q:Nat}(hq:q<X.length):hd (movY X k N x) q=if q=k then⟨(hd X k).nd,(hd X k).rows.take N⟩ else hd X q:=by
 rw[movY,hd_append (by rw[List.length_set];exact hq),hd_set _ _ _ _ hk]
theorem movY_last {X:List Hd}{k N n:Nat}{x:Nd}(hn:X.length=n):hd (movY X k N x) n=⟨z54 x (ro (hd X k).rows N).key,(hd X k).rows.drop N⟩:=by
 have:=hd_last (X.set k ⟨(hd X k).nd,(hd X k).rows.take N⟩) ⟨z54 x (ro (hd X k).rows N).key,(hd X k).rows.drop N⟩;rw[List.length_set,hn] at this;exact this
theorem movH_idx {V:List Hd}{a b k c:Nat}(hb:b<V.length)(hk:k<V.length){N:Nat}(hN:N=(hd (z7n V a b) k).rows.length-c):movH V a b k c=(idxO a k V.length V.length).map (hd (movY (z7n V a b) k N (hd V a).nd)):=by
 have hl:=mrg_len V a b;rw[movH_eq,←hN,List.length_set,hl];refine outH_idx (fun j hj=> ?_) ?_
 ·rw[movY_lt (by omega) (by omega),hd_set _ _ _ _ (by omega)]
 ·rw[movY_last hl]
theorem MvYm.s {a:Prop}(h:a:=by simp[SV.wkL,SV.wk,z1i,z1b,Sk.get,Sk.find,Sk.one,zb.eq_1,zb.eq_2,zb.eq_3,zo,z1k,z1g,SV.renL,SV.ren,Obj.lt_row,SV.ltL,SV.lt,z7c,z3q,zw,z25,Obj.own.eq_1,Obj.own.eq_2,Obj.own.eq_3,Obj.own.eq_4,z1e,zn,zr,z1w,nds,Nd.sv,z14,zx,z3a,z3b,z28,z1r,z2t,z15,z1h,z18,z21,z2u,z1o,z1j,z20,z19,z2h,hohm_gives,z33,oxR_ren',oxR_lt,hoR_eqT]):a:=h
theorem MvYm.c1 {P:Program}{f:FuncId}{args args0:List SV}{H0 H Y g:AH}{X e:SV}{dr:Bool}{W:List Nat}{k:SV→AH→Prop}(hF:ze P f args0 H0 fun s H1=>s=X∧H1=Y)(ρ:Nat→Nat)(h:k e g)(q:CaQ args args0 ρ H0 H dr W:=by constructor<;>exact MvYm.s)(r:CaR ρ H0 H:=by exact⟨rfl,rfl⟩)(b:AfQ (X.ren (z57 H0.nxt H.nxt ρ)) e (after H0.nxt ρ H0 H Y) g:=by exact MvWm.t):z4u P f args H dr W k:=c1S hF ρ h q r b
theorem MvYm.g {X:Cx}{fr:Fr}{H:AH}{fr1:Fr}{H1:AH}(ρ:Nat→Nat)(q:GvQ X ρ fr H fr1 H1:=by constructor<;>exact MvYm.s)(r:GvR X ρ H1:=by exact⟨rfl,rfl,Nat.le_of_ble_eq_true rfl,rfl⟩):z2v X ρ fr H fr1 H1:=gvS ρ q r
theorem MvYm.u {a:Prop}(h:a:=by simp[frGivesP,Sk.get,SV.renP,SV.renPL,mvP,shP,SV.lt,SV.ltL,z7c,Sk.one,z3q,Sk.find,Obj.own.eq_1,Obj.own.eq_2,Obj.own.eq_3,Obj.own.eq_4,z1e,zn,zr,z1w,nds,Nd.sv,z14,zx,z3a,z3b,z28,z1r,z2t,z15,z1h,z18,z21,z2u,z1o,z1j,z20,z1g,z19,z2h,hohm_gives,z33,oxR_ren',oxR_lt,hoR_eqT]):a:=h
theorem MvYm.gp {X:Cx}{fr:Fr}{H:AH}{fr1:Fr}{H1:AH}(ρ:Nat→Nat)(f j a:Nat)(a2:z16 ρ f j a H1.nxt H.os H1.os)(q:GpQ X (mvP ρ f j a) fr H fr1 H1:=by constructor<;>exact MvYm.u)(r:GpR X ρ f H1:=by exact⟨rfl,rfl,Nat.le_of_ble_eq_true rfl,Nat.le_of_ble_eq_true rfl,rfl⟩)(t:GpA X ρ a H1:=by exact⟨rfl,Nat.le_of_ble_eq_true rfl⟩):z8d X (mvP ρ f j a) fr H fr1 H1:=gpS ρ f j a a2 q r t
theorem MvYm.gs {X:Cx}{fr:Fr}{H:AH}{fr1:Fr}{H1:AH}(ρ:Nat→Nat)(f:Nat)(μ:Nat→Nat)(hμ:∀a b,μ a=μ b→a=b)(a2:z5z ρ f μ H1.nxt H.os H1.os)(q:GpQ X (shP ρ f μ) fr H fr1 H1:=by constructor<;>exact MvYm.u)(r:GpR X ρ f H1:=by exact⟨rfl,rfl,Nat.le_of_ble_eq_true rfl,Nat.le_of_ble_eq_true rfl,rfl⟩):z8d X (shP ρ f μ) fr H fr1 H1:=gsS ρ f μ hμ a2 q r
theorem z63 {a:Prop}(h:a:=by simp[SV.wkL,SV.wk,z1i,z1b,Sk.get,Sk.find,Sk.one,zb.eq_1,zb.eq_2,zb.eq_3,zo,z1k,z1g,SV.renL,SV.ren,Obj.lt_row,SV.ltL,SV.lt,z7c,z3q,zw,z25,Obj.own.eq_1,Obj.own.eq_2,Obj.own.eq_3,Obj.own.eq_4,z1e,zn,zr,z1w,nds,Nd.sv,z14,zx,z3a,z3b,z28,z1r,z2t,z15,z1h,z18,z21,z2u,z1o,z1j,z20,z19,z2h,hohm_gives,z33,oxR_ren',oxR_lt,hoR_eqT,zc7]):a:=h
theorem z10 {X:Cx}{fr:Fr}{H:AH}{fr1:Fr}{H1:AH}(ρ:Nat→Nat)(q:GvQ X ρ fr H fr1 H1:=by constructor<;>exact z63)(r:GvR X ρ H1:=by exact⟨rfl,rfl,Nat.le_of_ble_eq_true rfl,rfl⟩):z2v X ρ fr H fr1 H1:=gvS ρ q r
set_option maxHeartbeats 4000000 in
theorem moveP_spec (l:List Hm)(hb:HmB l)(n:Nat)(hn:l.length=n)(a b k c:Int)(hc:In64 c):
  ze Tryz.prog 27 [.slc false 0 0 0 n,.int .i64 a,.int .i64 b,.int .i64 k,.int .i64 c] ⟨2,[(0,Sk.one (.row ⟨false,false,43,4,n,hmR false 1 l⟩)),(1,(n+1,fam false 45 2 (hmF false l)))]⟩
   (fun s H1=> ∃L':List Hm,vls L'=mvR (vls l) a b k c∧HmB L'∧s= .tup [.slc true 2 0 0 L'.length,.int .i64 (mvE (vls l) a b k c)]∧H1=⟨4,[(2,Sk.one (.row ⟨true,false,43,4,L'.length,hmR false 3 L'⟩)),(3,(L'.length+1,fam true 45 2 (hmF true L')))]⟩):=by
 subst hn;have hlen:=hb.len;refine ze.ofC true 139 [.tmp 10,.tmp 11] Tryz.func27 rfl rfl Tryz.ntmps27 Tryz.results27 rfl ?_;intro w0 own0 β0 Q hQ hQn;simp only[z1n];refine z3z [0,1,2,3,4] ?_;refine Cs.seq ?_;refine sg [0,1,2,3,4,21] rfl ?_;intro K hK;refine zz z5 ?_;refine zz z5 ?_;refine MvYm.c1 (validP_spec l hb l.length rfl) (id) ?_;refine zz z5 ?_;refine za (z8 (hK _ _ ?_));clear hK K;refine Cs.cond _ rfl ?_ ?_
 ·intro h21;simp only[Bool.not_eq_true'] at h21;refine z3z [10,11] ?_;refine Cs.nilO 10 43 4 (hmR false 0 []) rfl ?_;dsimp only;refine Cs.fam0 45 2 (hmF true []) ?_;dsimp only;refine Cs.ret ?_;refine hQ _ _ ?_;refine zm.mk (H':=⟨4,[(2,Sk.one (.row ⟨true,false,43,4,0,hmR false 3 []⟩)),(3,(1,fam true 45 2 (hmF true [])))]⟩) (.inl rfl) ?_;refine zh ?_;refine⟨MvYm.s,(MvYm.g id),MvYm.s,?_⟩;have hE:mvE (vls l) a b k c=1:=by rw[mvE,if_pos h21]
  exact⟨[],by rw[mvR,if_neg (by rw[hE];decide)];rfl,⟨Nat.zero_le _,fun x hx=>by cases hx⟩,by rw[hE];trivial,by trivial⟩
 ·intro h21;simp only[Bool.not_eq_false'] at h21;refine Cs.skip ?_;refine sg [1,2,3,4,12] rfl ?_;intro K hK;refine zz z5 ?_;refine zz z5 ?_;refine MvYm.c1 (copyP_spec l hb l.length rfl) (id) ?_;obtain⟨V,hV⟩:∃V,vls l=V:=⟨_,rfl⟩;have hVl:V.length=l.length:=by rw[←hV,z1v]
  rw[hV];rw[hV] at h21;refine zz z5 ?_;refine za (z8 (hK _ _ ?_));clear hK K;refine Cs.seq ?_;refine sg [1,2,3,4,12,39] rfl ?_;intro K hK
  have hk4:∀B:Bool,B=(!besB l.length a b|| !(decide (0≤k) && decide (k<l.length))||k==a)→K [(1,.int .i64 a),(2,.int .i64 b),(3,.int .i64 k),(4,.int .i64 c),(12,.slc true 2 0 0 l.length),(39,.bool B)] ⟨4,[(2,Sk.one (.row ⟨true,false,43,4,l.length,hoR true 3 V⟩)),(3,(l.length+1,fam true 45 2 (hoF true V))),(0,Sk.one (.row ⟨false,false,43,4,l.length,hmR false 1 l⟩)),(1,(l.length+1,fam false 45 2 (hmF false l)))]⟩:=by
   intro B hB;subst hB;refine hK _ _ ?_;clear hK K;refine Cs.cond _ rfl ?_ ?_
   ·intro h39
    refine z3z [10,11] ?_;refine Cs.nilO 10 43 4 (hmR false 0 []) rfl ?_;dsimp only;refine Cs.fam0 45 2 (hmF true []) ?_;dsimp only;refine Cs.ret ?_;refine hQ _ _ ?_;refine zm.mkR (fun q=>if q=2 then 4 else if q=3 then 5 else q) (.tup [.slc true 2 0 0 0,.int .i64 2]) (⟨4,[(2,Sk.one (.row ⟨true,false,43,4,0,hmR false 3 []⟩)),(3,(1,fam true 45 2 (hmF true [])))]⟩) (.inl rfl) ?_;refine zh ?_;refine⟨MvYm.s,MvYm.s,(MvYm.g (fun q=>if q=2 then 4 else if q=3 then 5 else q)),MvYm.s,?_⟩;have hE:mvE (vls l) a b k c=2:=by rw[hV,mvE,if_neg (by rw[h21];decide),hVl,if_pos h39]
    exact⟨[],by rw[mvR,if_neg (by rw[hE];decide)];rfl,⟨Nat.zero_le _,fun x hx=>by cases hx⟩,by rw[hE];trivial,by trivial⟩
   ·intro h39;have hk39:=h39;simp only[Bool.or_eq_false_iff,Bool.not_eq_false',Bool.and_eq_true,decide_eq_true_eq,beq_eq_false_iff_ne] at h39;obtain⟨⟨hbes,hk0,hk1⟩,hka⟩:=h39;obtain⟨⟨ha0,ha1⟩,⟨hb0,hb1⟩,hab⟩:=bes_iff.1 hbes;obtain⟨D,rfl⟩:=Int.eq_ofNat_of_zero_le ha0;obtain⟨E,rfl⟩:=Int.eq_ofNat_of_zero_le hb0;obtain⟨G,rfl⟩:=Int.eq_ofNat_of_zero_le hk0;have hGD:G≠D:=fun e=>hka (by rw[e]);have hw:=(vld_wd h21).1;have hrw:=vld_rows h21;have hrD:=hrw D;have hrE:=hrw E;obtain⟨X,hX⟩:∃X,z7n V D E=X:=⟨_,rfl⟩;have hXl:X.length=l.length:=by rw[←hX,mrg_len,hVl]
    have hXq:∀q,hd X q=if q=E then(if D<E then⟨z54 (hd V E).nd (hd V D).nd.key,(hd V D).rows++(hd V E).rows⟩ else⟨(hd V E).nd,(hd V E).rows++(hd V D).rows⟩) else hd V q:=fun q=>by rw[←hX];exact mrg_hd (by omega) q
    refine Cs.skip ?_;refine z3z [1,2,3,4,12,13] ?_;refine Cs.seq ?_;refine z3z [1,2,3,4,12,13,46] ?_;refine Cs.cond _ rfl ?_ ?_
    ·intro h46;replace h46:=z6 h46;have:E=D+1:=by omega
     subst this;refine Cs.seq ?_;refine Cs.regTree [1,2,3,4,12,13] (.op 0 (.op 1 (.op 2 (.op 3 (.op 5 (.op 6 (.op 7 (.op 8 (.op 9 (.op 4 (.op 10 (.op 11 (.op 12 (.op 13 .done)))))))))))))) [[],[],[],[2],[2,3],[],[],[5,6],[5,6,7],[5,6,7,8],[2,3,4,5,6,7,8,9],[0,1,2,3,4,5,6,7,8,9,10],[0,1,2,3,4,5,6,7,8,9,10,11],[0,1,2,3,4,5,6,7,8,9,10,11,12]] [[],[],[],[],[],[],[],[],[],[],[999999],[],[],[2]] [[],[],[],[],[],[],[],[],[],[],[],[],[],[2]] Tryz.mo rfl rfl (by kernel_rfl) (by kernel_rfl) (by kernel_rfl) rfl (by kernel_rfl) ?_;intro K hK hG
     have hk8:K [(1,.int .i64 D),(2,.int .i64 (D+1:Nat)),(3,.int .i64 G),(4,.int .i64 c),(12,.slc true 2 0 0 l.length),(13,.ptr 4 0 0 0)] ⟨7,[(6,Sk.one (.row ⟨true,false,45,2,(hd V D).rows.length+(hd V (D+1)).rows.length,rws ((hd V D).rows++(hd V (D+1)).rows)⟩)),(4,Sk.one (.row ⟨true,true,43,4,1,fun _=>[.int .i64 (hd V D).nd.id,.str (hd V D).nd.key,.int .u32 (hd V D).nd.word,.slc true 3 (D+1) 0 (hd V D).rows.length]⟩)),(2,Sk.one (.row ⟨true,false,43,4,l.length,fun q=>if q=D+1 then [.int .i64 (hd V (D+1)).nd.id,.str (hd V (D+1)).nd.key,.int .u32 (hd V (D+1)).nd.word,.slc true 6 0 0 ((hd V D).rows.length+(hd V (D+1)).rows.length)] else [.int .i64 (hd V q).nd.id,.str (hd V q).nd.key,.int .u32 (hd V q).nd.word,.slc true 3 (q+1) 0 (hd V q).rows.length]⟩)),(3,(l.length+1,fam true 45 2 (hoF true V)))]⟩:=by
      refine hK _ _ ?_;clear hG hK K;refine z4h [1,3,4,12,13] ?_;refine Cs.seq ?_;have hgd:∀q,q≠(D+1)→hd X q=hd V q:=fun q hq=>by rw[hXq,if_neg hq]
      have hge:hd X (D+1)=⟨z54 (hd V (D+1)).nd (hd V D).nd.key,(hd V D).rows++(hd V (D+1)).rows⟩:=by rw[hXq,if_pos rfl,if_pos (by omega)]
      have hvo:∀q,q<1→(fun _=>[SV.int .i64 (hd V D).nd.id,.str (hd V D).nd.key,.int .u32 (hd V D).nd.word,.slc true 3 (D+1) 0 (hd V D).rows.length]) q=SV.renPL (mvP id 3 (D+1) 6) (hoR true 3 X D):=fun q hq=>by
       rw[z8l,if_neg (by omega),hgd _ (by omega)];rfl
      have hout:∀q,q<l.length→(if q=D+1 then [SV.int .i64 (hd V (D+1)).nd.id,SV.str (hd V D).nd.key,SV.int .u32 (hd V (D+1)).nd.word,SV.slc true 6 0 0 ((hd V D).rows.length+(hd V (D+1)).rows.length)] else if q=D+1 then [SV.int .i64 (hd V (D+1)).nd.id,SV.str (hd V (D+1)).nd.key,SV.int .u32 (hd V (D+1)).nd.word,SV.slc true 6 0 0 ((hd V D).rows.length+(hd V (D+1)).rows.length)] else [SV.int .i64 (hd V q).nd.id,SV.str (hd V q).nd.key,SV.int .u32 (hd V q).nd.word,SV.slc true 3 (q+1) 0 (hd V q).rows.length])=SV.renPL (mvP id 3 (D+1) 6) (hoR true 3 X q):=fun q hq=>by
       rw[z8l]
       by_cases e:q=(D+1)
       ·subst e;simp only[if_true];rw[hge];simp only[List.length_append,z54]
       ·simp only[if_neg e];rw[hgd _ e];rfl
      refine Cs.giveP (fr':=[(1,.int .i64 D),(3,.int .i64 G),(4,.int .i64 c),(12,.slc true 2 0 0 l.length),(13,.ptr 4 0 0 0)]) (H':=⟨5,[(4,Sk.one (.row ⟨true,true,43,4,1,fun _=>hoR true 3 X D⟩)),(2,Sk.one (.row ⟨true,false,43,4,l.length,hoR true 3 X⟩)),(3,(l.length+1,fam true 45 2 (hoF true X)))]⟩) _ (MvYm.gp (id) (3) ((D+1)) (6) (z16.cons1 rfl Nat.zero_lt_one (by decide) (z1c.of (fun _=>⟨rfl,rfl⟩) rfl (Nat.le_refl _) (hvo)) (Obj.lt_row.2 fun q _=>(z2u _ _ _ _ _).2 (Nat.le_of_ble_eq_true rfl)) (Nat.le_of_ble_eq_true rfl) (z16.cons1 rfl Nat.zero_lt_one (by decide) (z1c.of (fun _=>⟨rfl,rfl⟩) rfl (Nat.le_refl _) (hout)) (Obj.lt_row.2 fun q _=>(z2u _ _ _ _ q).2 (Nat.le_of_ble_eq_true rfl)) (Nat.le_of_ble_eq_true rfl) (z16.consF rfl rfl Nat.zero_lt_one ⟨fun _=>⟨rfl,rfl⟩,rfl⟩ (Nat.succ_pos _) (fun q hq hne=>⟨by omega,z6r _ _ _ _ _ _ id (hgd q hne),z1j _ _ _ _⟩) (hoF_newP _ _ _ _ _ (by rw[hge];simp only[List.length_append]) (fun q hq=>by rw[hge])) (z1j _ _ _ _) (Nat.le_of_ble_eq_true rfl) trivial)))) ?_;refine z4h [1,3,4,12,13,14] ?_;refine Cs.seq ?_
      have hXr:∀q,(hd X q).rows.length≤2048:=fun q=>by
       rw[hXq]
       split
       ·split
        ·simp only[List.length_append];omega
        ·simp only[List.length_append];omega
       ·have:=hrw q;omega
      have hrG:=hXr G;have hwr:¬c<1→IntKind.i64.wrap (((hd X G).rows.length:Int)-c)=((hd X G).rows.length:Int)-c:=fun h=>wrap_in (by have:=hc.2;omega);refine z4h [1,3,4,12,13,14,15] ?_;refine Cs.seq ?_;refine z3z [1,3,12,13,14,15,94] ?_;refine Cs.cond _ rfl ?_ ?_
      ·intro h94
       refine z3z [10,11] ?_;refine Cs.nilO 10 43 4 (hmR false 0 []) rfl ?_;dsimp only;refine Cs.fam0 45 2 (hmF true []) ?_;dsimp only;refine Cs.ret ?_;refine hQ _ _ ?_;refine zm.mkR (fun q=>if q=2 then 5 else if q=3 then 6 else q) (.tup [.slc true 2 0 0 0,.int .i64 2]) (⟨4,[(2,Sk.one (.row ⟨true,false,43,4,0,hmR false 3 []⟩)),(3,(1,fam true 45 2 (hmF true [])))]⟩) (.inl rfl) ?_;refine zh ?_;refine⟨MvYm.s,MvYm.s,(MvYm.g (fun q=>if q=2 then 5 else if q=3 then 6 else q)),MvYm.s,?_⟩
       have hE:mvE (vls l) D (D+1:Nat) G c=2:=by
        rw[hV,mvE,if_neg (by rw[h21];decide),hVl,if_neg (by rw[hk39];decide),if_pos];simp only[Int.toNat_natCast,hX,nR];simp only[Bool.or_eq_true,decide_eq_true_eq] at h94 ⊢
        by_cases g:c<1
        ·exact .inl g
        ·rcases h94 with g2|g2
         ·exact absurd g2 g
         ·rw[hwr g] at g2;exact .inr g2
       exact⟨[],by rw[mvR,if_neg (by rw[hE];decide)];rfl,⟨Nat.zero_le _,fun x hx=>by cases hx⟩,by rw[hE];trivial,by trivial⟩
      ·intro h94;simp only[Bool.or_eq_false_iff,decide_eq_false_iff_not] at h94;obtain⟨hc1,hc2⟩:=h94;rw[hwr hc1] at hc2 ⊢;obtain⟨C,rfl⟩:=Int.eq_ofNat_of_zero_le (show 0≤c by omega);obtain⟨N,hN⟩:∃N,N=(hd X G).rows.length-C:=⟨_,rfl⟩;rw[show((hd X G).rows.length:Int)-(C:Int)=(N:Int) by omega]
       have hE:mvE V D (D+1:Nat) G C=0:=by
        rw[mvE_iff];refine⟨h21,by rw[hVl];exact hbes,⟨by omega,by omega⟩,by omega,by omega,?_⟩;simp only[Int.toNat_natCast];rw[hX,nR,Int.toNat_natCast];omega
       obtain⟨Y,hY⟩:∃Y,Y=movY X G N (hd X D).nd:=⟨_,rfl⟩;have hYq:∀q,q<l.length→hd Y q=if q=G then⟨(hd X G).nd,(hd X G).rows.take N⟩ else hd X q:=fun q hq=>by rw[hY];exact movY_lt (by omega) (by omega)
       have hYn:hd Y l.length=⟨z54 (hd X D).nd (ro (hd X G).rows N).key,(hd X G).rows.drop N⟩:=by rw[hY];exact movY_last hXl
       have hmv:movH V D (D+1) G C=(idxO D G l.length l.length).map (hd Y):=by
        rw[movH_idx (by omega) (by omega) (N:=N) (by rw[hX];exact hN),hX,hVl,hY,hgd _ (by omega)]
       refine Cs.skip ?_;refine z3z [1,3,12,13,14,15] ?_;refine Cs.seq ?_;refine Cs.regDraw [1,3,12,13] [0,1,2,4,5,6,7,8,3,9,10,11,12,13] [[],[],[0,1],[0,1,2],[],[],[4,5],[4,5,6],[4,5,6,7],[0,1,2,3],[0,1,2,3,9],[0,1,2,3,4,5,6,7,8,9,10],[0,1,2,3,4,5,6,7,8,9,10,11],[0,1,2,3,4,5,6,7,8,9,10,11,12]] [[],[],[],[],[],[],[],[],[],[],[4],[],[],[4]] [[],[],[],[],[4],[4],[4],[4],[4],[],[4],[4],[4],[4]] Tryz.mo rfl rfl rfl (by kernel_rfl) (by kernel_rfl) (by kernel_rfl) rfl (by kernel_rfl) ?_;intro K hK;iterate 3 (refine zz (zf _ [] [] rfl rfl rfl) ?_)
       iterate 5 (refine zz (zf _ [] [4] rfl rfl rfl) ?_)
       refine zz (zf _ [] [] rfl rfl rfl) ?_;refine MvYm.c1 (cloneRw_spec (ofV X) G l.length N ((hd X G).rows.length-N) (by omega) (by rw[z6o];dsimp only;omega) (by rw[z6o];dsimp only;omega)) (fun q=>if q=0 then 3 else q) ?_;rw[z6o];refine zz (zf _ [] [] rfl rfl rfl) ?_;refine zz (zf _ [4] [4] rfl rfl rfl) ?_;iterate 2 (refine zz (zf _ [] [4] rfl rfl rfl) ?_)
       refine zz (zf _ [4] [4] rfl rfl rfl) ?_;refine z2n (z8 (hK _ _ ?_));clear hK K;refine Cs.seq ?_
       have hvo:∀q,q<1→(fun _=>[SV.int .i64 (hd X D).nd.id,.str (ro (hd X G).rows N).key,.int .u32 (hd X D).nd.word,.slc true 5 0 0 ((hd X G).rows.length-N)]) q=SV.renPL (mvP id 3 l.length 5) (hoR true 3 Y l.length):=fun q hq=>by
        rw[z8l,if_pos rfl,hYn];simp only[List.length_drop,z54]
       have hout:∀q,q<l.length→(if q=G then [SV.int .i64 (hd X G).nd.id,SV.str (hd X G).nd.key,SV.int .u32 (hd X G).nd.word,SV.slc true 3 (G+1) 0 N] else [SV.int .i64 (hd X q).nd.id,SV.str (hd X q).nd.key,SV.int .u32 (hd X q).nd.word,SV.slc true 3 (q+1) 0 (hd X q).rows.length])=SV.renPL (mvP id 3 l.length 5) (hoR true 3 Y q):=fun q hq=>by
        rw[z8l,if_neg (show¬q=l.length by omega),hYq q hq]
        by_cases e:q=G
        ·subst e;rw[if_pos rfl,if_pos rfl];simp only[List.length_take,id];rw[Nat.min_eq_left (by omega)]
        ·rw[if_neg e,if_neg e];rfl
       refine Cs.giveP (fr':=[(1,.int .i64 D),(3,.int .i64 G),(12,.slc true 2 0 0 l.length),(13,.ptr 4 0 0 0)]) (H':=⟨5,[(4,Sk.one (.row ⟨true,true,43,4,1,fun _=>hoR true 3 Y l.length⟩)),(2,Sk.one (.row ⟨true,false,43,4,l.length,hoR true 3 Y⟩)),(3,((l.length+1)+1,fam true 45 2 (hoF true Y)))]⟩) _ (MvYm.gp (id) (3) (l.length) (5) (z16.cons1 rfl Nat.zero_lt_one (by decide) (z1c.of (fun _=>⟨rfl,rfl⟩) rfl (Nat.le_refl _) (hvo)) (Obj.lt_row.2 fun q _=>(z2u _ _ _ _ _).2 (Nat.le_of_ble_eq_true rfl)) (Nat.le_of_ble_eq_true rfl) (z16.cons1 rfl Nat.zero_lt_one (by decide) (z1c.of (fun _=>⟨rfl,rfl⟩) rfl (Nat.le_refl _) (hout)) (Obj.lt_row.2 fun q _=>(z2u _ _ _ _ q).2 (Nat.le_of_ble_eq_true rfl)) (Nat.le_of_ble_eq_true rfl) (z16.consF rfl rfl Nat.zero_lt_one ⟨fun _=>⟨rfl,rfl⟩,rfl⟩ (Nat.succ_pos _) (fun q hq hne=>⟨by omega,by
        by_cases g:q=G
        ·exact hoF_takeP _ _ _ _ _ _ N id (by rw[hYq q (by omega),if_pos g,g])
        ·exact z6r _ _ _ _ _ _ id (by rw[hYq q (by omega),if_neg g]),z1j _ _ _ _⟩) (hoF_newP _ _ _ _ _ (by rw[hYn];simp only[List.length_drop]) (fun q hq=>by rw[hYn])) (z1j _ _ _ _) (Nat.le_of_ble_eq_true rfl) trivial)))) ?_
       refine z4h [1,3,12,13,16] ?_;refine Cs.seq ?_;refine z3z [1,3,13,16,115,116,117] ?_;refine Cs.nilO 16 43 4 (oxR 3 Y []) rfl ?_;dsimp only;refine Cs.block ?_;intro Q0 hN0 hX0 hR0 hE0;refine Cs.loop (σ:=Nat×List Nat) (fun σ=>σ.1≤l.length∧σ.2=idxO D G l.length σ.1∧σ.2.length≤2*σ.1) (fun σ=>l.length-σ.1) (fun σ=>[(1,.int .i64 D),(3,.int .i64 G),(13,.ptr 4 0 0 0),(16,.slc true 5 0 0 σ.2.length),(115,.slc true 2 0 0 l.length),(116,.int .i64 l.length),(117,.int .i64 σ.1)]) (fun σ=>⟨6,[(5,Sk.one (.row ⟨true,false,43,4,σ.2.length,oxR 3 Y σ.2⟩)),(4,Sk.one (.row ⟨true,true,43,4,1,fun _=>hoR true 3 Y l.length⟩)),(2,Sk.one (.row ⟨true,false,43,4,l.length,hoR true 3 Y⟩)),(3,((l.length+1)+1,fam true 45 2 (hoF true Y)))]⟩) (0,[]) ⟨Nat.zero_le _,rfl,Nat.zero_le _⟩ (ρ:=id) (MvYm.g id) ?_;rintro⟨i,idx⟩ hi QL1 hL1 hRL1 hEL1;refine z3z [1,3,13,16,115,116,117,118] ?_;refine Cs.seq ?_;refine Cs.cond _ rfl ?_ ?_
       ·intro h118;replace h118:=z6 h118;obtain⟨hi1,hi2,hi3⟩:=hi;dsimp only at hi1 hi2 hi3;refine Cs.skip ?_;refine Cs.seq ?_;refine Cs.block ?_;intro Q1 hN1 hX1 hR1 hE1;refine z3z [1,3,13,16,17,18,115,116,117] ?_;refine Cs.seq ?_;refine z3z [1,3,13,16,17,18,115,116,117,124] ?_;refine Cs.cond _ rfl ?_ ?_
        ·intro h124;replace h124:=z6 h124;refine z4h [1,3,13,16,17,115,116,117] ?_;refine Cs.seq ?_;refine Cs.wkRow 8 (oxR 3 Y (idx++[i])) rfl rfl (fun q hq=>ox_wk (Nat.le_of_ble_eq_true rfl) Y idx i q hq) ?_;simp only[z44,↓reduceIte,Sk.one,Nat.reduceEqDiff];refine z4h [1,3,13,16,115,116,117,131] ?_;refine Cs.cond _ rfl ?_ ?_
         ·intro h131;replace h131:=z6 h131;refine z4h [1,3,13,16,115,116,117] ?_;refine Cs.nil ?_;refine hN1 _ _ ?_;rw[show idx.length+1=(idx++[i]).length by simp];refine Cs.wkRow 10 (oxR 3 Y ((idx++[i])++[l.length])) rfl rfl (fun q hq=>ox_wk (Nat.le_of_ble_eq_true rfl) Y (idx++[i]) l.length q hq) ?_;simp only[z44,↓reduceIte,Sk.one,Nat.reduceEqDiff];refine z4h [1,3,13,16,115,116,117] ?_;refine Cs.nil ?_;refine hL1 _ _ ?_;rw[wrap_in (n:=(i:Int)+1) (by omega),show(i:Int)+1=((i+1:Nat):Int) from by omega];exact⟨(i+1,(idx++[i])++[l.length]),⟨⟨by dsimp only;omega,by dsimp only;rw[idxO,←hi2,if_neg (by omega),if_pos (by omega)],by simp only[List.length_append,List.length_singleton];omega⟩,by dsimp only;omega⟩,fun q=>if q=5 then 10 else q,(z10 (fun q=>if q=5 then 10 else q))⟩
         ·intro h131;replace h131:=z6 h131;refine Cs.skip ?_;refine Cs.nil ?_;refine hN1 _ _ ?_;refine z4h [1,3,13,16,115,116,117] ?_;refine Cs.nil ?_;refine hL1 _ _ ?_;rw[wrap_in (n:=(i:Int)+1) (by omega),show(i:Int)+1=((i+1:Nat):Int) from by omega];exact⟨(i+1,(idx++[i])),⟨⟨by dsimp only;omega,by dsimp only;rw[idxO,←hi2,if_neg (by omega),if_neg (by omega),List.append_nil],by simp only[List.length_append,List.length_singleton];omega⟩,by dsimp only;omega⟩,fun q=>if q=5 then 8 else q,(z10 (fun q=>if q=5 then 8 else q))⟩
        ·intro h124;replace h124:=z6 h124;refine Cs.skip ?_;refine z3z [1,3,13,16,115,116,117,131] ?_;refine Cs.cond _ rfl ?_ ?_
         ·intro h131;replace h131:=z6 h131;refine z4h [1,3,13,16,115,116,117] ?_;refine Cs.nil ?_;refine hN1 _ _ ?_;refine Cs.wkRow 8 (oxR 3 Y (idx++[l.length])) rfl rfl (fun q hq=>ox_wk (Nat.le_of_ble_eq_true rfl) Y idx l.length q hq) ?_;simp only[z44,↓reduceIte,Sk.one,Nat.reduceEqDiff];refine z4h [1,3,13,16,115,116,117] ?_;refine Cs.nil ?_;refine hL1 _ _ ?_;rw[wrap_in (n:=(i:Int)+1) (by omega),show(i:Int)+1=((i+1:Nat):Int) from by omega];exact⟨(i+1,idx++[l.length]),⟨⟨by dsimp only;omega,by dsimp only;rw[idxO,←hi2,if_pos (by omega),if_pos (by omega),List.append_nil],by simp only[List.length_append,List.length_singleton];omega⟩,by dsimp only;omega⟩,fun q=>if q=5 then 8 else q,(z10 (fun q=>if q=5 then 8 else q))⟩
         ·intro h131;replace h131:=z6 h131;refine Cs.skip ?_;refine Cs.nil ?_;refine hN1 _ _ ?_;refine z4h [1,3,13,16,115,116,117] ?_;refine Cs.nil ?_;refine hL1 _ _ ?_;rw[wrap_in (n:=(i:Int)+1) (by omega),show(i:Int)+1=((i+1:Nat):Int) from by omega];exact⟨(i+1,idx),⟨⟨by dsimp only;omega,by dsimp only;rw[idxO,←hi2,if_pos (by omega),if_neg (by omega),List.append_nil,List.append_nil],by simp only[List.length_append,List.length_singleton];omega⟩,by dsimp only;omega⟩,id,(MvYm.g id)⟩
       ·intro h118;replace h118:=z6 h118;obtain⟨hi1,hi2,hi3⟩:=hi;dsimp only at hi1 hi2 hi3;refine Cs.exit ?_;refine hEL1 _ _ _ ?_;refine hX0 _ _ ?_;refine Cs.seq ?_;have hin:i=l.length:=by omega
        subst hin
        have hil:idx.length=l.length:=by
         have:=idxO_len D G l.length l.length;rw[if_pos (by omega),if_pos (by omega)] at this;rw[hi2];omega
        rw[hil];obtain⟨Z,hZ⟩:∃Z,Z=idx.map (hd Y):=⟨_,rfl⟩;have hZl:Z.length=l.length:=by rw[hZ,List.length_map,hil]
        have hZq:∀q,q<l.length→hd Z q=hd Y (idx.getD q 0):=fun q hq=>by rw[hZ];exact hd_map Y idx (by omega)
        have hnu:∀q,q<l.length→nuO D G l.length q=idx.getD q 0:=fun q hq=>by rw[nuO,if_pos hq,hi2]
        have hout:∀q,q<l.length→oxR 3 Y idx q=SV.renPL (shP (fun q=>if q=2 then 5 else q) 3 (up (nuO D G l.length))) (hoR true 3 Z q):=fun q hq=>by
         rw[hoR_renS,hnu q hq,hZq q hq];rfl
        refine Cs.giveP (fr':=[(16,.slc true 2 0 0 l.length)]) (H':=⟨4,[(2,Sk.one (.row ⟨true,false,43,4,l.length,hoR true 3 Z⟩)),(3,(l.length+1,fam true 45 2 (hoF true Z)))]⟩) _ (MvYm.gs (fun q=>if q=2 then 5 else q) (3) (up (nuO D G l.length)) (up_inj (nuO_inj (by omega) (by omega))) (z5z.cons1 rfl Nat.zero_lt_one (by decide) (z1c.of (fun _=>⟨rfl,rfl⟩) rfl (Nat.le_refl _) (hout)) (Obj.lt_row.2 fun q _=>(z2u _ _ _ _ q).2 (Nat.le_of_ble_eq_true rfl)) (Nat.le_of_ble_eq_true rfl) (z5z.consF rfl ⟨fun _=>⟨rfl,rfl⟩,rfl⟩ (fun i hi=>⟨by have:=nuO_lt (a:=D) (k:=G) (n:=l.length) (by omega) (by omega) (q:=i) (by omega);omega,hoF_givesI _ _ _ _ _ (by rw[hZq i (by omega),hnu i (by omega)]),z1j _ _ _ _⟩) (Nat.le_of_ble_eq_true rfl) trivial))) ?_;refine Cs.wkRow 2 (hmR false 3 (ofV Z)) rfl rfl (fun q hq=>hoR_wk (Nat.le_of_ble_eq_true rfl) _ _) ?_;simp only[z44,↓reduceIte,Sk.one,Nat.reduceEqDiff];rw[hoF_hm];refine Cs.reg [10,11] rfl ?_;intro K hK;refine zz z5 ?_;refine zz z5 ?_;refine MvYm.c1 (firstP_spec (ofV Z) l.length (by rw[z6l];exact hZl) (by omega)) (fun q=>if q=0 then 2 else if q=1 then 3 else q) ?_;iterate 2 (refine zz z5 ?_)
        refine za (z8 (hK _ _ ?_));clear hK K;refine Cs.ret ?_;refine hQ _ _ ?_;refine zm.mk (H':=⟨4,[(2,Sk.one (.row ⟨true,false,43,4,l.length,hmR false 3 (fstM (ofV Z))⟩)),(3,(l.length+1,fam true 45 2 (hmF true (ofV Z))))]⟩) (.inl rfl) ?_;refine zh ?_;refine⟨MvYm.s,(MvYm.g id),MvYm.s,?_⟩
        have hZr:∀q,(hd Z q).rows.length≤3000:=fun q=>by
         by_cases hq:q<l.length
         ·rw[hZq q hq];rcases(idxO_ok (a:=D) (k:=G) (Nat.le_refl l.length)).2 (idx.getD q 0) (by rw[←hi2,List.getD,List.getElem?_eq_getElem (by omega)];exact List.getElem_mem _) with⟨g,_⟩|⟨g,_⟩
          ·rw[hYq _ g]
           split
           ·simp only[List.length_take];have:=hXr G;omega
           ·have:=hXr (idx.getD q 0);omega
          ·rw[g,hYn];simp only[List.length_drop];have:=hXr G;omega
         ·have:hd Z q=noHd:=by simp[hd,List.getD,List.getElem?_eq_none (show Z.length≤q by omega)]
          rw[this];exact Nat.zero_le _
        refine⟨fstM (ofV Z),?_,(HmB.ofV (by omega) hZr).fst,?_,?_⟩
        ·rw[hV,mvR,if_pos hE,z7z,vls_ofV];simp only[Int.toNat_natCast];rw[hmv,hZ,hi2]
        ·rw[hV,hE,z2i,z6l,hZl]
        ·rw[z2i,z6l,hZl,hmF_fst]
     refine zz (z9 _ [] [] [] rfl rfl rfl rfl) ?_;refine zz (z9 _ [] [] [] rfl rfl rfl rfl) ?_;refine zz (z9 _ [] [] [] rfl rfl rfl rfl) ?_;refine zz (z9 _ [] [] [] rfl rfl rfl rfl) ?_;refine zz (z9 _ [] [] [] rfl rfl rfl rfl) ?_;refine zz (z9 _ [] [] [] rfl rfl rfl rfl) ?_;refine zz (z9 _ [] [] [] rfl rfl rfl rfl) ?_;refine zz (z9 _ [] [] [] rfl rfl rfl rfl) ?_;refine zz (z9 _ [] [] [] rfl rfl rfl rfl) ?_;refine zz (z9 _ [] [] [] rfl rfl rfl rfl) ?_;refine MvYm.c1 (cloneRw_spec (ofV V) D l.length 0 (hd V D).rows.length (by omega) (by rw[z6o];dsimp only;omega) (by rw[z6o];dsimp only;omega)) (fun q=>if q=0 then 3 else q) ?_;rw[z6o];refine zz (z9 _ [0,1,2,3,4,5] [] [] rfl rfl rfl rfl) ?_;refine zz (z9 _ [] [] [] rfl rfl rfl rfl) ?_;refine zz (z9 _ [] [] [] rfl rfl rfl rfl) ?_;refine zz (z9 _ [2] [2] [] rfl rfl rfl rfl) ?_;refine z12 ?_;refine z8 ?_;rw[z7w rfl];exact hG _ _ _ _ id (MvYm.g id) hk8
    ·intro h46;replace h46:=z6 h46;have:D=E+1:=by omega
     subst this;refine Cs.regDraw [1,3,4,12,13] [0,1,2,3,4,5,6,7,8,9,10,11,12] [[],[],[],[],[2,3],[2,3,4],[2,3,4,5],[],[7],[2,3,4,5,6,7,8],[0,1,2,3,4,5,6,7,8,9],[0,1,2,3,4,5,6,7,8,9,10],[0,1,2,3,4,5,6,7,8,9,10,11]] [[],[],[],[],[],[],[],[],[],[3],[],[],[2]] [[3],[3],[],[],[],[],[],[],[],[3],[3],[3],[2,3]] Tryz.mo rfl rfl rfl (by kernel_rfl) (by kernel_rfl) (by kernel_rfl) rfl (by kernel_rfl) ?_;intro K hK;iterate 2 (refine zz (zf _ [] [3] rfl rfl rfl) ?_)
     iterate 7 (refine zz (zf _ [] [] rfl rfl rfl) ?_)
     refine zz (zf _ [3] [3] rfl rfl rfl) ?_;iterate 2 (refine zz (zf _ [] [3] rfl rfl rfl) ?_)
     refine zz (zf _ [2] [2,3] rfl rfl rfl) ?_;refine z2n (z8 (hK _ _ ?_));clear hK K;refine Cs.seq ?_;have hgd:∀q,q≠E→hd X q=hd V q:=fun q hq=>by rw[hXq,if_neg hq]
     have hge:hd X E=⟨(hd V E).nd,(hd V E).rows++(hd V (E+1)).rows⟩:=by rw[hXq,if_pos rfl,if_neg (by omega)]
     have hvo:∀q,q<1→(fun _=>[SV.int .i64 (hd V (E+1)).nd.id,.str (hd V (E+1)).nd.key,.int .u32 (hd V (E+1)).nd.word,.slc true 3 ((E+1)+1) 0 (hd V (E+1)).rows.length]) q=SV.renPL (mvP id 3 E 5) (hoR true 3 X (E+1)):=fun q hq=>by
      rw[z8l,if_neg (by omega),hgd _ (by omega)];rfl
     have hout:∀q,q<l.length→(if q=E then [SV.int .i64 (hd V E).nd.id,SV.str (hd V E).nd.key,SV.int .u32 (hd V E).nd.word,SV.slc true 5 0 0 ((hd V E).rows.length+(hd V (E+1)).rows.length)] else [SV.int .i64 (hd V q).nd.id,SV.str (hd V q).nd.key,SV.int .u32 (hd V q).nd.word,SV.slc true 3 (q+1) 0 (hd V q).rows.length])=SV.renPL (mvP id 3 E 5) (hoR true 3 X q):=fun q hq=>by
      rw[z8l]
      by_cases e:q=E
      ·subst e;simp only[if_true];rw[hge];simp only[List.length_append,z54]
      ·simp only[if_neg e];rw[hgd _ e];rfl
     refine Cs.giveP (fr':=[(1,.int .i64 (E+1:Nat)),(3,.int .i64 G),(4,.int .i64 c),(12,.slc true 2 0 0 l.length),(13,.ptr 4 0 0 0)]) (H':=⟨5,[(4,Sk.one (.row ⟨true,true,43,4,1,fun _=>hoR true 3 X (E+1)⟩)),(2,Sk.one (.row ⟨true,false,43,4,l.length,hoR true 3 X⟩)),(3,(l.length+1,fam true 45 2 (hoF true X)))]⟩) _ (MvYm.gp (id) (3) (E) (5) (z16.cons1 rfl Nat.zero_lt_one (by decide) (z1c.of (fun _=>⟨rfl,rfl⟩) rfl (Nat.le_refl _) (hvo)) (Obj.lt_row.2 fun q _=>(z2u _ _ _ _ _).2 (Nat.le_of_ble_eq_true rfl)) (Nat.le_of_ble_eq_true rfl) (z16.cons1 rfl Nat.zero_lt_one (by decide) (z1c.of (fun _=>⟨rfl,rfl⟩) rfl (Nat.le_refl _) (hout)) (Obj.lt_row.2 fun q _=>(z2u _ _ _ _ q).2 (Nat.le_of_ble_eq_true rfl)) (Nat.le_of_ble_eq_true rfl) (z16.consF rfl rfl Nat.zero_lt_one ⟨fun _=>⟨rfl,rfl⟩,rfl⟩ (Nat.succ_pos _) (fun q hq hne=>⟨by omega,by rw[if_neg hne];exact z6r _ _ _ V X q id (hgd q hne),z1j _ _ _ _⟩) (hoF_newP _ _ _ _ _ (by rw[hge];simp only[List.length_append]) (fun q hq=>by rw[hge,app_rws])) (z1j _ _ _ _) (Nat.le_of_ble_eq_true rfl) trivial)))) ?_;refine z4h [1,3,4,12,13,14] ?_;refine Cs.seq ?_
     have hXr:∀q,(hd X q).rows.length≤2048:=fun q=>by
      rw[hXq]
      split
      ·split
       ·simp only[List.length_append];omega
       ·simp only[List.length_append];omega
      ·have:=hrw q;omega
     have hrG:=hXr G;have hwr:¬c<1→IntKind.i64.wrap (((hd X G).rows.length:Int)-c)=((hd X G).rows.length:Int)-c:=fun h=>wrap_in (by have:=hc.2;omega);refine z4h [1,3,4,12,13,14,15] ?_;refine Cs.seq ?_;refine z3z [1,3,12,13,14,15,94] ?_;refine Cs.cond _ rfl ?_ ?_
     ·intro h94
      refine z3z [10,11] ?_;refine Cs.nilO 10 43 4 (hmR false 0 []) rfl ?_;dsimp only;refine Cs.fam0 45 2 (hmF true []) ?_;dsimp only;refine Cs.ret ?_;refine hQ _ _ ?_;refine zm.mkR (fun q=>if q=2 then 5 else if q=3 then 6 else q) (.tup [.slc true 2 0 0 0,.int .i64 2]) (⟨4,[(2,Sk.one (.row ⟨true,false,43,4,0,hmR false 3 []⟩)),(3,(1,fam true 45 2 (hmF true [])))]⟩) (.inl rfl) ?_;refine zh ?_;refine⟨MvYm.s,MvYm.s,(MvYm.g (fun q=>if q=2 then 5 else if q=3 then 6 else q)),MvYm.s,?_⟩
      have hE:mvE (vls l) (E+1:Nat) E G c=2:=by
       rw[hV,mvE,if_neg (by rw[h21];decide),hVl,if_neg (by rw[hk39];decide),if_pos];simp only[Int.toNat_natCast,hX,nR];simp only[Bool.or_eq_true,decide_eq_true_eq] at h94 ⊢
       by_cases g:c<1
       ·exact .inl g
       ·rcases h94 with g2|g2
        ·exact absurd g2 g
        ·rw[hwr g] at g2;exact .inr g2
      exact⟨[],by rw[mvR,if_neg (by rw[hE];decide)];rfl,⟨Nat.zero_le _,fun x hx=>by cases hx⟩,by rw[hE];trivial,by trivial⟩
     ·intro h94;simp only[Bool.or_eq_false_iff,decide_eq_false_iff_not] at h94;obtain⟨hc1,hc2⟩:=h94;rw[hwr hc1] at hc2 ⊢;obtain⟨C,rfl⟩:=Int.eq_ofNat_of_zero_le (show 0≤c by omega);obtain⟨N,hN⟩:∃N,N=(hd X G).rows.length-C:=⟨_,rfl⟩;rw[show((hd X G).rows.length:Int)-(C:Int)=(N:Int) by omega]
      have hE:mvE V (E+1:Nat) E G C=0:=by
       rw[mvE_iff];refine⟨h21,by rw[hVl];exact hbes,⟨by omega,by omega⟩,by omega,by omega,?_⟩;simp only[Int.toNat_natCast];rw[hX,nR,Int.toNat_natCast];omega
      obtain⟨Y,hY⟩:∃Y,Y=movY X G N (hd X (E+1)).nd:=⟨_,rfl⟩;have hYq:∀q,q<l.length→hd Y q=if q=G then⟨(hd X G).nd,(hd X G).rows.take N⟩ else hd X q:=fun q hq=>by rw[hY];exact movY_lt (by omega) (by omega)
      have hYn:hd Y l.length=⟨z54 (hd X (E+1)).nd (ro (hd X G).rows N).key,(hd X G).rows.drop N⟩:=by rw[hY];exact movY_last hXl
      have hmv:movH V (E+1) E G C=(idxO (E+1) G l.length l.length).map (hd Y):=by
       rw[movH_idx (by omega) (by omega) (N:=N) (by rw[hX];exact hN),hX,hVl,hY,hgd _ (by omega)]
      refine Cs.skip ?_;refine z3z [1,3,12,13,14,15] ?_;refine Cs.seq ?_;refine Cs.regDraw [1,3,12,13] [0,1,2,4,5,6,7,8,3,9,10,11,12,13] [[],[],[0,1],[0,1,2],[],[],[4,5],[4,5,6],[4,5,6,7],[0,1,2,3],[0,1,2,3,9],[0,1,2,3,4,5,6,7,8,9,10],[0,1,2,3,4,5,6,7,8,9,10,11],[0,1,2,3,4,5,6,7,8,9,10,11,12]] [[],[],[],[],[],[],[],[],[],[],[4],[],[],[4]] [[],[],[],[],[4],[4],[4],[4],[4],[],[4],[4],[4],[4]] Tryz.mo rfl rfl rfl (by kernel_rfl) (by kernel_rfl) (by kernel_rfl) rfl (by kernel_rfl) ?_;intro K hK;iterate 3 (refine zz (zf _ [] [] rfl rfl rfl) ?_)
      iterate 5 (refine zz (zf _ [] [4] rfl rfl rfl) ?_)
      refine zz (zf _ [] [] rfl rfl rfl) ?_;refine MvYm.c1 (cloneRw_spec (ofV X) G l.length N ((hd X G).rows.length-N) (by omega) (by rw[z6o];dsimp only;omega) (by rw[z6o];dsimp only;omega)) (fun q=>if q=0 then 3 else q) ?_;rw[z6o];refine zz (zf _ [] [] rfl rfl rfl) ?_;refine zz (zf _ [4] [4] rfl rfl rfl) ?_;iterate 2 (refine zz (zf _ [] [4] rfl rfl rfl) ?_)
      refine zz (zf _ [4] [4] rfl rfl rfl) ?_;refine z2n (z8 (hK _ _ ?_));clear hK K;refine Cs.seq ?_
      have hvo:∀q,q<1→(fun _=>[SV.int .i64 (hd X (E+1)).nd.id,.str (ro (hd X G).rows N).key,.int .u32 (hd X (E+1)).nd.word,.slc true 5 0 0 ((hd X G).rows.length-N)]) q=SV.renPL (mvP id 3 l.length 5) (hoR true 3 Y l.length):=fun q hq=>by
       rw[z8l,if_pos rfl,hYn];simp only[List.length_drop,z54]
      have hout:∀q,q<l.length→(if q=G then [SV.int .i64 (hd X G).nd.id,SV.str (hd X G).nd.key,SV.int .u32 (hd X G).nd.word,SV.slc true 3 (G+1) 0 N] else [SV.int .i64 (hd X q).nd.id,SV.str (hd X q).nd.key,SV.int .u32 (hd X q).nd.word,SV.slc true 3 (q+1) 0 (hd X q).rows.length])=SV.renPL (mvP id 3 l.length 5) (hoR true 3 Y q):=fun q hq=>by
       rw[z8l,if_neg (show¬q=l.length by omega),hYq q hq]
       by_cases e:q=G
       ·subst e;rw[if_pos rfl,if_pos rfl];simp only[List.length_take,id];rw[Nat.min_eq_left (by omega)]
       ·rw[if_neg e,if_neg e];rfl
      refine Cs.giveP (fr':=[(1,.int .i64 (E+1:Nat)),(3,.int .i64 G),(12,.slc true 2 0 0 l.length),(13,.ptr 4 0 0 0)]) (H':=⟨5,[(4,Sk.one (.row ⟨true,true,43,4,1,fun _=>hoR true 3 Y l.length⟩)),(2,Sk.one (.row ⟨true,false,43,4,l.length,hoR true 3 Y⟩)),(3,((l.length+1)+1,fam true 45 2 (hoF true Y)))]⟩) _ (MvYm.gp (id) (3) (l.length) (5) (z16.cons1 rfl Nat.zero_lt_one (by decide) (z1c.of (fun _=>⟨rfl,rfl⟩) rfl (Nat.le_refl _) (hvo)) (Obj.lt_row.2 fun q _=>(z2u _ _ _ _ _).2 (Nat.le_of_ble_eq_true rfl)) (Nat.le_of_ble_eq_true rfl) (z16.cons1 rfl Nat.zero_lt_one (by decide) (z1c.of (fun _=>⟨rfl,rfl⟩) rfl (Nat.le_refl _) (hout)) (Obj.lt_row.2 fun q _=>(z2u _ _ _ _ q).2 (Nat.le_of_ble_eq_true rfl)) (Nat.le_of_ble_eq_true rfl) (z16.consF rfl rfl Nat.zero_lt_one ⟨fun _=>⟨rfl,rfl⟩,rfl⟩ (Nat.succ_pos _) (fun q hq hne=>⟨by omega,by
       by_cases g:q=G
       ·exact hoF_takeP _ _ _ _ _ _ N id (by rw[hYq q (by omega),if_pos g,g])
       ·exact z6r _ _ _ _ _ _ id (by rw[hYq q (by omega),if_neg g]),z1j _ _ _ _⟩) (hoF_newP _ _ _ _ _ (by rw[hYn];simp only[List.length_drop]) (fun q hq=>by rw[hYn])) (z1j _ _ _ _) (Nat.le_of_ble_eq_true rfl) trivial)))) ?_
      refine z4h [1,3,12,13,16] ?_;refine Cs.seq ?_;refine z3z [1,3,13,16,115,116,117] ?_;refine Cs.nilO 16 43 4 (oxR 3 Y []) rfl ?_;dsimp only;refine Cs.block ?_;intro Q0 hN0 hX0 hR0 hE0;refine Cs.loop (σ:=Nat×List Nat) (fun σ=>σ.1≤l.length∧σ.2=idxO (E+1) G l.length σ.1∧σ.2.length≤2*σ.1) (fun σ=>l.length-σ.1) (fun σ=>[(1,.int .i64 (E+1:Nat)),(3,.int .i64 G),(13,.ptr 4 0 0 0),(16,.slc true 5 0 0 σ.2.length),(115,.slc true 2 0 0 l.length),(116,.int .i64 l.length),(117,.int .i64 σ.1)]) (fun σ=>⟨6,[(5,Sk.one (.row ⟨true,false,43,4,σ.2.length,oxR 3 Y σ.2⟩)),(4,Sk.one (.row ⟨true,true,43,4,1,fun _=>hoR true 3 Y l.length⟩)),(2,Sk.one (.row ⟨true,false,43,4,l.length,hoR true 3 Y⟩)),(3,((l.length+1)+1,fam true 45 2 (hoF true Y)))]⟩) (0,[]) ⟨Nat.zero_le _,rfl,Nat.zero_le _⟩ (ρ:=id) (MvYm.g id) ?_;rintro⟨i,idx⟩ hi QL1 hL1 hRL1 hEL1;refine z3z [1,3,13,16,115,116,117,118] ?_;refine Cs.seq ?_;refine Cs.cond _ rfl ?_ ?_
      ·intro h118;replace h118:=z6 h118;obtain⟨hi1,hi2,hi3⟩:=hi;dsimp only at hi1 hi2 hi3;refine Cs.skip ?_;refine Cs.seq ?_;refine Cs.block ?_;intro Q1 hN1 hX1 hR1 hE1;refine z3z [1,3,13,16,17,18,115,116,117] ?_;refine Cs.seq ?_;refine z3z [1,3,13,16,17,18,115,116,117,124] ?_;refine Cs.cond _ rfl ?_ ?_
       ·intro h124;replace h124:=z6 h124;refine z4h [1,3,13,16,17,115,116,117] ?_;refine Cs.seq ?_;refine Cs.wkRow 8 (oxR 3 Y (idx++[i])) rfl rfl (fun q hq=>ox_wk (Nat.le_of_ble_eq_true rfl) Y idx i q hq) ?_;simp only[z44,↓reduceIte,Sk.one,Nat.reduceEqDiff];refine z4h [1,3,13,16,115,116,117,131] ?_;refine Cs.cond _ rfl ?_ ?_
        ·intro h131;replace h131:=z6 h131;refine z4h [1,3,13,16,115,116,117] ?_;refine Cs.nil ?_;refine hN1 _ _ ?_;rw[show idx.length+1=(idx++[i]).length by simp];refine Cs.wkRow 10 (oxR 3 Y ((idx++[i])++[l.length])) rfl rfl (fun q hq=>ox_wk (Nat.le_of_ble_eq_true rfl) Y (idx++[i]) l.length q hq) ?_;simp only[z44,↓reduceIte,Sk.one,Nat.reduceEqDiff];refine z4h [1,3,13,16,115,116,117] ?_;refine Cs.nil ?_;refine hL1 _ _ ?_;rw[wrap_in (n:=(i:Int)+1) (by omega),show(i:Int)+1=((i+1:Nat):Int) from by omega];exact⟨(i+1,(idx++[i])++[l.length]),⟨⟨by dsimp only;omega,by dsimp only;rw[idxO,←hi2,if_neg (by omega),if_pos (by omega)],by simp only[List.length_append,List.length_singleton];omega⟩,by dsimp only;omega⟩,fun q=>if q=5 then 10 else q,(z10 (fun q=>if q=5 then 10 else q))⟩
        ·intro h131;replace h131:=z6 h131;refine Cs.skip ?_;refine Cs.nil ?_;refine hN1 _ _ ?_;refine z4h [1,3,13,16,115,116,117] ?_;refine Cs.nil ?_;refine hL1 _ _ ?_;rw[wrap_in (n:=(i:Int)+1) (by omega),show(i:Int)+1=((i+1:Nat):Int) from by omega];exact⟨(i+1,(idx++[i])),⟨⟨by dsimp only;omega,by dsimp only;rw[idxO,←hi2,if_neg (by omega),if_neg (by omega),List.append_nil],by simp only[List.length_append,List.length_singleton];omega⟩,by dsimp only;omega⟩,fun q=>if q=5 then 8 else q,(z10 (fun q=>if q=5 then 8 else q))⟩
       ·intro h124;replace h124:=z6 h124;refine Cs.skip ?_;refine z3z [1,3,13,16,115,116,117,131] ?_;refine Cs.cond _ rfl ?_ ?_
        ·intro h131;replace h131:=z6 h131;refine z4h [1,3,13,16,115,116,117] ?_;refine Cs.nil ?_;refine hN1 _ _ ?_;refine Cs.wkRow 8 (oxR 3 Y (idx++[l.length])) rfl rfl (fun q hq=>ox_wk (Nat.le_of_ble_eq_true rfl) Y idx l.length q hq) ?_;simp only[z44,↓reduceIte,Sk.one,Nat.reduceEqDiff];refine z4h [1,3,13,16,115,116,117] ?_;refine Cs.nil ?_;refine hL1 _ _ ?_;rw[wrap_in (n:=(i:Int)+1) (by omega),show(i:Int)+1=((i+1:Nat):Int) from by omega];exact⟨(i+1,idx++[l.length]),⟨⟨by dsimp only;omega,by dsimp only;rw[idxO,←hi2,if_pos (by omega),if_pos (by omega),List.append_nil],by simp only[List.length_append,List.length_singleton];omega⟩,by dsimp only;omega⟩,fun q=>if q=5 then 8 else q,(z10 (fun q=>if q=5 then 8 else q))⟩
        ·intro h131;replace h131:=z6 h131;refine Cs.skip ?_;refine Cs.nil ?_;refine hN1 _ _ ?_;refine z4h [1,3,13,16,115,116,117] ?_;refine Cs.nil ?_;refine hL1 _ _ ?_;rw[wrap_in (n:=(i:Int)+1) (by omega),show(i:Int)+1=((i+1:Nat):Int) from by omega];exact⟨(i+1,idx),⟨⟨by dsimp only;omega,by dsimp only;rw[idxO,←hi2,if_pos (by omega),if_neg (by omega),List.append_nil,List.append_nil],by simp only[List.length_append,List.length_singleton];omega⟩,by dsimp only;omega⟩,id,(MvYm.g id)⟩
      ·intro h118;replace h118:=z6 h118;obtain⟨hi1,hi2,hi3⟩:=hi;dsimp only at hi1 hi2 hi3;refine Cs.exit ?_;refine hEL1 _ _ _ ?_;refine hX0 _ _ ?_;refine Cs.seq ?_;have hin:i=l.length:=by omega
       subst hin
       have hil:idx.length=l.length:=by
        have:=idxO_len (E+1) G l.length l.length;rw[if_pos (by omega),if_pos (by omega)] at this;rw[hi2];omega
       rw[hil];obtain⟨Z,hZ⟩:∃Z,Z=idx.map (hd Y):=⟨_,rfl⟩;have hZl:Z.length=l.length:=by rw[hZ,List.length_map,hil]
       have hZq:∀q,q<l.length→hd Z q=hd Y (idx.getD q 0):=fun q hq=>by rw[hZ];exact hd_map Y idx (by omega)
       have hnu:∀q,q<l.length→nuO (E+1) G l.length q=idx.getD q 0:=fun q hq=>by rw[nuO,if_pos hq,hi2]
       have hout:∀q,q<l.length→oxR 3 Y idx q=SV.renPL (shP (fun q=>if q=2 then 5 else q) 3 (up (nuO (E+1) G l.length))) (hoR true 3 Z q):=fun q hq=>by
        rw[hoR_renS,hnu q hq,hZq q hq];rfl
       refine Cs.giveP (fr':=[(16,.slc true 2 0 0 l.length)]) (H':=⟨4,[(2,Sk.one (.row ⟨true,false,43,4,l.length,hoR true 3 Z⟩)),(3,(l.length+1,fam true 45 2 (hoF true Z)))]⟩) _ (MvYm.gs (fun q=>if q=2 then 5 else q) (3) (up (nuO (E+1) G l.length)) (up_inj (nuO_inj (by omega) (by omega))) (z5z.cons1 rfl Nat.zero_lt_one (by decide) (z1c.of (fun _=>⟨rfl,rfl⟩) rfl (Nat.le_refl _) (hout)) (Obj.lt_row.2 fun q _=>(z2u _ _ _ _ q).2 (Nat.le_of_ble_eq_true rfl)) (Nat.le_of_ble_eq_true rfl) (z5z.consF rfl ⟨fun _=>⟨rfl,rfl⟩,rfl⟩ (fun i hi=>⟨by have:=nuO_lt (a:=(E+1)) (k:=G) (n:=l.length) (by omega) (by omega) (q:=i) (by omega);omega,hoF_givesI _ _ _ _ _ (by rw[hZq i (by omega),hnu i (by omega)]),z1j _ _ _ _⟩) (Nat.le_of_ble_eq_true rfl) trivial))) ?_;refine Cs.wkRow 2 (hmR false 3 (ofV Z)) rfl rfl (fun q hq=>hoR_wk (Nat.le_of_ble_eq_true rfl) _ _) ?_;simp only[z44,↓reduceIte,Sk.one,Nat.reduceEqDiff];rw[hoF_hm];refine Cs.reg [10,11] rfl ?_;intro K hK;refine zz z5 ?_;refine zz z5 ?_;refine MvYm.c1 (firstP_spec (ofV Z) l.length (by rw[z6l];exact hZl) (by omega)) (fun q=>if q=0 then 2 else if q=1 then 3 else q) ?_;iterate 2 (refine zz z5 ?_)
       refine za (z8 (hK _ _ ?_));clear hK K;refine Cs.ret ?_;refine hQ _ _ ?_;refine zm.mk (H':=⟨4,[(2,Sk.one (.row ⟨true,false,43,4,l.length,hmR false 3 (fstM (ofV Z))⟩)),(3,(l.length+1,fam true 45 2 (hmF true (ofV Z))))]⟩) (.inl rfl) ?_;refine zh ?_;refine⟨MvYm.s,(MvYm.g id),MvYm.s,?_⟩
       have hZr:∀q,(hd Z q).rows.length≤3000:=fun q=>by
        by_cases hq:q<l.length
        ·rw[hZq q hq];rcases(idxO_ok (a:=(E+1)) (k:=G) (Nat.le_refl l.length)).2 (idx.getD q 0) (by rw[←hi2,List.getD,List.getElem?_eq_getElem (by omega)];exact List.getElem_mem _) with⟨g,_⟩|⟨g,_⟩
         ·rw[hYq _ g]
          split
          ·simp only[List.length_take];have:=hXr G;omega
          ·have:=hXr (idx.getD q 0);omega
         ·rw[g,hYn];simp only[List.length_drop];have:=hXr G;omega
        ·have:hd Z q=noHd:=by simp[hd,List.getD,List.getElem?_eq_none (show Z.length≤q by omega)]
         rw[this];exact Nat.zero_le _
       refine⟨fstM (ofV Z),?_,(HmB.ofV (by omega) hZr).fst,?_,?_⟩
       ·rw[hV,mvR,if_pos hE,z7z,vls_ofV];simp only[Int.toNat_natCast];rw[hmv,hZ,hi2]
       ·rw[hV,hE,z2i,z6l,hZl]
       ·rw[z2i,z6l,hZl,hmF_fst]
  iterate 3 (refine zz z5 ?_)
  refine zz z5 ?_;obtain⟨A,hA⟩:∃A,besB l.length a b=A:=⟨_,rfl⟩;have hAs:=besideP_spec l.length a b (by omega);rw[hA] at hAs;obtain⟨P,hP⟩:∃P,(decide (0≤k) && decide (k<l.length))=P:=⟨_,rfl⟩;have hPs:=placeH_spec l.length k (by omega);rw[hP] at hPs;rw[hA,hP] at hk4;refine MvYm.c1 (hAs) (fun q=>if q=0 then 2 else q) ?_;iterate 4 (refine zz z5 ?_)
  refine z5 ?_;refine z1d rfl rfl ?_;refine zy ?_
  first|refine zu ?_ ?_|refine(fun(h1:false=true→_) (h2:false=false→_)=>And.intro h1 fun _=>h2 rfl) ?_ ?_|refine And.intro ?_ ?_
  ·intro hg8
   first
    |(simp at hg8;done)
    |skip
     try replace hg8:=z6 hg8
     refine zz id ?_;refine MvYm.c1 (hPs) (fun q=>if q=0 then 2 else q) ?_;refine zz z5 ?_
     try with_reducible refine And.intro (by clear hk4;simp_all;done) ?_
     repeat(with_reducible apply ai;exact z7)
     refine zz z5 ?_
     try with_reducible refine And.intro (by clear hk4;simp_all;done) ?_
     repeat(with_reducible apply ai;exact z7)
     iterate 5 (refine zz z5 ?_)
     refine za ?_;refine z8 ?_;refine hk4 _ ?_
     first|rfl|(clear hk4;simp_all;done)
  ·intro hg8;refine⟨.bool false,?_⟩
   first
    |(simp at hg8;done)
    |skip
     try replace hg8:=z6 hg8
     refine zz z5 ?_
     try with_reducible refine And.intro (by clear hk4;simp_all;done) ?_
     repeat(with_reducible apply ai;exact z7)
     refine zz z5 ?_
     try with_reducible refine And.intro (by clear hk4;simp_all;done) ?_
     repeat(with_reducible apply ai;exact z7)
     iterate 5 (refine zz z5 ?_)
     refine za ?_;refine z8 ?_;refine hk4 _ ?_
     first|rfl|(clear hk4;simp_all;done)
end Go.Proofs

namespace Go.Proofs
open Go.Sk
def bal (l:List Bal)(i:Nat):Bal:=l.getD i noBal
theorem bal_lt {l:List Bal}{i:Nat}(h:i<l.length):bal l i=l[i]:=by simp[bal,List.getD,h]
def bals (l:List Bal):Nat→List SV:=fun i=>(bal l i).sv
theorem bals_take (l:List Bal)(i:Nat)(_:i<l.length):List.take 5 (bals l i)=(bal l i).sv:=rfl
theorem rowsOf_bal (b:Bal):z7r 5 1 [.int .i64 b.kind,.int .i64 b.from_,.int .i64 b.to,.int .i64 b.beside,.int .i64 b.count]=bals [b]:=by
 funext i
 match i with
 |0=>rfl
 |i+1=>rfl
theorem app_bals (xs ys:List Bal):app (bals xs) xs.length (bals ys)=bals (xs++ys):=by
 funext i
 simp only[app,bals,bal,List.getD]
 by_cases h:i<xs.length
 ·rw[if_pos h,List.getElem?_append_left h]
 ·rw[if_neg h,List.getElem?_append_right (by omega)]
theorem bals_ren (ρ:Nat→Nat)(l:List Bal):(fun i=>SV.renL ρ (bals l i))=bals l:=by
 funext i;simp[bals,Bal.sv,SV.renL,SV.ren]
theorem bals_ren' (ρ:Nat→Nat)(l:List Bal)(i:Nat):SV.renL ρ (bals l i)=bals l i:=congrFun (bals_ren ρ l) i
theorem bals_lt (m:Nat)(l:List Bal)(i:Nat):SV.ltL m (bals l i):=by simp[bals,Bal.sv,SV.ltL,SV.lt]
def inBals (l:List Bal):Nat×(Nat→Sk.Obj):=Sk.one (.row ⟨false,false,69,5,l.length,bals l⟩)
def ownBals (l:List Bal):Nat×(Nat→Sk.Obj):=Sk.one (.row ⟨true,false,69,5,l.length,bals l⟩)
theorem Tryz.balGuard:Tryz.prog.eqGuardType Tryz.prog.depth 69=false:=by kernel_rfl
theorem Tryz.balHeld:Tryz.prog.stoodInHeld 69=false:=by kernel_rfl
theorem Tryz.balFields:(Tryz.prog.fieldsOf 69).toList.map (fun f=>(f.name== "_",f.type,f.offset))=[(false,3,0),(false,3,1),(false,3,2),(false,3,3),(false,3,4)]:=by kernel_rfl
theorem Tryz.balUnder:Tryz.prog.underlying 69=some (.struct (Tryz.prog.fieldsOf 69)):=by kernel_rfl
theorem Tryz.intUnder:Tryz.prog.underlying 3=some (.int .i64):=by kernel_rfl
theorem Tryz.intAgg:isAggT Tryz.prog 3=some false:=by kernel_rfl
theorem eqT_bal (a b:Bal):EqT Tryz.prog 69 [.int .i64 a.kind,.int .i64 a.from_,.int .i64 a.to,.int .i64 a.beside,.int .i64 a.count] [.int .i64 b.kind,.int .i64 b.from_,.int .i64 b.to,.int .i64 b.beside,.int .i64 b.count]:=
 EqT.of _ Tryz.balGuard Tryz.balHeld Tryz.balUnder Tryz.balFields (by simp[okEq,scEq,Tryz.intAgg,Tryz.intUnder])
theorem eqL_bal (a b:Bal):eqL [.int .i64 a.kind,.int .i64 a.from_,.int .i64 a.to,.int .i64 a.beside,.int .i64 a.count] [.int .i64 b.kind,.int .i64 b.from_,.int .i64 b.to,.int .i64 b.beside,.int .i64 b.count]=decide (a=b):=by
 cases a;cases b
 rw[Bool.eq_iff_iff];simp[eqL,eqS]
theorem bals_ext {xs ys:List Bal}(h:xs.length=ys.length)(ha:∀j,j<xs.length→bal xs j=bal ys j):xs=ys:=
 List.ext_getElem h fun i h1 h2=>by have:=ha i h1;rwa [bal_lt h1,bal_lt h2] at this
theorem BalHm.sd {a:Prop}(h:a:=by first|omega|(simp only[In64];omega)|(simp only[zc0,zc1,beq_iff_eq,beq_eq_false_iff_ne,bne_iff_ne,ne_eq,bne_eq_false_iff_eq,In64];omega)|(simp only[zc0,zc1,beq_iff_eq,beq_eq_false_iff_ne,bne_iff_ne,ne_eq,bne_eq_false_iff_eq,In64] at*;omega)|exact eqT_bal _ _):a:=h
theorem BalHm.ou {a d:Prop}(h:d)(e:Sd a d:=by simp only[resK,z4q,z3x,Nat.zero_add,zc2,ne_eq,Sk.get,Sk.find,Sk.one,List.getElem?_cons_zero,↓reduceIte,Nat.reduceEqDiff,resV];(repeat(with_reducible apply Sd.and;exact BalHm.sd));exact Sd.rfl):a:=e.f h
theorem BalHm.s {a:Prop}(h:a:=by simp[SV.wkL,SV.wk,z1i,z1b,Sk.get,Sk.find,Sk.one,zb.eq_1,zb.eq_2,zb.eq_3,zo,z1k,z1g,SV.renL,SV.ren,Obj.lt_row,SV.ltL,SV.lt,z7c,z3q,zw,z25,Obj.own.eq_1,Obj.own.eq_2,Obj.own.eq_3,Obj.own.eq_4,ints,z1t,z4l,Bal.sv,inBals,ownBals,bals_ren',bals_lt]):a:=h
theorem BalHm.g {X:Cx}{fr:Fr}{H:AH}{fr1:Fr}{H1:AH}(ρ:Nat→Nat)(q:GvQ X ρ fr H fr1 H1:=by constructor<;>exact BalHm.s)(r:GvR X ρ H1:=by exact⟨rfl,rfl,Nat.le_of_ble_eq_true rfl,rfl⟩):z2v X ρ fr H fr1 H1:=gvS ρ q r
theorem BalHm.o {a c d:Prop}(r:a→c)(h:d)(e:Sd a d:=by simp only[stp,isQ,z4q,Sk.get,Sk.put,z24,zt,↓reduceIte,reduceCtorEq,Nat.reduceEqDiff,zc2,zc3,implies_true,forall_const,zc5,qop,grdK,zc4,List.getElem?_cons_zero,beq_self_eq_true,zc1,z13,cond_true,cond_false,z3x,Sk.find,Sk.one,z17,z1u,Kd.agg,Nat.reduceBEq,ite_self,Nat.zero_add,Nat.reduceAdd,Nat.reduceMul,Nat.reduceSub,Nat.reduceLT,Nat.reduceLeDiff,Nat.zero_le,ne_eq,Int.reduceToNat,exists_eq',spl,z29,SV.cells,SV.scalar,binK,z5o,z5n,intK,z2x,strK,z37,z5m,z3u,unK,z5p,z5i,z39,z3c,z5c,z3d,z3e,optK,z3g,bndK,z36,z38,z55,z3k,lenK,z1a.len,zq.n,z50,mmK,z1y,eop,z5s,srcK,z1f,z44,z3o,capK,z5t,z2c,z2q,z30,boxK,z2d,z3m,z31,updF,mkK,z5a,z1a.ofKd,zq.ofKd,z5b,z1a.add,z1a.okKd,zq.put,zq.okKd,zq.okP,z3f,z1a.has,zq.get,zq.z,Bal.sv,Tryz.tyInts,Tryz.tyInt,Tryz.szInt,Tryz.zInt,Tryz.tyBal,Tryz.tyBals,Tryz.szBal,Tryz.zBal,z1t,inBals,eqL_bal];(repeat(with_reducible apply Sd.and;exact BalHm.sd));exact Sd.rfl):c:=r (e.f h)
theorem BalHm.rg {X:Cx}{Q:Exit→Fr→AH→Prop}{fr fr1:Fr}{H H1:AH}{l:List Code}{id:Nat}{ops:List Oper}(keep:List Nat)(h:Cs X l Q fr1 H1)(hd:z2b X.n ops=true:=by exact rfl)(e:∀K:Fr→AH→Prop,K fr1 H1→z5v X.P X.wrap X.m0 ops.toArray ops fr H (fun fr H=>K (prune keep fr) H):=by(intro K hK;(repeat(refine BalHm.o z5 ?_));exact za (z8 hK))):Cs X (.region id ops.toArray false::l) Q fr H:=rgS keep h hd e
theorem BalHm.rs {X:Cx}{Q:Exit→Fr→AH→Prop}{fr fr1:Fr}{H H1:AH}{l:List Code}{id:Nat}{ops:List Oper}{y:Code}(keep:List Nat)(h:Cs X (y::l) Q fr1 H1)(hd:z2b X.n ops=true:=by exact rfl)(e:∀K:Fr→AH→Prop,K fr1 H1→z5v X.P X.wrap X.m0 ops.toArray ops fr H (fun fr H=>K (prune keep fr) H):=by(intro K hK;(repeat(refine BalHm.o z5 ?_));exact za (z8 hK))):Cs X (.seq (.region id ops.toArray false) y::l) Q fr H:=Cs.seq (rgS keep h hd e)
set_option maxHeartbeats 1000000 in
theorem sameSteps_spec (xs ys:List Bal)(hx:xs.length≤100000000)(hy:ys.length≤100000000):ze Tryz.prog 12 [.slc false 0 0 0 xs.length,.slc false 1 0 0 ys.length] ⟨2,[(0,inBals xs),(1,inBals ys)]⟩ (fun s H'=>s= .bool (decide (xs=ys))∧H'=⟨2,[]⟩):=by
 refine ze.ofC false 26 [.tmp 4] Tryz.func12 rfl rfl Tryz.ntmps12 Tryz.results12 rfl ?_;intro w0 own0 β0 Q hQ hQn;simp only[z1n];refine BalHm.rs [0,1] ?_;refine Cs.seq ?_;refine BalHm.rs [0,1,10] ?_;refine Cs.cond _ rfl ?_ ?_
 ·intro h10
  try replace h10:=z6 h10
  refine BalHm.rs [4] ?_;refine Cs.ret ?_;refine hQ _ _ ?_;refine zm.mk (H':=⟨2,[]⟩) (.inl rfl) ?_;refine BalHm.ou ?_;refine⟨BalHm.s,(BalHm.g id),BalHm.s,?_⟩;have:¬xs=ys:=fun h=>by subst h;omega
  exact⟨by simp[this],by trivial⟩
 ·intro h10
  try replace h10:=z6 h10
  refine Cs.skip ?_;refine Cs.seq ?_;refine BalHm.rs [0,1,12,13] ?_;refine Cs.block ?_;intro Q0 hN0 hX0 hR0 hE0;refine Cs.loop (σ:=Nat) (fun i=>i≤xs.length∧∀j,j<i→bal xs j=bal ys j) (fun i=>xs.length-i) (fun i=>[(0,.slc false 0 0 0 xs.length),(1,.slc false 1 0 0 ys.length),(12,.int .i64 xs.length),(13,.int .i64 i)]) (fun i=>⟨2,[(0,inBals xs),(1,inBals ys)]⟩) 0 ⟨by omega,by omega⟩ (ρ:=id) (BalHm.g id) ?_;rintro i hi QL1 hL1 hRL1 hEL1;refine BalHm.rs [0,1,12,13,14] ?_;refine Cs.seq ?_;refine Cs.cond _ rfl ?_ ?_
  ·intro h14
   try replace h14:=z6 h14
   refine Cs.skip ?_;refine Cs.seq ?_;refine Cs.block ?_;intro Q1 hN1 hX1 hR1 hE1;refine BalHm.rs [0,1,5,12,13] ?_;refine Cs.seq ?_;refine Cs.regDraw [0,1,12,13,24] [0,1,2,3,4,5,6,7,8] [[],[],[0,1],[0,1,2],[],[],[4,5],[4,5,6],[0,1,2,3,4,5,6,7]] [[],[],[],[],[],[],[],[],[]] [[],[],[],[],[],[],[],[],[]] Tryz.mo rfl rfl rfl (by kernel_rfl) (by kernel_rfl) (by kernel_rfl) rfl (by kernel_rfl) ?_;intro K hK;iterate 4 (refine BalHm.o (zf _ [] [] rfl rfl rfl) ?_)
   rw[bals_take xs i (by omega)];repeat(with_reducible apply ai;exact BalHm.sd)
   iterate 4 (refine BalHm.o (zf _ [] [] rfl rfl rfl) ?_)
   rw[bals_take ys i (by omega)];repeat(with_reducible apply ai;exact BalHm.sd)
   refine BalHm.o (zf _ [] [] rfl rfl rfl) ?_;refine z2n (z8 (hK _ _ ?_));clear hK K;refine Cs.cond _ rfl ?_ ?_
   ·intro h24
    try replace h24:=z6 h24
    refine BalHm.rs [4] ?_;refine Cs.ret ?_;refine hR1 _ _ ?_;refine hRL1 _ _ ?_;refine hR0 _ _ ?_;refine hQ _ _ ?_;refine zm.mk (H':=⟨2,[]⟩) (.inl rfl) ?_;refine BalHm.ou ?_;refine⟨BalHm.s,(BalHm.g id),BalHm.s,?_⟩;have:¬xs=ys:=fun h=>by subst h;exact h24 rfl
    exact⟨by simp[this],by trivial⟩
   ·intro h24
    try replace h24:=z6 h24
    refine Cs.skip ?_;refine Cs.nil ?_;refine hN1 _ _ ?_;refine BalHm.rg [0,1,12,13] ?_;refine Cs.nil ?_;refine hL1 _ _ ?_;refine⟨i+1,⟨⟨by omega,fun j hj=> ?_⟩,by omega⟩,id,(BalHm.g id)⟩
    by_cases h:j=i
    ·subst h;exact h24
    ·exact hi.2 j (by omega)
  ·intro h14
   try replace h14:=z6 h14
   refine Cs.exit ?_;refine hEL1 _ _ _ ?_;refine hX0 _ _ ?_;refine BalHm.rs [4] ?_;refine Cs.ret ?_;refine hQ _ _ ?_;refine zm.mk (H':=⟨2,[]⟩) (.inl rfl) ?_;refine BalHm.ou ?_;refine⟨BalHm.s,(BalHm.g id),BalHm.s,?_⟩;have:xs=ys:=bals_ext (by omega) fun j hj=>hi.2 j (by omega);exact⟨by simp[this],by trivial⟩
end Go.Proofs

namespace Go.Proofs
open Go.Sk
theorem sumF_le {f:Int→Int}{B:Int}:∀{l:List Int},(∀x∈l,f x≤B)→sumF f l≤B*l.length
 |[],_=>by simp[sumF]
 |a::l,h=>by
  have ih:=sumF_le (l:=l) fun x hx=>h x (List.mem_cons_of_mem _ hx);have h1:=h a (List.mem_cons_self ..);simp only[sumF,List.map_cons,List.sum_cons,List.length_cons,Int.natCast_add,Int.mul_add] at ih ⊢;omega
theorem sumF_nonneg {f:Int→Int}:∀{l:List Int},(∀x∈l,0≤f x)→0≤sumF f l
 |[],_=>by simp[sumF]
 |a::l,h=>by
  have ih:=sumF_nonneg (l:=l) fun x hx=>h x (List.mem_cons_of_mem _ hx);have h1:=h a (List.mem_cons_self ..);simp only[sumF,List.map_cons,List.sum_cons] at ih ⊢;omega
def sq (l:List Int):Int:=sumF (fun x=>x*x) l
theorem sq_nonneg (l:List Int):0≤sq l:=sumF_nonneg fun x _=>by
 rcases Int.le_total 0 x with h|h
 ·exact Int.mul_nonneg h h
 ·have:=Int.mul_nonneg (show 0≤ -x by omega) (show 0≤ -x by omega);grind
theorem sq_le {l:List Int}(h:z8q l=true):sq l≤67108864:=by
 have h1:∀x∈l,x*x≤1048576:=fun x hx=>by
  obtain⟨j,hj,rfl⟩:=List.getElem_of_mem hx;have:=z3w h hj;rw[nth_lt hj] at this;have h2:0≤(1024-l[j])*(1024+l[j]):=Int.mul_nonneg (by omega) (by omega)
  grind
 have h2:=sumF_le (f:=fun x=>x*x) h1;have h3:=valid_len h;unfold sq;omega
end Go.Proofs

namespace Go.Proofs
open Go.Sk
theorem ints_ltL (m:Nat)(l:List Int)(i:Nat):SV.ltL m (ints l i):=by simp[ints,SV.ltL,SV.lt]
theorem loadL_take {l:List Hm}{i:Nat}(h:i<l.length):(z2e (vls l)).take (i+1)=(z2e (vls l)).take i++[((hm l i).n:Int)]:=by
 rw[List.take_succ_eq_append_getElem (by rw[z49,z1v];exact h)]
 congr 1
 simp[z2e,vls,Hm.v,hm_lt h,Hm.n_eq]
theorem app_intsL {xs ys:List Int}{n:Nat}(h:xs.length=n):app (ints xs) n (ints ys)=ints (xs++ys):=by subst h;exact app_ints xs ys
theorem MvLm.s_ints {a:Prop}(h:a:=by simp[SV.wkL,SV.wk,z1i,z1b,Sk.get,Sk.find,Sk.one,zb.eq_1,zb.eq_2,zb.eq_3,zo,z1k,z1g,SV.renL,SV.ren,Obj.lt_row,SV.ltL,SV.lt,z7c,z3q,zw,z25,Obj.own.eq_1,Obj.own.eq_2,Obj.own.eq_3,Obj.own.eq_4,z1e,zn,zr,z1w,nds,Nd.sv,z14,zx,z3a,z3b,z28,z1r,z2t,z15,z1h,z18,z19,z2h,z43,ints_ltL,ints]):a:=h
theorem MvLm.g_ints {X:Cx}{fr:Fr}{H:AH}{fr1:Fr}{H1:AH}(ρ:Nat→Nat)(q:GvQ X ρ fr H fr1 H1:=by constructor<;>exact MvLm.s_ints)(r:GvR X ρ H1:=by exact⟨rfl,rfl,Nat.le_of_ble_eq_true rfl,rfl⟩):z2v X ρ fr H fr1 H1:=gvS ρ q r
theorem MvLm.s {a:Prop}(h:a:=by simp[SV.wkL,SV.wk,z1i,z1b,Sk.get,Sk.find,Sk.one,zb.eq_1,zb.eq_2,zb.eq_3,zo,z1k,z1g,SV.renL,SV.ren,Obj.lt_row,SV.ltL,SV.lt,z7c,z3q,zw,z25,Obj.own.eq_1,Obj.own.eq_2,Obj.own.eq_3,Obj.own.eq_4,z1e,zn,zr,z1w,nds,Nd.sv,z14,zx,z3a,z3b,z28,z1r,z2t,z15,z1h,z18,z19,z2h,z43,ints_ltL]):a:=h
theorem MvLm.g {X:Cx}{fr:Fr}{H:AH}{fr1:Fr}{H1:AH}(ρ:Nat→Nat)(q:GvQ X ρ fr H fr1 H1:=by constructor<;>exact MvLm.s)(r:GvR X ρ H1:=by exact⟨rfl,rfl,Nat.le_of_ble_eq_true rfl,rfl⟩):z2v X ρ fr H fr1 H1:=gvS ρ q r
theorem MvLm.o {a c d:Prop}(r:a→c)(h:d)(e:Sd a d:=by simp only[stp,isQ,z4q,Sk.get,Sk.put,z24,zt,↓reduceIte,reduceCtorEq,Nat.reduceEqDiff,zc2,zc3,implies_true,forall_const,zc5,qop,grdK,zc4,List.getElem?_cons_zero,beq_self_eq_true,zc1,z13,cond_true,cond_false,z3x,Sk.find,Sk.one,z17,z1u,Kd.agg,Nat.reduceBEq,ite_self,Nat.zero_add,Nat.reduceAdd,Nat.reduceMul,Nat.reduceSub,Nat.reduceLT,Nat.reduceLeDiff,Nat.zero_le,ne_eq,Int.reduceToNat,exists_eq',spl,z29,SV.cells,SV.scalar,binK,z5o,z5n,intK,z2x,strK,z37,z5m,z3u,unK,z5p,z5i,z39,z3c,z5c,z3d,z3e,optK,z3g,bndK,z36,z38,z55,z3k,lenK,z1a.len,zq.n,z50,mmK,z1y,eop,z5s,srcK,z1f,z44,z3o,capK,z5t,z2c,z2q,z30,boxK,z2d,z3m,z31,updF,mkK,z5a,z1a.ofKd,zq.ofKd,z5b,z1a.add,z1a.okKd,zq.put,zq.okKd,zq.okP,z3f,z1a.has,zq.get,zq.z,Tryz.tyInt,Tryz.szInt,Tryz.tyStr,Tryz.tyU32,Tryz.tyNode,Tryz.szNode,Tryz.zNode,Tryz.tyNodes,Tryz.szNodes,z1e,zn,nds,Nd.sv,Tryz.tyRow,Tryz.szRow,Tryz.zRow,Tryz.tyRows,Tryz.szRows,Tryz.tyHd,Tryz.szHd,Tryz.zHd,Tryz.tyHds,Tryz.szHds,Tryz.tyHoldings,z87,z86,Tryz.tyErr,Tryz.tyInts,Tryz.szInts,Tryz.zInt,rowsOf_one];(repeat(with_reducible apply Sd.and;exact z7));exact Sd.rfl):c:=r (e.f h)
theorem MvLm.rg {X:Cx}{Q:Exit→Fr→AH→Prop}{fr fr1:Fr}{H H1:AH}{l:List Code}{id:Nat}{ops:List Oper}(keep:List Nat)(h:Cs X l Q fr1 H1)(hd:z2b X.n ops=true:=by exact rfl)(e:∀K:Fr→AH→Prop,K fr1 H1→z5v X.P X.wrap X.m0 ops.toArray ops fr H (fun fr H=>K (prune keep fr) H):=by(intro K hK;(repeat(refine MvLm.o z5 ?_));exact za (z8 hK))):Cs X (.region id ops.toArray false::l) Q fr H:=rgS keep h hd e
theorem MvLm.rs {X:Cx}{Q:Exit→Fr→AH→Prop}{fr fr1:Fr}{H H1:AH}{l:List Code}{id:Nat}{ops:List Oper}{y:Code}(keep:List Nat)(h:Cs X (y::l) Q fr1 H1)(hd:z2b X.n ops=true:=by exact rfl)(e:∀K:Fr→AH→Prop,K fr1 H1→z5v X.P X.wrap X.m0 ops.toArray ops fr H (fun fr H=>K (prune keep fr) H):=by(intro K hK;(repeat(refine MvLm.o z5 ?_));exact za (z8 hK))):Cs X (.seq (.region id ops.toArray false) y::l) Q fr H:=Cs.seq (rgS keep h hd e)
theorem loadsP_spec (l:List Hm)(n:Nat)(hn:l.length=n)(hx:n≤1000000):
  ze Tryz.prog 26 [.slc false 0 0 0 n] ⟨2,[(0,Sk.one (.row ⟨false,false,43,4,n,hmR false 1 l⟩)),(1,(n+1,fam false 45 2 (hmF false l)))]⟩
   (fun s H1=>s= .slc true 2 0 0 n∧H1=⟨3,[(2,Sk.one (.row ⟨true,false,3,1,n,ints (z2e (vls l))⟩))]⟩):=by
 subst hn;refine ze.ofC false 20 [.tmp 2] Tryz.func26 rfl rfl Tryz.ntmps26 Tryz.results26 rfl ?_;intro w0 own0 β0 Q hQ hQn;simp only[z1n];refine MvLm.rs [0] ?_;refine MvLm.rs [0,3] ?_;refine Cs.seq ?_;refine MvLm.rs [3,6,7,8] ?_;refine Cs.nilO 3 3 1 (ints ((z2e (vls l)).take 0)) rfl ?_;dsimp only;refine Cs.block ?_;intro Q0 hN0 hX0 hR0 hE0;refine Cs.loop (σ:=Nat) (fun i=>i≤l.length) (fun i=>l.length-i) (fun i=>[(3,.slc true 2 0 0 i),(6,.slc false 0 0 0 l.length),(7,.int .i64 l.length),(8,.int .i64 i)]) (fun i=>⟨3,[(2,Sk.one (.row ⟨true,false,3,1,i,ints ((z2e (vls l)).take i)⟩)),(0,Sk.one (.row ⟨false,false,43,4,l.length,hmR false 1 l⟩)),(1,(l.length+1,fam false 45 2 (hmF false l)))]⟩) 0 (Nat.zero_le _) (ρ:=id) (MvLm.g_ints id) ?_;rintro i hi QL1 hL1 hRL1 hEL1;refine MvLm.rs [3,6,7,8,9] ?_;refine Cs.seq ?_;refine Cs.cond _ rfl ?_ ?_
 ·intro h9;replace h9:=z6 h9;refine Cs.skip ?_;refine Cs.seq ?_;refine Cs.block ?_;intro Q1 hN1 hX1 hR1 hE1;refine MvLm.rs [3,5,6,7,8] ?_;refine MvLm.rg [3,6,7,8] ?_;refine Cs.nil ?_;refine hN1 _ _ ?_;refine MvLm.rg [3,6,7,8] ?_;refine Cs.nil ?_;refine hL1 _ _ ?_;rw[app_intsL (by rw[List.length_take,z49,z1v];omega),←loadL_take (by omega),show(i:Int)+1=((i+1:Nat):Int) from by omega];exact⟨i+1,⟨by omega,by omega⟩,fun q=>if q=2 then 5 else q,(MvLm.g_ints (fun q=>if q=2 then 5 else q))⟩
 ·intro h9
  refine Cs.exit ?_;refine hEL1 _ _ _ ?_;refine hX0 _ _ ?_;refine MvLm.rs [2] ?_;refine Cs.ret ?_;refine hQ _ _ ?_
  have hin:i=l.length:=by
   have:¬(i:Int)<l.length:=by simpa using h9
   omega
  rw[hin,List.take_of_length_le (by rw[z49,z1v];omega)];refine zm.mk (H':=⟨3,[(2,Sk.one (.row ⟨true,false,3,1,l.length,ints (z2e (vls l))⟩))]⟩) (.inl rfl) ?_;refine zh ?_;refine⟨MvLm.s,(MvLm.g id),MvLm.s,?_⟩
  all_goals first|trivial|exact⟨rfl,trivial⟩
end Go.Proofs

namespace Go.Proofs
open Go.Sk
theorem z6s (l:List Hm):(z2e (vls l)).length=l.length:=by rw[z49,z1v]
theorem sq_of_valid {l:List Hd}(h:vldB l=true):sq (z2e l)≤67108864:=sq_le (vld_load h)
def RbR (l:List Hd)(ss:List Bal)(r:List Hd):Prop:=if vldB l=true then Rb l ss r else ss=[]∧r=[]
theorem RbR.det {l r r':List Hd}{ss ss':List Bal}(h:RbR l ss r)(h':RbR l ss' r'):ss=ss'∧r=r':=by
 unfold RbR at h h'
 split at h
 ·rename_i g;rw[if_pos g] at h';exact Rb.det h h'
 ·rename_i g;rw[if_neg g] at h';exact⟨h.1.trans h'.1.symm,h.2.trans h'.2.symm⟩
def RbInv (l:List Hd)(cur:List Hm)(pre:List Bal):Prop:=HmB cur∧vldB (vls cur)=true∧(pre.length:Int)+sq (z2e (vls cur))≤67108864∧∀ss r,Rb (vls cur) ss r→Rb l (pre++ss) r
theorem RbInv.step {l:List Hd}{cur:List Hm}{pre:List Bal}(h:RbInv l cur pre){b:Bal}(hst:z7j (z2e (vls cur))=some b){L':List Hm}(hL:vls L'=stR (vls cur) b)(hB:HmB L'):RbInv l L' (pre++[b])∧(sq (z2e (vls L'))).toNat<(sq (z2e (vls cur))).toNat:=by
 obtain⟨h1,h2,h3,h4⟩:=h;obtain⟨_,k2,k3⟩:=due_keep h2 hst;obtain⟨ys,hap,_,_,_,hys⟩:=step_falls hst;rw[k3] at hap;have hy:ys=z2e (stR (vls cur) b):=(congrArg Prod.fst hap).symm;rw[hy] at hys;have q0:=sq_nonneg (z2e (stR (vls cur) b));have q1:sq (z2e (stR (vls cur) b))<sq (z2e (vls cur)):=hys;refine⟨⟨hB,by rw[hL];exact k2,?_,fun ss r hr=> ?_⟩,by rw[hL];omega⟩
 ·rw[hL,List.length_append,List.length_singleton];omega
 ·rw[List.append_assoc];refine h4 _ _ ⟨hst,?_⟩;rw[←hL];exact hr
theorem MwDm.s {a:Prop}(h:a:=by simp[SV.wkL,SV.wk,z1i,z1b,Sk.get,Sk.find,Sk.one,zb.eq_1,zb.eq_2,zb.eq_3,zo,z1k,z1g,SV.renL,SV.ren,Obj.lt_row,SV.ltL,SV.lt,z7c,z3q,zw,z25,Obj.own.eq_1,Obj.own.eq_2,Obj.own.eq_3,Obj.own.eq_4,z1e,zn,zr,z1w,nds,Nd.sv,z14,zx,z3a,z3b,z28,z1r,z2t,z15,z1h,z18,z21,z2u,z1o,z1j,z20,z19,z2h,z33,Bal.sv,z1t,z4l,z6s,z43,ints_ltL,bals_ren',bals_lt]):a:=h
theorem MwDm.t {s e:SV}{H g:AH}(q:AfQ s e H g:=by constructor<;>(simp only[z1x,after,z57,id,z2q,reduceCtorEq,Nat.reduceEqDiff,zc5,zc6,z5u,z2p,zw,Sk.one,Obj.own.eq_1,Obj.own.eq_2,Obj.own.eq_3,Obj.own.eq_4,Obj.ren.eq_1,Obj.ren.eq_2,Obj.ren_blk,Row.ren,SV.ren,SV.renL,↓reduceIte,Nat.reduceLT,Nat.reduceAdd,Nat.reduceSub,Tryz.tyInt,Tryz.szInt,Tryz.tyStr,Tryz.tyU32,Tryz.tyNode,Tryz.szNode,Tryz.zNode,Tryz.tyNodes,Tryz.szNodes,z1e,zn,nds,Nd.sv,Tryz.tyRow,Tryz.szRow,Tryz.zRow,Tryz.tyRows,Tryz.szRows,Tryz.zRows,Tryz.tyHd,Tryz.szHd,Tryz.zHd,Tryz.tyHds,Tryz.szHds,Tryz.tyHoldings,Tryz.tyErr,Tryz.tyBool,Tryz.szStr,z6s,stepSv,Bal.sv,z1t,z4l,Tryz.tyInts,Tryz.szInts,Tryz.zInt,Tryz.tyBal,Tryz.tyBals,Tryz.szBal,Tryz.zBal,rowsOf_bal,app_bals,zc8,z4b,fam_ren,hmF_ren,z8k,hmR_ren,z6m,hoF_ren,hoR_fold,hoR_ren,z6i,bals_ren];exact rfl)):AfQ s e H g:=q
theorem MwDm.c1 {P:Program}{f:FuncId}{args args0:List SV}{H0 H Y g:AH}{X e:SV}{dr:Bool}{W:List Nat}{k:SV→AH→Prop}(hF:ze P f args0 H0 fun s H1=>s=X∧H1=Y)(ρ:Nat→Nat)(h:k e g)(q:CaQ args args0 ρ H0 H dr W:=by constructor<;>exact MwDm.s)(r:CaR ρ H0 H:=by exact⟨rfl,rfl⟩)(b:AfQ (X.ren (z57 H0.nxt H.nxt ρ)) e (after H0.nxt ρ H0 H Y) g:=by exact MwDm.t):z4u P f args H dr W k:=c1S hF ρ h q r b
theorem MwDm.ca {P:Program}{f:FuncId}{args args0:List SV}{H0 H:AH}{R:SV→AH→Prop}{dr:Bool}{W:List Nat}{k:SV→AH→Prop}(hF:ze P f args0 H0 R)(ρ:Nat→Nat)(hk:∀s0 H1,R s0 H1→∀s1 H2,s1=s0.ren (z57 H0.nxt H.nxt ρ)→H2=after H0.nxt ρ H0 H H1→k s1 H2)(q:CaQ args args0 ρ H0 H dr W:=by constructor<;>exact MwDm.s)(r:CaR ρ H0 H:=by exact⟨rfl,rfl⟩):z4u P f args H dr W k:=caS hF ρ hk q r
theorem MwDm.af {s e e1:SV}{H g g1:AH}(h1:s=e)(h2:H=g)(q:AfQ e e1 g g1:=by exact MwDm.t):s=e1∧H=g1:=⟨h1.trans q.s,h2.trans q.h⟩
theorem z65 {a:Prop}(h:a:=by simp[SV.wkL,SV.wk,z1i,z1b,Sk.get,Sk.find,Sk.one,zb.eq_1,zb.eq_2,zb.eq_3,zo,z1k,z1g,SV.renL,SV.ren,Obj.lt_row,SV.ltL,SV.lt,z7c,z3q,zw,z25,Obj.own.eq_1,Obj.own.eq_2,Obj.own.eq_3,Obj.own.eq_4,z1e,zn,zr,z1w,nds,Nd.sv,z14,zx,z3a,z3b,z28,z1r,z2t,z15,z1h,z18,z21,z2u,z1o,z1j,z20,z19,z2h,z33,Bal.sv,z1t,z4l,z6s,z43,ints_ltL,bals_ren',bals_lt,zc7]):a:=h
theorem z3s {X:Cx}{fr:Fr}{H:AH}{fr1:Fr}{H1:AH}(ρ:Nat→Nat)(q:GvQ X ρ fr H fr1 H1:=by constructor<;>exact z65)(r:GvR X ρ H1:=by exact⟨rfl,rfl,Nat.le_of_ble_eq_true rfl,rfl⟩):z2v X ρ fr H fr1 H1:=gvS ρ q r
theorem MwDm.g {X:Cx}{fr:Fr}{H:AH}{fr1:Fr}{H1:AH}(ρ:Nat→Nat)(q:GvQ X ρ fr H fr1 H1:=by constructor<;>exact MwDm.s)(r:GvR X ρ H1:=by exact⟨rfl,rfl,Nat.le_of_ble_eq_true rfl,rfl⟩):z2v X ρ fr H fr1 H1:=gvS ρ q r
theorem z4w {a c d:Prop}(r:a→c)(h:d)(e:Sd a d:=by simp only[stp,isQ,z4q,Sk.get,Sk.put,z24,zt,↓reduceIte,reduceCtorEq,Nat.reduceEqDiff,zc2,zc3,implies_true,forall_const,zc5,qop,grdK,zc4,List.getElem?_cons_zero,beq_self_eq_true,zc1,z13,cond_true,cond_false,z3x,Sk.find,Sk.one,z17,z1u,Kd.agg,Nat.reduceBEq,ite_self,Nat.zero_add,Nat.reduceAdd,Nat.reduceMul,Nat.reduceSub,Nat.reduceLT,Nat.reduceLeDiff,Nat.zero_le,ne_eq,Int.reduceToNat,exists_eq',spl,z29,SV.cells,SV.scalar,binK,z5o,z5n,intK,z2x,strK,z37,z5m,z3u,unK,z5p,z5i,z39,z3c,z5c,z3d,z3e,optK,z3g,bndK,z36,z38,z55,z3k,lenK,z1a.len,zq.n,z50,mmK,z1y,eop,z5s,srcK,z1f,z44,z3o,capK,z5t,z2c,z2q,z30,boxK,z2d,z3m,z31,updF,mkK,z5a,z1a.ofKd,zq.ofKd,z5b,z1a.add,z1a.okKd,zq.put,zq.okKd,zq.okP,z3f,z1a.has,zq.get,zq.z,Tryz.tyInt,Tryz.szInt,Tryz.tyStr,Tryz.tyU32,Tryz.tyNode,Tryz.szNode,Tryz.zNode,Tryz.tyNodes,Tryz.szNodes,z1e,zn,nds,Nd.sv,Tryz.tyRow,Tryz.szRow,Tryz.zRow,Tryz.tyRows,Tryz.szRows,Tryz.zRows,Tryz.tyHd,Tryz.szHd,Tryz.zHd,Tryz.tyHds,Tryz.szHds,Tryz.tyHoldings,z87,z86,z8p,Tryz.tyErr,Tryz.tyBool,Tryz.szStr,z6s,stepSv,Bal.sv,z1t,z4l,Tryz.tyInts,Tryz.szInts,Tryz.zInt,Tryz.tyBal,Tryz.tyBals,Tryz.szBal,Tryz.zBal,rowsOf_bal,app_bals,zc8];(repeat(with_reducible apply Sd.and;exact z7));exact Sd.rfl):c:=r (e.f h)
theorem MwDm.rg {X:Cx}{Q:Exit→Fr→AH→Prop}{fr fr1:Fr}{H H1:AH}{l:List Code}{id:Nat}{ops:List Oper}(keep:List Nat)(h:Cs X l Q fr1 H1)(hd:z2b X.n ops=true:=by exact rfl)(e:∀K:Fr→AH→Prop,K fr1 H1→z5v X.P X.wrap X.m0 ops.toArray ops fr H (fun fr H=>K (prune keep fr) H):=by(intro K hK;(repeat(refine z4w z5 ?_));exact za (z8 hK))):Cs X (.region id ops.toArray false::l) Q fr H:=rgS keep h hd e
theorem MwDm.rs {X:Cx}{Q:Exit→Fr→AH→Prop}{fr fr1:Fr}{H H1:AH}{l:List Code}{id:Nat}{ops:List Oper}{y:Code}(keep:List Nat)(h:Cs X (y::l) Q fr1 H1)(hd:z2b X.n ops=true:=by exact rfl)(e:∀K:Fr→AH→Prop,K fr1 H1→z5v X.P X.wrap X.m0 ops.toArray ops fr H (fun fr H=>K (prune keep fr) H):=by(intro K hK;(repeat(refine z4w z5 ?_));exact za (z8 hK))):Cs X (.seq (.region id ops.toArray false) y::l) Q fr H:=Cs.seq (rgS keep h hd e)
set_option maxHeartbeats 4000000 in
theorem rebP_spec (l:List Hm)(hb:HmB l)(n:Nat)(hn:l.length=n):
  ze Tryz.prog 9 [.slc false 0 0 0 n] ⟨2,[(0,Sk.one (.row ⟨false,false,43,4,n,hmR false 1 l⟩)),(1,(n+1,fam false 45 2 (hmF false l)))]⟩
   (fun s H1=> ∃(L':List Hm) (ss:List Bal),RbR (vls l) ss (vls L')∧HmB L'∧ss.length≤100000000∧s= .tup [.slc true 2 0 0 L'.length,.slc true 4 0 0 ss.length,.int .i64 (if vldB (vls l)=true then 0 else 1)]∧H1=⟨5,[(2,Sk.one (.row ⟨true,false,43,4,L'.length,hmR false 3 L'⟩)),(3,(L'.length+1,fam true 45 2 (hmF true L'))),(4,Sk.one (.row ⟨true,false,69,5,ss.length,bals ss⟩))]⟩):=by
 subst hn;have hlen:=hb.len;refine ze.ofC false 61 [.tmp 2,.tmp 3,.tmp 4] Tryz.func9 rfl rfl Tryz.ntmps9 Tryz.results9 rfl ?_;intro w0 own0 β0 Q hQ hQn;simp only[z1n];refine MwDm.rs [0] ?_;refine Cs.seq ?_;refine sg [0,13] rfl ?_;intro K hK;refine z4w z5 ?_;refine z4w z5 ?_;refine MwDm.c1 (validP_spec l hb l.length rfl) (id) ?_;refine z4w z5 ?_;refine za (z8 (hK _ _ ?_));clear hK K;refine Cs.cond _ rfl ?_ ?_
 ·intro h13;simp only[Bool.not_eq_true'] at h13;refine MwDm.rs [2,3,4] ?_;refine Cs.nilO 2 43 4 (hmR false 0 []) rfl ?_;dsimp only;refine Cs.fam0 45 2 (hmF true []) ?_;dsimp only;refine Cs.nilO 3 69 5 (bals []) rfl ?_;dsimp only;refine Cs.ret ?_;refine hQ _ _ ?_;refine zm.mk (H':=⟨5,[(2,Sk.one (.row ⟨true,false,43,4,0,hmR false 3 []⟩)),(3,(1,fam true 45 2 (hmF true []))),(4,Sk.one (.row ⟨true,false,69,5,0,bals []⟩))]⟩) (.inl rfl) ?_;refine zh ?_;refine⟨MwDm.s,(MwDm.g id),MwDm.s,?_⟩;have hv:¬vldB (vls l)=true:=by rw[h13];decide
  exact⟨[],[],by rw[RbR,if_neg hv];exact⟨rfl,rfl⟩,⟨Nat.zero_le _,fun x hx=>by cases hx⟩,Nat.zero_le _,by rw[if_neg hv];trivial,by trivial⟩
 ·intro h13;simp only[Bool.not_eq_false'] at h13;refine Cs.skip ?_;refine sg [5] rfl ?_;intro K hK;refine z4w z5 ?_;refine z4w z5 ?_;refine MwDm.c1 (copyP_spec l hb l.length rfl) (id) ?_;refine z4w z5 ?_;refine za (z8 (hK _ _ ?_));clear hK K;refine Cs.seq ?_;refine Cs.wkRow 2 (hmR false 3 (ofV (vls l))) rfl rfl (fun q hq=>hoR_wk (Nat.le_of_ble_eq_true rfl) _ _) ?_;simp only[z44,↓reduceIte,Sk.one];rw[hoF_hm];refine MwDm.rg [5,6] ?_;refine Cs.nilO 6 69 5 (bals []) rfl ?_;dsimp only;have hol:(ofV (vls l)).length=l.length:=by rw[z6l,z1v]
  rw[←hol]
  have hinv0:RbInv (vls l) (ofV (vls l)) []:=by
   refine⟨.ofV (by rw[z1v];exact hlen) fun i=>by have:=vld_rows h13 i;omega,by rw[vls_ofV];exact h13,by rw[vls_ofV];have:=sq_of_valid h13;simp;omega,fun ss r h=>by rw[vls_ofV] at h;exact h⟩
  refine Cs.block ?_;intro Q0 hN0 hX0 hR0 hE0;refine Cs.loop (σ:=List Hm×List Bal) (fun σ=>RbInv (vls l) σ.1 σ.2) (fun σ=>(sq (z2e (vls σ.1))).toNat) (fun σ=>[(5,.slc true 2 0 0 σ.1.length),(6,.slc true 4 0 0 σ.2.length)]) (fun σ=>⟨5,[(2,Sk.one (.row ⟨true,false,43,4,σ.1.length,hmR false 3 σ.1⟩)),(3,(σ.1.length+1,fam true 45 2 (hmF true σ.1))),(4,Sk.one (.row ⟨true,false,69,5,σ.2.length,bals σ.2⟩))]⟩) (ofV (vls l),[]) hinv0 (ρ:=id) (MwDm.g id) ?_;rintro⟨cur,pre⟩ hi QL1 hL1 hRL1 hEL1;have hi0:RbInv (vls l) cur pre:=hi;obtain⟨hB,hv,hpl,hcont⟩:=hi0;have hcl:=hB.len;have hsq0:=sq_nonneg (z2e (vls cur));refine Cs.block ?_;intro Q1 hN1 hX1 hR1 hE1;refine sg [5,6,7,8] rfl ?_;intro K hK;refine z4w z5 ?_;refine z4w z5 ?_;refine MwDm.c1 (loadsP_spec cur cur.length rfl (by omega)) (fun q=>if q=0 then 2 else if q=1 then 3 else q) ?_;refine z4w z5 ?_;refine MwDm.c1 (step_spec (z2e (vls cur)) (by rw[z6s];omega)) (fun q=>if q=0 then 5 else q) ?_;iterate 6 (refine z4w z5 ?_)
  refine za (z8 (hK _ _ ?_));clear hK K;refine Cs.seq ?_;refine MwDm.rs [5,6,7,23] ?_;refine Cs.cond _ rfl ?_ ?_
  ·intro h23;have hn:z7j (z2e (vls cur))=none:=by simpa using h23
   refine MwDm.rs [2,3,4] ?_;refine Cs.ret ?_;refine hR1 _ _ ?_;refine hRL1 _ _ ?_;refine hR0 _ _ ?_;refine hQ _ _ ?_;refine zm.mk (H':=⟨5,[(2,Sk.one (.row ⟨true,false,43,4,cur.length,hmR false 3 cur⟩)),(3,(cur.length+1,fam true 45 2 (hmF true cur))),(4,Sk.one (.row ⟨true,false,69,5,pre.length,bals pre⟩))]⟩) (.inl rfl) ?_;refine zh ?_;refine⟨MwDm.s,(MwDm.g id),MwDm.s,?_⟩;have:=hcont [] (vls cur) ⟨hn,rfl⟩;rw[List.append_nil] at this;exact⟨cur,pre,by rw[RbR,if_pos h13];exact this,hB,by omega,by rw[if_pos h13],rfl⟩
  ·intro h23;obtain⟨b,hst⟩:∃b,z7j (z2e (vls cur))=some b:=Option.isSome_iff_exists.1 (by simpa using h23);have hdone:=due_done hv hst;refine Cs.skip ?_;refine Cs.seq ?_;rw[hst];simp only[Option.getD_some];refine MwDm.rg [5,6,7] ?_;refine Cs.seq ?_;refine MwDm.rs [5,6,7,28] ?_;refine Cs.cond _ rfl ?_ ?_
   ·intro h28;replace h28:=z6 h28;have hE:shE (vls cur) b.from_ b.to b.count=0:=by rw[stE,if_pos h28] at hdone;exact hdone
    refine Cs.reg [6,7,9,10] rfl ?_;intro K hK;iterate 7 (refine z4w z5 ?_)
    refine z4w z5 ?_;refine MwDm.ca (shiftP_spec cur hB cur.length rfl b.from_ b.to b.count) (fun q=>if q=0 then 2 else if q=1 then 3 else q) ?_;rintro s0 H0 ⟨L',hL,hLB,rfl,rfl⟩ s1 H1 hs1 hH1;obtain⟨hs2,hH2⟩:=MwDm.af hs1 hH1;clear hs1 hH1;subst hs2 hH2;repeat(with_reducible apply ai;exact z7)
    rw[hE];iterate 5 (refine z4w z5 ?_)
    refine za (z8 (hK _ _ ?_));clear hK K;refine Cs.seq ?_;refine MwDm.rs [6,7,9,10,54] ?_;refine Cs.cond _ rfl ?_ ?_
    ·intro h54;simp at h54
    ·intro h54
     refine Cs.skip ?_;refine MwDm.rg [5,6] ?_;refine Cs.nil ?_;refine hN1 _ _ ?_;refine Cs.nil ?_;refine hL1 _ _ ?_;obtain⟨g1,g2⟩:=hi.step hst (L':=L') (by rw[hL,stR,if_pos h28]) hLB;exact⟨(L',pre++[b]),⟨g1,g2⟩,fun q=>if q=2 then 7 else if q=3 then 8 else if q=4 then 10 else q,(z3s (fun q=>if q=2 then 7 else if q=3 then 8 else if q=4 then 10 else q))⟩
   ·intro h28;replace h28:=z6 h28;have hE:mvE (vls cur) b.from_ b.to b.beside b.count=0:=by rw[stE,if_neg h28] at hdone;exact hdone
    refine Cs.reg [6,7,9,10] rfl ?_;intro K hK;iterate 9 (refine z4w z5 ?_)
    refine z4w z5 ?_;have hE2:=hE;rw[mvE_iff] at hE2;obtain⟨_,_,⟨k0,k1⟩,_,c1,c2⟩:=hE2
    have hc2:nR (z7n (vls cur) b.from_.toNat b.to.toNat) b.beside≤4096:=by
     obtain⟨_,⟨b0,b1⟩,_⟩:=bes_iff.1 (by rw[mvE_iff] at hE;exact hE.2.1);have g1:=vld_rows hv b.from_.toNat;have g2:=vld_rows hv b.to.toNat;have g3:=vld_rows hv b.beside.toNat;rw[nR,mrg_rows (by omega)]
     split
     ·split
      ·rw[List.length_append];omega
      ·rw[List.length_append];omega
     ·omega
    refine MwDm.ca (moveP_spec cur hB cur.length rfl b.from_ b.to b.beside b.count ⟨by omega,by omega⟩) (fun q=>if q=0 then 2 else if q=1 then 3 else q) ?_;rintro s0 H0 ⟨L',hL,hLB,rfl,rfl⟩ s1 H1 hs1 hH1;obtain⟨hs2,hH2⟩:=MwDm.af hs1 hH1;clear hs1 hH1;subst hs2 hH2;repeat(with_reducible apply ai;exact z7)
    rw[hE];iterate 5 (refine z4w z5 ?_)
    refine za (z8 (hK _ _ ?_));clear hK K;refine Cs.seq ?_;refine MwDm.rs [6,7,9,10,54] ?_;refine Cs.cond _ rfl ?_ ?_
    ·intro h54;simp at h54
    ·intro h54
     refine Cs.skip ?_;refine MwDm.rg [5,6] ?_;refine Cs.nil ?_;refine hN1 _ _ ?_;refine Cs.nil ?_;refine hL1 _ _ ?_;obtain⟨g1,g2⟩:=hi.step hst (L':=L') (by rw[hL,stR,if_neg h28]) hLB;exact⟨(L',pre++[b]),⟨g1,g2⟩,fun q=>if q=2 then 7 else if q=3 then 8 else if q=4 then 10 else q,(z3s (fun q=>if q=2 then 7 else if q=3 then 8 else if q=4 then 10 else q))⟩
end Go.Proofs

namespace Go.Sk
open Go.RowKit
def rowWk (m:Nat):Obj→Obj→Prop
 |.row a,.row b=>a.own=false∧b.own=false∧b.sz=a.sz∧b.n≤a.n∧∀i,i<b.n→SV.wkL (a.f i) (b.f i)∧(∀s∈b.f i,s.scalar=true)∧SV.ltL m (b.f i)
 |_,_=>False
def oWk (m:Nat)(a b:Obj):Prop:=a=b∨rowWk m a b
theorem rowWk_own {m:Nat}{a b:Obj}(h:rowWk m a b):a.own=false∧b.own=false:=by
 cases a<;>cases b<;>simp only[rowWk] at h
 exact⟨h.1,h.2.1⟩
theorem oWk_own {m:Nat}{a b:Obj}(h:oWk m a b):a.own=b.own∧(b.own=true→a=b):=by
 rcases h with rfl|h
 ·exact⟨rfl,fun _=>rfl⟩
 ·obtain⟨h1,h2⟩:=rowWk_own h;exact⟨h1.trans h2.symm,fun e=>by rw[h2] at e;cases e⟩
theorem oWk_gone {m:Nat}{a b:Obj}(h:oWk m a b):a= .gone↔b= .gone:=by
 rcases h with rfl|h
 ·exact Iff.rfl
 ·cases a<;>cases b<;>simp only[rowWk] at h
  exact⟨fun e=>(by cases e),fun e=>(by cases e)⟩
theorem oWk_holds {m:Nat}{a b:Obj}(h:oWk m a b){β:Env}{w:World}{q:Option Loc}(hh:a.holds β w q):b.holds β w q:=by
 rcases h with rfl|h
 ·exact hh
 ·cases a<;>cases b<;>simp only[rowWk] at h
  rename_i x y;obtain⟨_,h2,h3,h4,h5⟩:=h;rcases hh with⟨g1,g2⟩|⟨L,g0,g1,g2,g3,_⟩
  ·exact .inl ⟨by omega,g2⟩
  ·refine .inr ⟨L,g0,by rw[g1,h3],g2,fun i hi=> ?_,fun e=>by rw[h2] at e;cases e⟩;obtain⟨q1,q2⟩:=g3 i (by omega);obtain⟨e1,e2,_⟩:=h5 i hi;refine⟨by rw[←wkL_len e1,q1,h3],fun j s hs=> ?_⟩;obtain⟨s0,hs0,hw⟩:=wkL_get9 e1 j s hs;obtain⟨_,v,c2,c3⟩:=q2 j s0 hs0;exact⟨e2 s (List.mem_of_getElem? hs),v,c2,SV.wk_den hw c3⟩
theorem ltL_get9 {m:Nat}:∀{l:List SV},SV.ltL m l→∀(j:Nat) (s:SV),l[j]? =some s→s.lt m
 |[],_,j,s,h=>by simp at h
 |a::l,hl,j,s,h=>by
  cases j with
  |zero=>simp at h;subst h;exact hl.1
  |succ j=>simp at h;exact ltL_get9 hl.2 j s h
theorem oWk_lt {m:Nat}{a b:Obj}(h:oWk m a b)(hh:a.lt m):b.lt m:=by
 rcases h with rfl|h
 ·exact hh
 ·cases a<;>cases b<;>simp only[rowWk] at h
  exact fun i j s hi hs=>ltL_get9 (h.2.2.2.2 i hi).2.2 j s hs
def HWk (m:Nat):List (Nat×Nat×(Nat→Obj))→List (Nat×Nat×(Nat→Obj))→Prop
 |[],[]=>True
 |(i1,c1,F1)::l1,(i0,c0,F0)::l0=>(i1=i0∧c1=c0∧∀k,oWk m (F1 k) (F0 k))∧HWk m l1 l0
 |_,_=>False
theorem HWk.find {m:Nat}:∀{os1 os0:List (Nat×Nat×(Nat→Obj))},HWk m os1 os0→∀id,(Sk.find os1 id=none∧Sk.find os0 id=none)∨∃c F1 F0,Sk.find os1 id=some (c,F1)∧Sk.find os0 id=some (c,F0)∧∀k,oWk m (F1 k) (F0 k)
 |[],[],_,_=> .inl ⟨rfl,rfl⟩
 |(i1,c1,F1)::l1,(i0,c0,F0)::l0,hh,id=>by
  obtain⟨⟨rfl,rfl,h2⟩,h3⟩:=hh;simp only[Sk.find]
  by_cases e:i1=id
  ·rw[if_pos e,if_pos e];exact .inr ⟨c1,F1,F0,rfl,rfl,h2⟩
  ·rw[if_neg e,if_neg e];exact HWk.find h3 id
 |[],_::_,hh,_=>hh.elim
 |_::_,[],hh,_=>hh.elim
theorem HWk.look {m:Nat}{os1 os0:List (Nat×Nat×(Nat→Obj))}(h:HWk m os1 os0)(id k:Nat):(Sk.look os1 id k=none∧Sk.look os0 id k=none)∨∃o1 o0,Sk.look os1 id k=some o1∧Sk.look os0 id k=some o0∧oWk m o1 o0:=by
 have no:∀{os:List (Nat×Nat×(Nat→Obj))} {id k:Nat},(∀c F,Sk.find os id=some (c,F)→k<c→F k= .gone)→Sk.look os id k=none:=fun {os id k} g=>by
  cases hl:Sk.look os id k with
  |none=>rfl
  |some o=>
   obtain⟨c,F,hf,hk,rfl⟩:=z1s hl;exact absurd (g c F hf hk) (z45 hl)
 rcases h.find id with⟨h1,h2⟩|⟨c,F1,F0,h1,h2,h3⟩
 ·exact .inl ⟨no fun c F hf=>(by rw[h1] at hf;cases hf),no fun c F hf=>(by rw[h2] at hf;cases hf)⟩
 ·by_cases hk:k<c
  ·by_cases hg:F0 k= .gone
   ·have hg1:=(oWk_gone (h3 k)).2 hg;exact .inl ⟨no fun c' F hf _=>(by rw[h1] at hf;cases hf;exact hg1),no fun c' F hf _=>(by rw[h2] at hf;cases hf;exact hg)⟩
   ·refine .inr ⟨F1 k,F0 k,(zp h1 hk).trans (Obj.opt_of fun e=>hg ((oWk_gone (h3 k)).1 e)),(zp h2 hk).trans (Obj.opt_of hg),h3 k⟩
  ·exact .inl ⟨no fun c' F hf hk'=>(by rw[h1] at hf;cases hf;exact absurd hk' hk),no fun c' F hf hk'=>(by rw[h2] at hf;cases hf;exact absurd hk' hk)⟩
theorem HWk.own {m:Nat}{os1 os0:List (Nat×Nat×(Nat→Obj))}(h:HWk m os1 os0){id k:Nat}{o:Obj}(ho:o.own=true):Sk.look os1 id k=some o↔Sk.look os0 id k=some o:=by
 rcases h.look id k with⟨h1,h2⟩|⟨o1,o0,h1,h2,h3⟩
 ·rw[h1,h2]
 ·rw[h1,h2];obtain⟨g1,g2⟩:=oWk_own h3
  constructor
  ·intro e;cases e;rw[g2 (g1.symm.trans ho)]
  ·intro e;cases e;rw[g2 ho]
theorem HWk.mem {m:Nat}:∀{os1 os0:List (Nat×Nat×(Nat→Obj))},HWk m os1 os0→∀y∈os0,(y.2.2 0).own=true→(∀k,(y.2.2 k).own=(y.2.2 0).own)→y∈os1
 |[],[],_,y,h,_,_=>h
 |(i1,c1,F1)::l1,(i0,c0,F0)::l0,hh,y,h,ho,hu=>by
  obtain⟨⟨rfl,rfl,h2⟩,h3⟩:=hh
  cases h with
  |head=>
   have:F1=F0:=funext fun k=>(oWk_own (h2 k)).2 (by have:=hu k;simp only at this ho;rw[this,ho]);rw[this];exact List.mem_cons_self ..
  |tail _ h=>exact List.mem_cons_of_mem _ (HWk.mem h3 y h ho hu)
 |[],_::_,hh,_,_,_,_=>hh.elim
 |_::_,[],hh,_,_,_,_=>hh.elim
theorem ze.less {P:Program}{f:FuncId}{args:List SV}{H0:AH}{R:SV→AH→Prop}(hF:ze P f args H0 R){os1:List (Nat×Nat×(Nat→Obj))}(hos:HWk H0.nxt os1 H0.os)(hu:z7c H0.os):ze P f args ⟨H0.nxt,os1⟩ R:=by
 intro X β w vs hP hm0 hw hβ ho hS hd hlt
 have hS':St X β H0 w:=by
  refine⟨hS.os,hS.tape,hS.output,hS.size,hS.fix,fun id k o0 h=> ?_,fun id k id' k' o0 o' L L' h h' how hb hb' he=> ?_,fun b hb hn=> ?_,fun id k o0 L h how hb=> ?_,fun id k hb=> ?_,hS.m0,fun id k o0 h=> ?_,hS.tabs,hS.drawn⟩
  ·rcases hos.look id k with⟨_,h2⟩|⟨o1,o0',h1,h2,h3⟩
   ·rw[h2] at h;cases h
   ·rw[h2] at h;cases h
    exact oWk_holds h3 (hS.holds _ _ _ h1)
  ·rcases hos.look id' k' with⟨_,h2⟩|⟨o1,o0',h1,h2,h3⟩
   ·rw[h2] at h';cases h'
   ·exact hS.sep _ _ _ _ _ _ _ _ ((hos.own how).2 h) h1 how hb hb' he
  ·exact hS.old b hb fun id k o0 L h how hbb=>hn id k o0 L ((hos.own how).1 h) how hbb
  ·exact hS.mine _ _ _ _ ((hos.own how).2 h) how hb
  ·obtain⟨h1,o,h2,h3⟩:=hS.keep id k hb;exact⟨h1,o,(hos.own h3).1 h2,h3⟩
  ·rcases hos.look id k with⟨_,h2⟩|⟨o1,o0',h1,h2,h3⟩
   ·rw[h2] at h;cases h
   ·rw[h2] at h;cases h
    obtain⟨g1,g2⟩:=hS.lt _ _ _ h1;exact⟨g1,oWk_lt h3 g2⟩
 have ho':X.own0=fun id k=> ∃o,Sk.look H0.os id k=some o∧o.own=true:=by
  rw[ho]
  funext id k
  apply propext
  constructor
  ·rintro⟨o,h1,h2⟩;exact⟨o,(hos.own h2).1 h1,h2⟩
  ·rintro⟨o,h1,h2⟩;exact⟨o,(hos.own h2).2 h1,h2⟩
 refine(hF X β w vs hP hm0 hw hβ ho' hS' hd hlt).mono ?_;rintro e w' ⟨v,rfl,β',s,H',hR,hown,h2,h3,h4⟩;refine⟨v,rfl,β',s,H',hR,fun x hx=> ?_,h2,h3,h4⟩;obtain⟨h1,h5⟩:=hown x hx;refine⟨h1,?_⟩;rcases h5 with h5|⟨y,hy,e1,e2,e3⟩
 ·exact .inl h5
 ·exact .inr ⟨y,hos.mem y hy e3 (hu y hy),e1,e2,e3⟩
end Go.Sk

namespace Go.Sk
open Go.RowKit
def memN (π:Pn)(m d:Nat):Pn:=fun id k=>if id<m then π id k else(id+d,k)
def shOs (π:Pn)(d:Nat)(os:List (Nat×Nat×(Nat→Obj))):List (Nat×Nat×(Nat→Obj)):=os.map fun x=>(x.1+d,x.2.1,fun k=>(x.2.2 k).renP π)
theorem find_shOs {π:Pn}{d:Nat}:∀(os:List (Nat×Nat×(Nat→Obj))) (id:Nat),find (shOs π d os) (id+d)=(find os id).map fun x=>(x.1,fun k=>(x.2 k).renP π)
 |[],_=>rfl
 |(i,c,F)::os,id=>by
  simp only[shOs,List.map_cons,find,Nat.add_right_cancel_iff]
  split
  ·rfl
  ·exact find_shOs os id
theorem find_shOs0 (π:Pn){d:Nat}:∀(os:List (Nat×Nat×(Nat→Obj))) (id c:Nat) (F:Nat→Obj),find (shOs π d os) id=some (c,F)→d≤id
 |[],_,_,_,h=>by cases h
 |(i,c',F')::os,id,c,F,h=>by
  simp only[shOs,List.map_cons,find] at h
  split at h
  ·omega
  ·exact find_shOs0 π os id c F h
theorem look_shOs {π:Pn}{d:Nat}{os:List (Nat×Nat×(Nat→Obj))}{id k:Nat}{o:Obj}(h:look (shOs π d os) id k=some o):∃id0 o0,id=id0+d∧look os id0 k=some o0∧o=o0.renP π:=by
 have hg:=z45 h;obtain⟨c,F,hf,hk,rfl⟩:=z1s h;have hd:=find_shOs0 π os id c F hf;obtain⟨id0,rfl⟩:∃i,id=i+d:=⟨id-d,by omega⟩;rw[find_shOs,Option.map_eq_some_iff] at hf;obtain⟨⟨c0,F0⟩,hf0,he⟩:=hf
 cases he
 exact⟨id0,F0 k,rfl,(zp hf0 hk).trans (Obj.opt_of (Obj.renP_gone hg)),rfl⟩
theorem look_shOs' {π:Pn}{d:Nat}{os:List (Nat×Nat×(Nat→Obj))}{id k:Nat}{o0:Obj}(h:look os id k=some o0):look (shOs π d os) (id+d) k=some (o0.renP π):=by
 have hg:=z45 h;obtain⟨c,F,hf,hk,rfl⟩:=z1s h;refine(zp (F:=fun k=>(F k).renP π) (by rw[find_shOs,hf];rfl) hk).trans (Obj.opt_of ?_)
 revert hg
 cases F k<;>simp[Obj.renP]
theorem ze.memN {P:Program}{f:FuncId}{args0:List SV}{H0:AH}{R:SV→AH→Prop}(hF:ze P f args0 H0 R)(π:Pn)(d:Nat){os1:List (Nat×Nat×(Nat→Obj))}
  (hm:HMem π H0.nxt os1 H0.os) (hl0:SV.ltL H0.nxt args0) (hπ:∀id k,id<H0.nxt→(π id k).1<H0.nxt+d) (hu:∀x∈os1,∀k,(x.2.2 k).own=false):
  ze P f (SV.renPL π args0) ⟨H0.nxt+d,os1⟩ (fun s H'=> ∃s0 H0',R s0 H0'∧s=s0.renP (Sk.memN π H0.nxt d)∧H'=⟨H0'.nxt+d,shOs (Sk.memN π H0.nxt d) d H0'.os⟩):=by
 intro X β w vs hP hm0 hw hβ ho hS hd hlt;have hm0:X.m0=H0.nxt+d:=hm0
 have hno:∀{id k:Nat} {o:Obj},look H0.os id k=some o→¬o.own=true:=fun h e=>by
  have:=(hm.get h).2.1;rw[this] at e;cases e
 have hno1:∀{id k:Nat} {o:Obj},look os1 id k=some o→¬o.own=true:=fun h e=>by
  obtain⟨c,F,hf,_,rfl⟩:=z1s h;have:=hu _ (z2l hf);rw[this] at e;cases e
 let Y:Cx:=⟨X.P,X.n,w,fun id k=> ∃o,look H0.os id k=some o∧o.own=true,H0.nxt,β.viaP π,X.wrap⟩
 have hY:St Y (β.viaP π) H0 w:=by
  refine⟨rfl,rfl,rfl,Nat.le_refl _,fun _ _ _=>rfl,fun id k o h=> ?_,fun id k id' k' o o' L L' h h' ho hb hb' he=>absurd ho (hno h),fun _ _ _=>rfl,fun id k o L h ho _=>absurd ho (hno h),fun id k ho=> ?_,Nat.le_refl _,fun id k o h=>⟨(hm.get h).1,(hm.get h).2.2.1⟩,⟨fun g hgt=> ?_,fun g hgt=> ?_⟩,Nat.le_refl _⟩
  ·obtain⟨_,_,_,o1,h1,h2⟩:=hm.get h;exact z8n h2 (hS.holds _ _ _ h1)
  ·obtain⟨o,h,ho'⟩:=ho;exact absurd ho' (hno h)
  ·obtain⟨_,hlt2,htab⟩:=hS.tab hgt;exact⟨hlt2,htab,fun id k L ho _=>by obtain⟨o,h,ho'⟩:=ho;exact absurd ho' (hno h)⟩
  ·obtain⟨_,hlt2,htab⟩:=hS.tabB hgt;exact⟨hlt2,htab,fun id k L ho _=>by obtain⟨o,h,ho'⟩:=ho;exact absurd ho' (hno h)⟩
 refine(hF Y (β.viaP π) w vs hP rfl rfl rfl rfl hY ((z7o _ _).1 hd) hl0).mono ?_;rintro e w' ⟨v,rfl,β',s0,H',hR,hown,hds,hsl,hS'⟩;have hnx:H0.nxt≤H'.nxt:=hS'.m0
 let τ:=Sk.memN π H0.nxt d
 let γ:Env:=fun id k=>if id<H0.nxt+d then β id k else β' (id-d) k
 have hγ:γ.viaP τ=β':=by
  funext id k
  show γ (τ id k).1 (τ id k).2=β' id k
  simp only[τ,Sk.memN]
  split
  ·rename_i h;simp only[γ];rw[if_pos (hπ id k h)];exact(hS'.fix id k h).symm
  ·rename_i h;simp only[γ];rw[if_neg (by omega),Nat.add_sub_cancel]
 have hτ:∀id k,id<H'.nxt→(τ id k).1<H'.nxt+d:=fun id k h=>by
  simp only[τ,Sk.memN]
  split
  ·rename_i h2;exact Nat.lt_of_lt_of_le (hπ id k h2) (by omega)
  ·show id+d<H'.nxt+d
   omega
 have hge:∀{x:Nat×Nat×(Nat→Obj)},x∈H'.os→H0.nxt≤x.1:=fun hx=>by
  rcases(hown _ hx).2 with h|⟨y,hy,_,_,hyo⟩
  ·exact h
  ·exfalso
   have:∀{os:List (Nat×Nat×(Nat→Obj))},y∈os→HMem π H0.nxt os1 os→(y.2.2 0).own=false:=by
    intro os
    induction os with
    |nil=>intro h;cases h
    |cons a os ih=>
     intro h g
     cases h with
     |head=>exact g.1.2.1 0
     |tail _ h=>exact ih h g.2
   rw[this hy hm] at hyo;cases hyo
 have hgel:∀{id k:Nat} {o:Obj},look H'.os id k=some o→H0.nxt≤id:=fun h=>by
  obtain⟨c,F,hf,_,_⟩:=z1s h;exact hge (z2l hf)
 have hγn:∀id k,H0.nxt≤id→γ (id+d) k=β' id k:=fun id k h=>by simp only[γ];rw[if_neg (by omega),Nat.add_sub_cancel]
 have hw0:X.w0=w:=hw;refine⟨v,rfl,γ,s0.renP τ,⟨H'.nxt+d,shOs τ d H'.os⟩,⟨s0,H',hR,rfl,rfl⟩,?_,?_,?_,?_⟩
 ·intro x hx;obtain⟨y,hy,rfl⟩:=List.mem_map.1 hx;exact⟨fun k=>by show((y.2.2 k).renP τ).own=true;rw[Obj.renP_own];exact(hown _ hy).1 k,.inl (by show H0.nxt+d≤y.1+d;have:=hge hy;omega)⟩
 ·rw[z5j,hγ];exact hds
 ·exact lt_renP hτ s0 hsl
 ·refine⟨hS'.os.trans hS.os,hS'.tape.trans hS.tape,hS'.output.trans hS.output,Nat.le_trans hS.size hS'.size,fun id k h=> ?_,fun id k o h=> ?_,fun id k id' k' o o' L L' h h' ho hb hb' he=> ?_,fun b hb hn=> ?_,fun id k o L h how hb=> ?_,fun id k hb=> ?_,?_,fun id k o h=> ?_,hS.tabs,Nat.le_trans hS.drawn hS'.drawn⟩
  ·rw[hm0] at h
   show γ id k=_
   simp only[γ];rw[if_pos h,hβ]
  ·obtain⟨id0,o0,rfl,h0,rfl⟩:=look_shOs h;rw[hγn _ _ (hgel h0)];exact Obj.renP_holds (by rw[hγ];exact hS'.holds _ _ _ h0)
  ·obtain⟨id0,o0,rfl,h0,rfl⟩:=look_shOs h;obtain⟨id1,o1,rfl,h1,rfl⟩:=look_shOs h';rw[hγn _ _ (hgel h0)] at hb;rw[hγn _ _ (hgel h1)] at hb';have:=hS'.sep _ _ _ _ _ _ _ _ h0 h1 (by rw[Obj.renP_own] at ho;exact ho) hb hb' he;exact⟨by rw[this.1],this.2⟩
  ·rw[hw0] at hb ⊢;refine hS'.old b hb fun id k o L h how hbb he=> ?_;exact hn (id+d) k _ L (look_shOs' h) (by rw[Obj.renP_own];exact how) (by rw[hγn _ _ (hgel h)];exact hbb) he
  ·obtain⟨id0,o0,rfl,h0,rfl⟩:=look_shOs h;rw[hγn _ _ (hgel h0)] at hb;rw[Obj.renP_own] at how;rcases hS'.mine _ _ _ _ h0 how hb with⟨_,q⟩|⟨q1,q2⟩
   ·obtain⟨o2,h2,ho2⟩:=q;exact absurd ho2 (hno h2)
   ·have q1:H0.nxt≤id0:=q1;exact .inr ⟨by rw[hm0];omega,by rw[hw0];exact q2⟩
  ·rw[ho] at hb;obtain⟨o2,h2,ho2⟩:=hb;exact absurd ho2 (hno1 h2)
  ·rw[hm0];show H0.nxt+d≤H'.nxt+d;omega
  ·obtain⟨id0,o0,rfl,h0,rfl⟩:=look_shOs h;have:=hS'.lt _ _ _ h0;exact⟨by show id0+d<H'.nxt+d;omega,Obj.renP_lt hτ this.2⟩
end Go.Sk

namespace Go.Proofs
open Go.Sk
theorem loadsR_spec (l:List Hm)(n:Nat)(hn:l.length=n)(hx:n≤1000000):
  ze Tryz.prog 30 [.slc false 0 0 0 n] ⟨2,[(0,Sk.one (.row ⟨false,false,43,4,n,hmR false 1 l⟩)),(1,(n+1,fam false 45 2 (hmF false l)))]⟩
   (fun s H1=>s= .slc true 2 0 0 n∧H1=⟨3,[(2,Sk.one (.row ⟨true,false,3,1,n,ints (z2e (vls l))⟩))]⟩):=by
 subst hn;refine ze.ofC false 20 [.tmp 2] Tryz.func30 rfl rfl Tryz.ntmps30 Tryz.results30 rfl ?_;intro w0 own0 β0 Q hQ hQn;simp only[z1n];refine MvLm.rs [0] ?_;refine MvLm.rs [0,3] ?_;refine Cs.seq ?_;refine MvLm.rs [3,6,7,8] ?_;refine Cs.nilO 3 3 1 (ints ((z2e (vls l)).take 0)) rfl ?_;dsimp only;refine Cs.block ?_;intro Q0 hN0 hX0 hR0 hE0;refine Cs.loop (σ:=Nat) (fun i=>i≤l.length) (fun i=>l.length-i) (fun i=>[(3,.slc true 2 0 0 i),(6,.slc false 0 0 0 l.length),(7,.int .i64 l.length),(8,.int .i64 i)]) (fun i=>⟨3,[(2,Sk.one (.row ⟨true,false,3,1,i,ints ((z2e (vls l)).take i)⟩)),(0,Sk.one (.row ⟨false,false,43,4,l.length,hmR false 1 l⟩)),(1,(l.length+1,fam false 45 2 (hmF false l)))]⟩) 0 (Nat.zero_le _) (ρ:=id) (MvLm.g_ints id) ?_;rintro i hi QL1 hL1 hRL1 hEL1;refine MvLm.rs [3,6,7,8,9] ?_;refine Cs.seq ?_;refine Cs.cond _ rfl ?_ ?_
 ·intro h9;replace h9:=z6 h9;refine Cs.skip ?_;refine Cs.seq ?_;refine Cs.block ?_;intro Q1 hN1 hX1 hR1 hE1;refine MvLm.rs [3,5,6,7,8] ?_;refine MvLm.rg [3,6,7,8] ?_;refine Cs.nil ?_;refine hN1 _ _ ?_;refine MvLm.rg [3,6,7,8] ?_;refine Cs.nil ?_;refine hL1 _ _ ?_;rw[app_intsL (by rw[List.length_take,z49,z1v];omega),←loadL_take (by omega),show(i:Int)+1=((i+1:Nat):Int) from by omega];exact⟨i+1,⟨by omega,by omega⟩,fun q=>if q=2 then 5 else q,(MvLm.g_ints (fun q=>if q=2 then 5 else q))⟩
 ·intro h9
  refine Cs.exit ?_;refine hEL1 _ _ _ ?_;refine hX0 _ _ ?_;refine MvLm.rs [2] ?_;refine Cs.ret ?_;refine hQ _ _ ?_
  have hin:i=l.length:=by
   have:¬(i:Int)<l.length:=by simpa using h9
   omega
  rw[hin,List.take_of_length_le (by rw[z49,z1v];omega)];refine zm.mk (H':=⟨3,[(2,Sk.one (.row ⟨true,false,3,1,l.length,ints (z2e (vls l))⟩))]⟩) (.inl rfl) ?_;refine zh ?_;refine⟨MvLm.s,(MvLm.g id),MvLm.s,?_⟩
  all_goals first|trivial|exact⟨rfl,trivial⟩
end Go.Proofs

namespace Go.Proofs
open Go.Sk
theorem z4m (ρ:Nat→Nat)(p:Prop) [Decidable p](a b:List SV):SV.renL ρ (if p then a else b)=if p then SV.renL ρ a else SV.renL ρ b:=by split<;>rfl
theorem nei_bes (n:Nat)(a b:Int):neighB n a b=besB n a b:=by
 rw[Bool.eq_iff_iff,bes_iff,neighB,decide_eq_true_eq]
 constructor
 ·rintro⟨h1,h2,h3,h4,h5⟩;exact⟨⟨h1,h2⟩,⟨h3,h4⟩,h5⟩
 ·rintro⟨⟨h1,h2⟩,⟨h3,h4⟩,h5⟩;exact⟨h1,h2,h3,h4,h5⟩
def gCell (x:Nd)(s:SV):List SV:=[.int .i64 x.id,.str x.key,.int .u32 x.word,s]
def muR (μ:Nat→Fin 5×Nat)(l:List Hm):Nat→List SV:=fun i=>[.int .i64 (hm l i).nd.id,.str (hm l i).nd.key,.int .u32 (hm l i).nd.word,.slc false (μ i).1.val (μ i).2 (hm l i).off (hm l i).n]
theorem z48 (ρ:Nat→Nat)(x:Nd)(s:SV):SV.renL ρ (gCell x s)=gCell x (s.ren ρ):=by simp[gCell,SV.renL,SV.ren]
theorem z53 (m:Nat)(x:Nd)(s:SV):SV.ltL m (gCell x s)↔s.lt m:=by simp[gCell,SV.ltL,SV.lt]
theorem cell4_wk (a b:List SV)(x:Nd)(f k o c:Nat){m:Nat}(ha:a=[.int .i64 x.id,.str x.key,.int .u32 x.word,.slc false f k o c])(hb:b=[.int .i64 x.id,.str x.key,.int .u32 x.word,.slc false f k o c])(h:f<m):SV.wkL a b∧(∀s∈b,s.scalar=true)∧SV.ltL m b:=by
 subst ha hb;exact⟨⟨rfl,rfl,rfl,rfl,trivial⟩,row4_wk h⟩
theorem z74 (a b:List SV)(x:Nd)(f k o c:Nat){m:Nat}(ha:a=[.int .i64 x.id,.str x.key,.int .u32 x.word,.slc true f k 0 c])(ho:o=0)(hk:k=0)(hb:b=[.int .i64 x.id,.str x.key,.int .u32 x.word,.slc false f k o c])(h:f<m):SV.wkL a b∧(∀s∈b,s.scalar=true)∧SV.ltL m b:=by
 subst ha hb ho hk;exact⟨⟨rfl,rfl,rfl,⟨rfl,rfl,rfl,rfl⟩,trivial⟩,row4_wk h⟩
theorem MvZm.s {a:Prop}(h:a:=by simp[SV.wkL,SV.wk,z1i,z1b,Sk.get,Sk.find,Sk.one,zb.eq_1,zb.eq_2,zb.eq_3,zo,z1k,z1g,SV.renL,SV.ren,Obj.lt_row,SV.ltL,SV.lt,z7c,z3q,zw,z25,Obj.own.eq_1,Obj.own.eq_2,Obj.own.eq_3,Obj.own.eq_4,z1e,zn,zr,z1w,nds,Nd.sv,z14,zx,z3a,z3b,z28,z1r,z2t,z15,z1h,z18,z21,z2u,z1o,z1j,z20,z19,z2h,z33,z4m,z48,z53,Fin.is_lt]):a:=h
theorem MvZm.g {X:Cx}{fr:Fr}{H:AH}{fr1:Fr}{H1:AH}(ρ:Nat→Nat)(q:GvQ X ρ fr H fr1 H1:=by constructor<;>exact MvZm.s)(r:GvR X ρ H1:=by exact⟨rfl,rfl,Nat.le_of_ble_eq_true rfl,rfl⟩):z2v X ρ fr H fr1 H1:=gvS ρ q r
theorem zl {a c d:Prop}(r:a→c)(h:d)(e:Sd a d:=by simp only[stp,isQ,z4q,Sk.get,Sk.put,z24,zt,↓reduceIte,reduceCtorEq,Nat.reduceEqDiff,zc2,zc3,implies_true,forall_const,zc5,qop,grdK,zc4,List.getElem?_cons_zero,beq_self_eq_true,zc1,z13,cond_true,cond_false,z3x,Sk.find,Sk.one,z17,z1u,Kd.agg,Nat.reduceBEq,ite_self,Nat.zero_add,Nat.reduceAdd,Nat.reduceMul,Nat.reduceSub,Nat.reduceLT,Nat.reduceLeDiff,Nat.zero_le,ne_eq,Int.reduceToNat,exists_eq',spl,z29,SV.cells,SV.scalar,binK,z5o,z5n,intK,z2x,strK,z37,z5m,z3u,unK,z5p,z5i,z39,z3c,z5c,z3d,z3e,optK,z3g,bndK,z36,z38,z55,z3k,lenK,z1a.len,zq.n,z50,mmK,z1y,eop,z5s,srcK,z1f,z44,z3o,capK,z5t,z2c,z2q,z30,boxK,z2d,z3m,z31,updF,mkK,z5a,z1a.ofKd,zq.ofKd,z5b,z1a.add,z1a.okKd,zq.put,zq.okKd,zq.okP,z3f,z1a.has,zq.get,zq.z,Tryz.tyInt,Tryz.szInt,Tryz.tyStr,Tryz.tyU32,Tryz.tyNode,Tryz.szNode,Tryz.zNode,Tryz.tyNodes,Tryz.szNodes,z1e,zn,nds,Nd.sv,Tryz.tyRow,Tryz.szRow,Tryz.zRow,Tryz.tyRows,Tryz.szRows,Tryz.zRows,Tryz.tyHd,Tryz.szHd,Tryz.zHd,Tryz.tyHds,Tryz.szHds,Tryz.tyHoldings,z87,z86,z8p,Tryz.tyErr,Tryz.tyBool,Tryz.szStr,zc8];(repeat(with_reducible apply Sd.and;exact z7));exact Sd.rfl):c:=r (e.f h)
theorem z27 {X:Cx}{Q:Exit→Fr→AH→Prop}{fr fr1:Fr}{H H1:AH}{l:List Code}{id:Nat}{ops:List Oper}(keep:List Nat)(h:Cs X l Q fr1 H1)(hd:z2b X.n ops=true:=by exact rfl)(e:∀K:Fr→AH→Prop,K fr1 H1→z5v X.P X.wrap X.m0 ops.toArray ops fr H (fun fr H=>K (prune keep fr) H):=by(intro K hK;(repeat(refine zl z5 ?_));exact za (z8 hK))):Cs X (.region id ops.toArray false::l) Q fr H:=rgS keep h hd e
theorem z1q {X:Cx}{Q:Exit→Fr→AH→Prop}{fr fr1:Fr}{H H1:AH}{l:List Code}{id:Nat}{ops:List Oper}{y:Code}(keep:List Nat)(h:Cs X (y::l) Q fr1 H1)(hd:z2b X.n ops=true:=by exact rfl)(e:∀K:Fr→AH→Prop,K fr1 H1→z5v X.P X.wrap X.m0 ops.toArray ops fr H (fun fr H=>K (prune keep fr) H):=by(intro K hK;(repeat(refine zl z5 ?_));exact za (z8 hK))):Cs X (.seq (.region id ops.toArray false) y::l) Q fr H:=Cs.seq (rgS keep h hd e)
theorem z81 (f:Nat→Hm)(μ:Nat→Fin 5×Nat)(n:Nat)(hx:n≤1000000):ze Tryz.prog 62 [.slc true 2 0 0 n] ⟨5,[(2,Sk.one (.row ⟨true,false,43,4,n,fun i=>[.int .i64 (f i).nd.id,.str (f i).nd.key,.int .u32 (f i).nd.word,.slc false (μ i).1.val (μ i).2 (f i).off (f i).n]⟩))]⟩
  (fun s H1=>s= .slc true 2 0 0 n∧H1=⟨5,[(2,Sk.one (.row ⟨true,false,43,4,n,fun i=>[.int .i64 (f i).nd.id,.str (if i=0 then⟨#[]⟩ else(f i).nd.key),.int .u32 (f i).nd.word,.slc false (μ i).1.val (μ i).2 (f i).off (f i).n]⟩))]⟩):=by
 refine ze.ofC false 11 [.tmp 2] Tryz.func62 rfl rfl Tryz.ntmps62 Tryz.results62 rfl ?_;intro w0 own0 β0 Q hQ hQn;simp only[z1n];refine z1q [0] ?_;refine Cs.seq ?_;refine z1q [0,5] ?_;refine Cs.cond _ rfl ?_ ?_
 ·intro h5;replace h5:=z6 h5;refine z27 [0] ?_;refine z1q [2] ?_;refine Cs.wkRow 2 (fun i=>[.int .i64 (f i).nd.id,.str (if i=0 then⟨#[]⟩ else(f i).nd.key),.int .u32 (f i).nd.word,.slc false (μ i).1.val (μ i).2 (f i).off (f i).n]) rfl rfl (fun i hi=> ?_) ?_
  ·refine cell4_wk _ _ ⟨(f i).nd.id,if i=0 then⟨#[]⟩ else(f i).nd.key,(f i).nd.word⟩ (μ i).1.val (μ i).2 (f i).off (f i).n ?_ rfl (μ i).1.isLt
   by_cases e:i=0
   ·subst e
    first|rfl|(exfalso;dsimp only at hi;omega)
   ·simp only[if_neg e]
  simp only[z44,↓reduceIte,Sk.one];refine Cs.ret ?_;refine hQ _ _ ?_;refine zm.mk (H':=⟨5,[(2,Sk.one (.row ⟨true,false,43,4,n,fun i=>[.int .i64 (f i).nd.id,.str (if i=0 then⟨#[]⟩ else(f i).nd.key),.int .u32 (f i).nd.word,.slc false (μ i).1.val (μ i).2 (f i).off (f i).n]⟩))]⟩) (.inl rfl) ?_;refine zh ?_;refine⟨MvZm.s,(MvZm.g id),MvZm.s,?_⟩
  first|trivial|exact⟨rfl,trivial⟩
 ·intro h5;replace h5:=z6 h5;refine Cs.skip ?_;refine z1q [2] ?_;refine Cs.wkRow 2 (fun i=>[.int .i64 (f i).nd.id,.str (if i=0 then⟨#[]⟩ else(f i).nd.key),.int .u32 (f i).nd.word,.slc false (μ i).1.val (μ i).2 (f i).off (f i).n]) rfl rfl (fun i hi=> ?_) ?_
  ·refine cell4_wk _ _ ⟨(f i).nd.id,if i=0 then⟨#[]⟩ else(f i).nd.key,(f i).nd.word⟩ (μ i).1.val (μ i).2 (f i).off (f i).n ?_ rfl (μ i).1.isLt
   by_cases e:i=0
   ·subst e
    first|rfl|(exfalso;dsimp only at hi;omega)
   ·simp only[if_neg e]
  simp only[z44,↓reduceIte,Sk.one];refine Cs.ret ?_;refine hQ _ _ ?_;refine zm.mk (H':=⟨5,[(2,Sk.one (.row ⟨true,false,43,4,n,fun i=>[.int .i64 (f i).nd.id,.str (if i=0 then⟨#[]⟩ else(f i).nd.key),.int .u32 (f i).nd.word,.slc false (μ i).1.val (μ i).2 (f i).off (f i).n]⟩))]⟩) (.inl rfl) ?_;refine zh ?_;refine⟨MvZm.s,(MvZm.g id),MvZm.s,?_⟩
  first|trivial|exact⟨rfl,trivial⟩
def ResR (l L':List Hm)(r3 r4:List Rw)(μ:Nat→Fin 5×Nat):Prop:=∀i,i<L'.length→
 (∃j t,j<l.length∧μ i=(1,j+1)∧(hm L' i).full=(hm l j).full.take t)∨(μ i=(3,0)∧∃t,(hm L' i).full=r3.take t)∨(μ i=(4,0)∧(hm L' i).full=r4)
theorem ResR.fst {l L:List Hm}{r3 r4:List Rw}{μ:Nat→Fin 5×Nat}(h:ResR l L r3 r4 μ):ResR l (fstM L) r3 r4 μ:=fun i hi=>by
 rw[z2i] at hi
 have e:(hm (fstM L) i).full=(hm L i).full:=by
  rw[hm_fstM]
  split
  ·rename_i g;rw[g.1]
  ·rfl
 rw[e];exact h i hi
def hmk (n:Nat)(f:Nat→Hm):List Hm:=(List.range n).map f
theorem z3p (n:Nat)(f:Nat→Hm):(hmk n f).length=n:=by simp[hmk]
theorem hm_hmk {n i:Nat}(f:Nat→Hm)(h:i<n):hm (hmk n f) i=f i:=by simp[hm,hmk,List.getD,h]
theorem hd_ext {a b:List Hd}(hl:a.length=b.length)(h:∀q,q<a.length→hd a q=hd b q):a=b:=
 List.ext_getElem hl fun q h1 h2=>by rw[←hd_lt h1,←hd_lt h2];exact h q h1
theorem vls_hmk {n:Nat}{f:Nat→Hm}{V:List Hd}(hV:V.length=n)(h:∀q,q<n→(f q).v=hd V q):vls (hmk n f)=V:=
 hd_ext (by rw[z1v,z3p,hV]) fun q hq=>by
  rw[z1v,z3p] at hq;rw[z4z,hm_hmk f hq,h q hq]
theorem HmB.hmk {n:Nat}{f:Nat→Hm}(hn:n≤100)(h:∀q,q<n→(f q).off≤(f q).full.length∧(f q).full.length≤3000):HmB (hmk n f):=by
 refine⟨by rw[z3p];exact hn,fun x hx=> ?_⟩;obtain⟨q,hq,rfl⟩:=List.mem_map.1 hx;exact h q (List.mem_range.1 hq)
theorem muR_fst (n:Nat)(f:Nat→Hm)(μ:Nat→Fin 5×Nat){i:Nat}(h:i<n):[SV.int .i64 (f i).nd.id,.str (if i=0 then⟨#[]⟩ else(f i).nd.key),.int .u32 (f i).nd.word,.slc false (μ i).1.val (μ i).2 (f i).off (f i).n]=muR μ (fstM (hmk n f)) i:=by
 rw[muR,hm_fstM,z3p]
 by_cases e:i=0
 ·subst e;rw[if_pos rfl,if_pos ⟨rfl,h⟩,hm_hmk f h];rfl
 ·rw[if_neg e,if_neg (by omega),hm_hmk f h]
end Go.Proofs

namespace Go.Proofs
open Go.Sk
theorem z4j (ρ:Nat→Nat)(e:Go.TypeId)(sz:Nat)(G:Nat→Sk.Obj)(f:Nat→List SV):zb ρ (fam true e sz G 0) (.row ⟨true,false,e,sz,0,f⟩)=True:=eq_true ⟨fun _=>⟨rfl,rfl⟩,rfl,Nat.le_refl _,fun i hi=>absurd hi (Nat.not_lt_zero _)⟩
theorem z83 {a:Prop}(h:a:=by simp[SV.wkL,SV.wk,z1i,z1b,Sk.get,Sk.find,Sk.one,zb.eq_1,zb.eq_2,zb.eq_3,zo,z1k,z1g,SV.renL,SV.ren,Obj.lt_row,SV.ltL,SV.lt,z7c,z3q,zw,z25,Obj.own.eq_1,Obj.own.eq_2,Obj.own.eq_3,Obj.own.eq_4,z1e,zn,zr,z1w,nds,Nd.sv,z14,zx,z3a,z3b,z28,z1r,z2t,z15,z1h,z18,z21,z2u,z1o,z1j,z20,z19,z2h,z33,z4m,z48,z53,Fin.is_lt,z4j]):a:=h
theorem MwAm.c1 {P:Program}{f:FuncId}{args args0:List SV}{H0 H Y g:AH}{X e:SV}{dr:Bool}{W:List Nat}{k:SV→AH→Prop}(hF:ze P f args0 H0 fun s H1=>s=X∧H1=Y)(ρ:Nat→Nat)(h:k e g)(q:CaQ args args0 ρ H0 H dr W:=by constructor<;>exact z83)(r:CaR ρ H0 H:=by exact⟨rfl,rfl⟩)(b:AfQ (X.ren (z57 H0.nxt H.nxt ρ)) e (after H0.nxt ρ H0 H Y) g:=by exact MvWm.t):z4u P f args H dr W k:=c1S hF ρ h q r b
theorem MwAm.g {X:Cx}{fr:Fr}{H:AH}{fr1:Fr}{H1:AH}(ρ:Nat→Nat)(q:GvQ X ρ fr H fr1 H1:=by constructor<;>exact z83)(r:GvR X ρ H1:=by exact⟨rfl,rfl,Nat.le_of_ble_eq_true rfl,rfl⟩):z2v X ρ fr H fr1 H1:=gvS ρ q r
set_option maxHeartbeats 4000000 in
theorem shiftR_spec (l:List Hm)(hb:HmB l)(n:Nat)(hn:l.length=n)(a b c:Int):
  ze Tryz.prog 31 [.slc false 0 0 0 n,.int .i64 a,.int .i64 b,.int .i64 c] ⟨2,[(0,Sk.one (.row ⟨false,false,43,4,n,hmR false 1 l⟩)),(1,(n+1,fam false 45 2 (hmF false l)))]⟩
   (fun s H1=> ∃(L':List Hm) (r3 r4:List Rw) (μ:Nat→Fin 5×Nat) (F:Nat→List SV),vls L'=shR (vls l) a b c∧HmB L'∧ResR l L' r3 r4 μ∧(∀i,i<L'.length→F i=muR μ L' i)∧s= .tup [.slc true 2 0 0 L'.length,.int .i64 (shE (vls l) a b c)]∧H1=⟨5,[(2,Sk.one (.row ⟨true,false,43,4,L'.length,F⟩)),(3,Sk.one (.row ⟨true,false,45,2,r3.length,rws r3⟩)),(4,Sk.one (.row ⟨true,false,45,2,r4.length,rws r4⟩))]⟩):=by
 subst hn;have hlen:=hb.len;refine ze.ofC false 124 [.tmp 8,.tmp 9] Tryz.func31 rfl rfl Tryz.ntmps31 Tryz.results31 rfl ?_;intro w0 own0 β0 Q hQ hQn;simp only[z1n];refine z1q [0,1,2,3] ?_;refine Cs.seq ?_;refine sg [0,1,2,3,15] rfl ?_;intro K hK;refine zl z5 ?_;refine zl z5 ?_;refine MwAm.c1 (validR_spec l hb l.length rfl) (id) ?_;refine zl z5 ?_;refine za (z8 (hK _ _ ?_));clear hK K;refine Cs.cond _ rfl ?_ ?_
 ·intro h15;simp only[Bool.not_eq_true'] at h15;refine z1q [8,9] ?_;refine Cs.nilO 8 43 4 (hmR false 0 []) rfl ?_;dsimp only;refine Cs.fam0 45 2 (hmF true []) ?_;dsimp only;refine Cs.fam0 45 2 (hmF true []) ?_;dsimp only;refine Cs.ret ?_;refine hQ _ _ ?_;refine zm.mk (H':=⟨5,[(2,Sk.one (.row ⟨true,false,43,4,0,fun i=>hmR false 0 [] i⟩)),(3,Sk.one (.row ⟨true,false,45,2,0,rws []⟩)),(4,Sk.one (.row ⟨true,false,45,2,0,rws []⟩))]⟩) (.inl rfl) ?_;refine zh ?_;refine⟨z83,(MwAm.g id),z83,?_⟩;have hE:shE (vls l) a b c=1:=by rw[shE,if_pos h15]
  exact⟨[],[],[],fun _=>(1,0),_,by rw[shR,if_neg (by rw[hE];decide)];rfl,⟨Nat.zero_le _,fun x hx=>by cases hx⟩,fun i hi=>absurd hi (Nat.not_lt_zero _),fun i hi=>absurd hi (Nat.not_lt_zero _),by rw[hE];trivial,by trivial⟩
 ·intro h15;simp only[Bool.not_eq_false'] at h15;refine Cs.skip ?_;refine Cs.seq ?_;refine sg [0,1,2,3,39] rfl ?_;intro K hK
  have hk3:∀B:Bool,B=(!besB l.length a b||decide (c<0)||(decide (0<c) && decide (nR (vls l) a≤c)))→K [(0,.slc false 0 0 0 l.length),(1,.int .i64 a),(2,.int .i64 b),(3,.int .i64 c),(39,.bool B)] ⟨2,[(0,Sk.one (.row ⟨false,false,43,4,l.length,hmR false 1 l⟩)),(1,(l.length+1,fam false 45 2 (hmF false l)))]⟩:=by
   intro B hB;subst hB;refine hK _ _ ?_;clear hK K;refine Cs.cond _ rfl ?_ ?_
   ·intro h39
    refine z1q [8,9] ?_;refine Cs.nilO 8 43 4 (hmR false 0 []) rfl ?_;dsimp only;refine Cs.fam0 45 2 (hmF true []) ?_;dsimp only;refine Cs.fam0 45 2 (hmF true []) ?_;dsimp only;refine Cs.ret ?_;refine hQ _ _ ?_;refine zm.mk (H':=⟨5,[(2,Sk.one (.row ⟨true,false,43,4,0,fun i=>hmR false 0 [] i⟩)),(3,Sk.one (.row ⟨true,false,45,2,0,rws []⟩)),(4,Sk.one (.row ⟨true,false,45,2,0,rws []⟩))]⟩) (.inl rfl) ?_;refine zh ?_;refine⟨z83,(MwAm.g id),z83,?_⟩;have hE:shE (vls l) a b c=2:=by rw[shE,if_neg (by rw[h15];decide),z1v,if_pos h39]
    exact⟨[],[],[],fun _=>(1,0),_,by rw[shR,if_neg (by rw[hE];decide)];rfl,⟨Nat.zero_le _,fun x hx=>by cases hx⟩,fun i hi=>absurd hi (Nat.not_lt_zero _),fun i hi=>absurd hi (Nat.not_lt_zero _),by rw[hE];trivial,by trivial⟩
   ·intro h39;simp only[Bool.or_eq_false_iff,Bool.and_eq_false_imp,Bool.not_eq_false',decide_eq_true_eq,decide_eq_false_iff_not] at h39;obtain⟨⟨hbes,hc0⟩,hc1⟩:=h39;obtain⟨⟨ha0,ha1⟩,⟨hb0,hb1⟩,hab⟩:=bes_iff.1 hbes;obtain⟨C,rfl⟩:=Int.eq_ofNat_of_zero_le (show 0≤c by omega);obtain⟨D,rfl⟩:=Int.eq_ofNat_of_zero_le ha0;obtain⟨E,rfl⟩:=Int.eq_ofNat_of_zero_le hb0
    have hE:shE (vls l) D E C=0:=by
     rw[shE_iff];refine⟨h15,by rw[z1v];exact hbes,by omega,?_⟩
     by_cases e:C=0
     ·exact .inl (by omega)
     ·exact .inr (by have:=hc1 (by omega);omega)
    have hCn:C≤(hm l D).n:=by
     by_cases e:C=0
     ·omega
     ·have:=hc1 (by omega);rw[nR,Int.toNat_natCast,z7s] at this;omega
    have hrw:=fun i=>vld_rows h15 i;have hrD:=hrw D;have hrE:=hrw E;rw[z7s] at hrD hrE;have hatD:=hb.at D;have hatE:=hb.at E;have hnD:(hm l D).n=(hm l D).full.length-(hm l D).off:=rfl;have hnE:(hm l E).n=(hm l E).full.length-(hm l E).off:=rfl;refine Cs.skip ?_;refine z1q [1,2,3,10] ?_;refine z1q [1,2,3,10,11] ?_;refine z1q [1,2,3,10,11,12] ?_;refine Cs.seq ?_;refine Cs.block ?_;intro Q0 hN0 hX0 hR0 hE0;refine z1q [1,2,3,10,11,12,83] ?_;refine Cs.cond _ rfl ?_ ?_
    ·intro h83;replace h83:=z6 h83;refine Cs.skip ?_;refine Cs.nil ?_;refine hN0 _ _ ?_;refine Cs.seq ?_;obtain⟨f,hf⟩:∃f:Nat→Hm,f=hm l:=⟨_,rfl⟩;obtain⟨μ,hμ⟩:∃μ:Nat→Fin 5×Nat,μ=fun i=>(1,i+1):=⟨_,rfl⟩;refine Cs.fam0 45 2 (hmF true []) ?_;dsimp only;refine Cs.fam0 45 2 (hmF true []) ?_;dsimp only;refine Cs.wkRow 2 (fun i=>[.int .i64 (f i).nd.id,.str (f i).nd.key,.int .u32 (f i).nd.word,.slc false (μ i).1.val (μ i).2 (f i).off (f i).n]) rfl rfl (fun q hq=>cell4_wk _ _ (f q).nd (μ q).1.val (μ q).2 (f q).off (f q).n (by rw[hf,hμ];rfl) rfl (μ q).1.isLt) ?_;simp only[z44,↓reduceIte,Sk.one,Nat.reduceEqDiff]
     have hvls:vls (hmk l.length f)=shH (vls l) D E C:=by
      rw[shH,if_pos h83];exact vls_hmk (z1v l) fun q hq=>by rw[hf,z4z]
     have hHB:HmB (hmk l.length f):= .hmk hlen fun q hq=>by rw[hf];exact hb.at q
     have hRes:ResR l (hmk l.length f) [] [] μ:=fun i hi=>by
      rw[z3p] at hi;rw[hm_hmk f hi,hf,hμ];exact .inl ⟨i,(hm l i).full.length,hi,rfl,by rw[List.take_length]⟩
     refine Cs.reg [8,9] rfl ?_;intro K hK;refine zl z5 ?_;refine zl z5 ?_;refine MwAm.c1 (z81 f μ l.length (by omega)) (id) ?_;iterate 2 (refine zl z5 ?_)
     refine za (z8 (hK _ _ ?_));clear hK K;refine Cs.ret ?_;refine hQ _ _ ?_;refine zm.mk (H':=⟨5,[(2,Sk.one (.row ⟨true,false,43,4,l.length,fun i=>[.int .i64 (f i).nd.id,.str (if i=0 then⟨#[]⟩ else(f i).nd.key),.int .u32 (f i).nd.word,.slc false (μ i).1.val (μ i).2 (f i).off (f i).n]⟩)),(3,Sk.one (.row ⟨true,false,45,2,0,rws []⟩)),(4,Sk.one (.row ⟨true,false,45,2,0,rws []⟩))]⟩) (.inl rfl) ?_;refine zh ?_;refine⟨z83,(MwAm.g id),z83,?_⟩;refine⟨fstM (hmk l.length f),[],[],μ,_,?_,hHB.fst,hRes.fst,fun i hi=>muR_fst _ _ _ (by rwa [z2i,z3p] at hi),?_,?_⟩
     ·rw[shR,if_pos hE,z7z,hvls]
     ·rw[hE,z2i,z3p]
     ·rw[z2i,z3p];rfl
    ·intro h83;replace h83:=z6 h83;have hC:0<C:=by omega
     have hC1:=hc1 (by omega);rw[nR,Int.toNat_natCast,z7s] at hC1;refine z1q [1,2,3,10,11,12,86] ?_;refine Cs.cond _ rfl ?_ ?_
     ·intro h86;replace h86:=z6 h86;have:E=D+1:=by omega
      subst this;refine Cs.seq ?_;obtain⟨M,hM⟩:∃M,M=(hm l D).n-C:=⟨_,rfl⟩;rw[show((hm l D).n:Int)-(C:Int)=(M:Int) by omega];refine Cs.regTree [1,2,10,11,12] (.op 0 (.op 1 (.op 2 (.op 3 (.op 4 (.op 6 (.op 7 (.op 8 (.op 9 (.op 10 (.op 5 (.op 11 (.op 12 (.op 13 (.op 14 .done))))))))))))))) [[],[],[],[],[2,3],[2,3,4],[],[],[6,7],[6,7,8],[6,7,8,9],[2,3,4,5,6,7,8,9,10],[0,1,2,3,4,5,6,7,8,9,10,11],[0,1,2,3,4,5,6,7,8,9,10,11,12],[0,1,2,3,4,5,6,7,8,9,10,11,12,13]] [[],[],[],[],[],[],[],[],[],[],[],[999999],[],[],[2]] [[],[],[],[],[],[],[],[],[],[],[],[],[],[],[2]] Tryz.mo rfl rfl (by kernel_rfl) (by kernel_rfl) (by kernel_rfl) rfl (by kernel_rfl) ?_;intro K hK hG
      have hk13:K [(1,.int .i64 D),(2,.int .i64 (D+1:Nat)),(10,.slc true 2 0 0 l.length),(11,.slc false 1 (D+1) (hm l D).off (hm l D).n),(12,.int .i64 M)] ⟨5,[(4,Sk.one (.row ⟨true,false,45,2,C+(hm l (D+1)).n,rws ((hm l D).full.drop ((hm l D).off+M)++(hm l (D+1)).full.drop (hm l (D+1)).off)⟩)),(2,Sk.one (.row ⟨true,false,43,4,l.length,fun q=>if q=D+1 then [.int .i64 (hm l (D+1)).nd.id,.str (hm l (D+1)).nd.key,.int .u32 (hm l (D+1)).nd.word,.slc true 4 0 0 (C+(hm l (D+1)).n)] else [.int .i64 (hm l q).nd.id,.str (hm l q).nd.key,.int .u32 (hm l q).nd.word,.slc false 1 (q+1) (hm l q).off (hm l q).n]⟩)),(0,Sk.one (.row ⟨false,false,43,4,l.length,hmR false 1 l⟩)),(1,(l.length+1,fam false 45 2 (hmF false l)))]⟩:=by
       refine hK _ _ ?_;clear hG hK K;refine z1q [1,10,11,12] ?_;refine z27 [10] ?_;refine Cs.nil ?_;refine hN0 _ _ ?_;refine Cs.seq ?_;refine Cs.give (H':=⟨4,[(3,Sk.one (.row ⟨true,false,45,2,C+(hm l (D+1)).n,rws ((hm l D).full.drop ((hm l D).off+M)++(hm l (D+1)).full.drop (hm l (D+1)).off)⟩)),(2,Sk.one (.row ⟨true,false,43,4,l.length,fun i'=>if i'=D then [.int .i64 (hm l D).nd.id,.str (hm l D).nd.key,.int .u32 (hm l D).nd.word,.slc false 1 (D+1) (hm l D).off M] else if i'=D+1 then [.int .i64 (hm l (D+1)).nd.id,.str (ro (hm l D).full ((hm l D).off+M)).key,.int .u32 (hm l (D+1)).nd.word,.slc true 3 0 0 (C+(hm l (D+1)).n)] else [.int .i64 (hm l i').nd.id,.str (hm l i').nd.key,.int .u32 (hm l i').nd.word,.slc false 1 (i'+1) (hm l i').off (hm l i').n]⟩))]⟩) (fr':=[(10,.slc true 2 0 0 l.length)]) (fun q=>if q=3 then 4 else q) (gvS (fun q=>if q=3 then 4 else q) ⟨z83,(by simp[z1b,Sk.find,Sk.one,zb.eq_1,zb.eq_2,zb.eq_3,zo,SV.renL,SV.ren,Obj.lt_row,SV.ltL,SV.lt,z1e,zn,zr,z1w,nds,Nd.sv,z14,zx,z3a,z3b,z28,z1r,z2t,z15,z1h,z18,z21,z2u,z1o,z1j,z20,z1g,z19,z2h,z33,z4m,z48,z53,Fin.is_lt,z4j];first|done|(intro i hi;repeat' split)<;>simp_all),z83,z83,z83⟩ ⟨rfl,rfl,Nat.le_of_ble_eq_true rfl,rfl⟩) ?_;obtain⟨r3,hr3⟩:∃r3,r3=(hm l D).full.drop ((hm l D).off+M)++(hm l (D+1)).full.drop (hm l (D+1)).off:=⟨_,rfl⟩
       have hr3l:r3.length=C+(hm l (D+1)).n:=by rw[hr3,List.length_append,List.length_drop,List.length_drop];omega
       rw[←hr3,←hr3l];obtain⟨f,hf⟩:∃f:Nat→Hm,f=fun i=>if i=D+1 then⟨z54 (hm l (D+1)).nd (ro (hm l D).full ((hm l D).off+M)).key,r3,0⟩ else if i=D then⟨(hm l D).nd,(hm l D).full.take ((hm l D).off+M),(hm l D).off⟩ else hm l i:=⟨_,rfl⟩;obtain⟨μ,hμ⟩:∃μ:Nat→Fin 5×Nat,μ=fun i=>if i=D+1 then(3,0) else(1,i+1):=⟨_,rfl⟩;have hDn:((hm l D).full.take ((hm l D).off+M)).length-(hm l D).off=M:=by rw[List.length_take];omega
       refine Cs.fam0 45 2 (hmF true []) ?_;dsimp only;refine Cs.wkRow 2 (fun i=>[.int .i64 (f i).nd.id,.str (f i).nd.key,.int .u32 (f i).nd.word,.slc false (μ i).1.val (μ i).2 (f i).off (f i).n]) rfl rfl (fun q hq=> ?_) ?_
       ·by_cases e:q=D+1
        ·subst e;exact z74 _ _ (f (D+1)).nd (μ (D+1)).1.val (μ (D+1)).2 (f (D+1)).off (f (D+1)).n (by rw[hf,hμ];simp[Hm.n,z54];rfl) (by rw[hf];simp) (by rw[hμ];simp) rfl (μ (D+1)).1.isLt
        ·refine cell4_wk _ _ (f q).nd (μ q).1.val (μ q).2 (f q).off (f q).n ?_ rfl (μ q).1.isLt;rw[hf,hμ]
         by_cases g:q=D
         ·subst g;simp[Hm.n];omega
         ·simp[e,g]
       simp only[z44,↓reduceIte,Sk.one,Nat.reduceEqDiff];have hD1:D+1<(vls l).length:=by rw[z1v];omega
       have hvls:vls (hmk l.length f)=shH (vls l) D (D+1:Nat) C:=by
        rw[shH,if_neg h83,if_pos h86];simp only[Int.toNat_natCast];refine vls_hmk (by rw[shiR_len,z1v]) fun q hq=> ?_;rw[shiR_hd hD1 (M:=M) (by rw[z7s];exact hM),hf]
        by_cases e:q=D+1
        ·simp only[if_pos e,Hm.v,Hm.rows,List.drop_zero,hr3,z4z,z54,List.drop_drop,ro_drop]
        ·simp only[if_neg e]
         by_cases g:q=D
         ·simp only[if_pos g,Hm.v,Hm.rows,z4z,List.drop_take,Nat.add_sub_cancel_left]
         ·simp only[if_neg g,z4z]
       have hHB:HmB (hmk l.length f):= .hmk hlen fun q hq=>by
        rw[hf];dsimp only
        split
        ·exact⟨Nat.zero_le _,by dsimp only;omega⟩
        ·split
         ·simp only[List.length_take];omega
         ·exact hb.at q
       have hRes:ResR l (hmk l.length f) r3 [] μ:=fun i hi=>by
        rw[z3p] at hi;rw[hm_hmk f hi,hf,hμ]
        by_cases e:i=D+1
        ·exact .inr (.inl ⟨by simp[e],r3.length,by simp[e]⟩)
        ·by_cases g:i=D
         ·exact .inl ⟨i,(hm l D).off+M,hi,by simp[e],by simp[g]⟩
         ·exact .inl ⟨i,(hm l i).full.length,hi,by simp[e],by simp[e,g]⟩
       refine Cs.reg [8,9] rfl ?_;intro K hK;refine zl z5 ?_;refine zl z5 ?_;refine MwAm.c1 (z81 f μ l.length (by omega)) (id) ?_;iterate 2 (refine zl z5 ?_)
       refine za (z8 (hK _ _ ?_));clear hK K;refine Cs.ret ?_;refine hQ _ _ ?_;refine zm.mk (H':=⟨5,[(2,Sk.one (.row ⟨true,false,43,4,l.length,fun i=>[.int .i64 (f i).nd.id,.str (if i=0 then⟨#[]⟩ else(f i).nd.key),.int .u32 (f i).nd.word,.slc false (μ i).1.val (μ i).2 (f i).off (f i).n]⟩)),(3,Sk.one (.row ⟨true,false,45,2,r3.length,rws r3⟩)),(4,Sk.one (.row ⟨true,false,45,2,0,rws []⟩))]⟩) (.inl rfl) ?_;refine zh ?_;refine⟨z83,(MwAm.g id),z83,?_⟩;refine⟨fstM (hmk l.length f),r3,[],μ,_,?_,hHB.fst,hRes.fst,fun i hi=>muR_fst _ _ _ (by rwa [z2i,z3p] at hi),?_,?_⟩
       ·rw[shR,if_pos hE,z7z,hvls]
       ·rw[hE,z2i,z3p]
       ·rw[z2i,z3p];rfl
      refine zl (z9 _ [] [] [] rfl rfl rfl rfl) ?_;refine zl (z9 _ [] [] [] rfl rfl rfl rfl) ?_;refine zl (z9 _ [] [] [] rfl rfl rfl rfl) ?_;refine zl (z9 _ [] [] [] rfl rfl rfl rfl) ?_;refine zl (z9 _ [] [] [] rfl rfl rfl rfl) ?_;refine zl (z9 _ [] [] [] rfl rfl rfl rfl) ?_;refine zl (z9 _ [] [] [] rfl rfl rfl rfl) ?_;refine zl (z9 _ [] [] [] rfl rfl rfl rfl) ?_;refine zl (z9 _ [] [] [] rfl rfl rfl rfl) ?_;refine zl (z9 _ [] [] [] rfl rfl rfl rfl) ?_;refine zl (z9 _ [] [] [] rfl rfl rfl rfl) ?_;refine zl (z9 _ [0,1,2,3] [] [] rfl rfl rfl rfl) ?_;refine zl (z9 _ [] [] [] rfl rfl rfl rfl) ?_;refine zl (z9 _ [] [] [] rfl rfl rfl rfl) ?_;refine zl (z9 _ [2] [2] [] rfl rfl rfl rfl) ?_;refine z12 ?_;refine z8 ?_;have e1:(hm l D).n-M=C:=by omega
      rw[e1,z4d,z4d,z7w (by rw[List.length_drop];omega)];exact hG _ _ _ _ id (MwAm.g id) hk13
     ·intro h86;replace h86:=z6 h86;have:D=E+1:=by omega
      subst this;refine Cs.seq ?_;refine Cs.regTree [1,3,10,11] (.op 0 (.op 1 (.op 2 (.op 3 (.op 4 (.op 5 (.op 6 (.op 8 (.op 9 (.op 10 (.op 7 (.op 11 (.op 12 (.op 13 (.op 14 .done))))))))))))))) [[],[],[],[],[2,3],[2,3,4],[2,3,4,5],[2,3,4,5,6],[],[],[8,9],[2,3,4,5,6,7,8,9,10],[0,1,2,3,4,5,6,7,8,9,10,11],[0,1,2,3,4,5,6,7,8,9,10,11,12],[0,1,2,3,4,5,6,7,8,9,10,11,12,13]] [[],[],[],[],[],[],[],[],[],[],[],[999999],[],[],[2]] [[],[],[],[],[],[],[],[],[],[],[],[],[],[],[2]] Tryz.mo rfl rfl (by kernel_rfl) (by kernel_rfl) (by kernel_rfl) rfl (by kernel_rfl) ?_;intro K hK hG
      have hk8:K [(1,.int .i64 (E+1:Nat)),(3,.int .i64 C),(10,.slc true 2 0 0 l.length),(11,.slc false 1 (E+1+1) (hm l (E+1)).off (hm l (E+1)).n)] ⟨5,[(4,Sk.one (.row ⟨true,false,45,2,(hm l E).n+C,rws ((hm l E).full.drop (hm l E).off++(hm l (E+1)).full.drop (hm l (E+1)).off)⟩)),(2,Sk.one (.row ⟨true,false,43,4,l.length,fun q=>if q=E then [.int .i64 (hm l E).nd.id,.str (hm l E).nd.key,.int .u32 (hm l E).nd.word,.slc true 4 0 0 ((hm l E).n+C)] else [.int .i64 (hm l q).nd.id,.str (hm l q).nd.key,.int .u32 (hm l q).nd.word,.slc false 1 (q+1) (hm l q).off (hm l q).n]⟩)),(0,Sk.one (.row ⟨false,false,43,4,l.length,hmR false 1 l⟩)),(1,(l.length+1,fam false 45 2 (hmF false l)))]⟩:=by
       refine hK _ _ ?_;clear hG hK K;refine z1q [1,3,10,11] ?_;refine z27 [10] ?_;refine Cs.nil ?_;refine hN0 _ _ ?_;refine Cs.seq ?_;rw[z4d];refine Cs.give (H':=⟨5,[(4,Sk.one (.row ⟨true,false,45,2,(hm l (E+1)).n-C,rws ((hm l (E+1)).full.drop ((hm l (E+1)).off+C))⟩)),(3,Sk.one (.row ⟨true,false,45,2,(hm l E).n+C,rws ((hm l E).full.drop (hm l E).off++(hm l (E+1)).full.drop (hm l (E+1)).off)⟩)),(2,Sk.one (.row ⟨true,false,43,4,l.length,fun i'=>if i'=E+1 then [.int .i64 (hm l (E+1)).nd.id,.str (ro (hm l (E+1)).full ((hm l (E+1)).off+C)).key,.int .u32 (hm l (E+1)).nd.word,.slc true 4 0 0 ((hm l (E+1)).n-C)] else if i'=E then [.int .i64 (hm l E).nd.id,.str (hm l E).nd.key,.int .u32 (hm l E).nd.word,.slc true 3 0 0 ((hm l E).n+C)] else [.int .i64 (hm l i').nd.id,.str (hm l i').nd.key,.int .u32 (hm l i').nd.word,.slc false 1 (i'+1) (hm l i').off (hm l i').n]⟩))]⟩) (fr':=[(10,.slc true 2 0 0 l.length)]) (fun q=>if q=3 then 4 else if q=4 then 5 else q) (gvS (fun q=>if q=3 then 4 else if q=4 then 5 else q) ⟨z83,(by simp[z1b,Sk.find,Sk.one,zb.eq_1,zb.eq_2,zb.eq_3,zo,SV.renL,SV.ren,Obj.lt_row,SV.ltL,SV.lt,z1e,zn,zr,z1w,nds,Nd.sv,z14,zx,z3a,z3b,z28,z1r,z2t,z15,z1h,z18,z21,z2u,z1o,z1j,z20,z1g,z19,z2h,z33,z4m,z48,z53,Fin.is_lt,z4j];first|done|(intro i hi;repeat' split)<;>simp_all),z83,z83,z83⟩ ⟨rfl,rfl,Nat.le_of_ble_eq_true rfl,rfl⟩) ?_
       obtain⟨r3,hr3⟩:∃r3,r3=(hm l E).full.drop (hm l E).off++((hm l (E+1)).full.drop (hm l (E+1)).off).take C:=⟨_,rfl⟩;obtain⟨r4,hr4⟩:∃r4,r4=(hm l (E+1)).full.drop ((hm l (E+1)).off+C):=⟨_,rfl⟩;have hr3l:r3.length=(hm l E).n+C:=by rw[hr3,List.length_append,List.length_take,List.length_drop,List.length_drop];omega
       have hr4l:r4.length=(hm l (E+1)).n-C:=by rw[hr4,List.length_drop];omega
       rw[←hr4,←hr4l,←hr3l];refine Cs.wkRow 3 (rws r3) rfl rfl (fun q hq=>⟨?_,?_,z2h _ _ _⟩) ?_
       ·dsimp only at hq ⊢
        have e:rws ((hm l E).full.drop (hm l E).off++(hm l (E+1)).full.drop (hm l (E+1)).off) q=rws r3 q:=by
         rw[hr3];simp only[rws,ro,List.getD_eq_getElem?_getD,List.getElem?_append]
         split
         ·rfl
         ·rw[List.getElem?_take_of_lt (by rw[hr3l] at hq;rw[List.length_drop] at*;omega)]
        rw[e];exact⟨rfl,rfl,trivial⟩
       ·intro s hs;rw[z8p] at hs;simp only[List.mem_cons,List.not_mem_nil,or_false] at hs;rcases hs with rfl|rfl<;>rfl
       simp only[z44,↓reduceIte,Sk.one,Nat.reduceEqDiff];obtain⟨f,hf⟩:∃f:Nat→Hm,f=fun i=>if i=E+1 then⟨z54 (hm l (E+1)).nd (ro (hm l (E+1)).full ((hm l (E+1)).off+C)).key,r4,0⟩ else if i=E then⟨(hm l E).nd,r3,0⟩ else hm l i:=⟨_,rfl⟩;obtain⟨μ,hμ⟩:∃μ:Nat→Fin 5×Nat,μ=fun i=>if i=E+1 then(4,0) else if i=E then(3,0) else(1,i+1):=⟨_,rfl⟩;refine Cs.wkRow 2 (fun i=>[.int .i64 (f i).nd.id,.str (f i).nd.key,.int .u32 (f i).nd.word,.slc false (μ i).1.val (μ i).2 (f i).off (f i).n]) rfl rfl (fun q hq=> ?_) ?_
       ·by_cases e:q=E+1
        ·subst e;exact z74 _ _ (f (E+1)).nd (μ (E+1)).1.val (μ (E+1)).2 (f (E+1)).off (f (E+1)).n (by rw[hf,hμ];simp[Hm.n,z54];rfl) (by rw[hf];simp) (by rw[hμ];simp) rfl (μ (E+1)).1.isLt
        ·by_cases g:q=E
         ·subst g;exact z74 _ _ (f q).nd (μ q).1.val (μ q).2 (f q).off (f q).n (by rw[hf,hμ];simp[Hm.n,e];rfl) (by rw[hf];simp) (by rw[hμ];simp) rfl (μ q).1.isLt
         ·refine cell4_wk _ _ (f q).nd (μ q).1.val (μ q).2 (f q).off (f q).n ?_ rfl (μ q).1.isLt;rw[hf,hμ];simp[e,g]
       simp only[z44,↓reduceIte,Sk.one,Nat.reduceEqDiff];have hE1:E+1<(vls l).length:=by rw[z1v];omega
       have hvls:vls (hmk l.length f)=shH (vls l) (E+1:Nat) E C:=by
        rw[shH,if_neg h83,if_neg (by omega)];simp only[Int.toNat_natCast];rw[←vls_shiLm hE1];refine vls_hmk (by rw[z1v,shiLm_len,z1v]) fun q hq=> ?_;rw[z4z,shiLm_hm hE1,hf]
        by_cases e:q=E+1
        ·simp only[if_pos e,Hm.v,Hm.rows,List.drop_zero,hr4,z4z,z54,List.drop_drop,ro_drop,Nat.add_zero]
        ·simp only[if_neg e]
         by_cases g:q=E
         ·simp only[if_pos g,Hm.v,Hm.rows,z4z,hr3,List.drop_zero]
         ·simp only[if_neg g,z4z,Hm.v,Hm.rows,List.drop_zero]
       have hHB:HmB (hmk l.length f):= .hmk hlen fun q hq=>by
        rw[hf];dsimp only
        split
        ·exact⟨Nat.zero_le _,by dsimp only;omega⟩
        ·split
         ·exact⟨Nat.zero_le _,by dsimp only;omega⟩
         ·exact hb.at q
       have hRes:ResR l (hmk l.length f) r3 r4 μ:=fun i hi=>by
        rw[z3p] at hi;rw[hm_hmk f hi,hf,hμ]
        by_cases e:i=E+1
        ·exact .inr (.inr ⟨by simp[e],by simp[e]⟩)
        ·by_cases g:i=E
         ·exact .inr (.inl ⟨by simp[e,g],r3.length,by simp[e,g]⟩)
         ·exact .inl ⟨i,(hm l i).full.length,hi,by simp[e,g],by simp[e,g]⟩
       refine Cs.reg [8,9] rfl ?_;intro K hK;refine zl z5 ?_;refine zl z5 ?_;refine MwAm.c1 (z81 f μ l.length (by omega)) (id) ?_;iterate 2 (refine zl z5 ?_)
       refine za (z8 (hK _ _ ?_));clear hK K;refine Cs.ret ?_;refine hQ _ _ ?_;refine zm.mk (H':=⟨5,[(2,Sk.one (.row ⟨true,false,43,4,l.length,fun i=>[.int .i64 (f i).nd.id,.str (if i=0 then⟨#[]⟩ else(f i).nd.key),.int .u32 (f i).nd.word,.slc false (μ i).1.val (μ i).2 (f i).off (f i).n]⟩)),(3,Sk.one (.row ⟨true,false,45,2,r3.length,rws r3⟩)),(4,Sk.one (.row ⟨true,false,45,2,r4.length,rws r4⟩))]⟩) (.inl rfl) ?_;refine zh ?_;refine⟨z83,(MwAm.g id),z83,?_⟩;refine⟨fstM (hmk l.length f),r3,r4,μ,_,?_,hHB.fst,hRes.fst,fun i hi=>muR_fst _ _ _ (by rwa [z2i,z3p] at hi),?_,?_⟩
       ·rw[shR,if_pos hE,z7z,hvls]
       ·rw[hE,z2i,z3p]
       ·rw[z2i,z3p]
      refine zl (z9 _ [] [] [] rfl rfl rfl rfl) ?_;refine zl (z9 _ [] [] [] rfl rfl rfl rfl) ?_;refine zl (z9 _ [] [] [] rfl rfl rfl rfl) ?_;refine zl (z9 _ [] [] [] rfl rfl rfl rfl) ?_;refine zl (z9 _ [] [] [] rfl rfl rfl rfl) ?_;refine zl (z9 _ [] [] [] rfl rfl rfl rfl) ?_;refine zl (z9 _ [] [] [] rfl rfl rfl rfl) ?_;refine zl (z9 _ [] [] [] rfl rfl rfl rfl) ?_;refine zl (z9 _ [] [] [] rfl rfl rfl rfl) ?_;refine zl (z9 _ [] [] [] rfl rfl rfl rfl) ?_;refine zl (z9 _ [] [] [] rfl rfl rfl rfl) ?_;refine zl (z9 _ [0,1,2,3] [] [] rfl rfl rfl rfl) ?_;refine zl (z9 _ [] [] [] rfl rfl rfl rfl) ?_;refine zl (z9 _ [] [] [] rfl rfl rfl rfl) ?_;refine zl (z9 _ [2] [2] [] rfl rfl rfl rfl) ?_;refine z12 ?_;refine z8 ?_;rw[z4d,z4d,z7w (by rw[List.length_drop];omega)];exact hG _ _ _ _ id (MwAm.g id) hk8
  iterate 4 (refine zl z5 ?_)
  refine zl z5 ?_;obtain⟨A,hA⟩:∃A,besB l.length a b=A:=⟨_,rfl⟩;have hAs:=neighbours_spec a b l.length (by omega);rw[nei_bes,hA] at hAs;have hpl:(!A||decide (c<0))=false→0≤a∧a<(l.length:Int):=fun h1=>(bes_iff.1 (hA.trans (by simp only[Bool.or_eq_false_iff,Bool.not_eq_false'] at h1;exact h1.1))).1;refine MwAm.c1 (hAs) (id) ?_;iterate 13 (refine zl z5 ?_)
  refine And.intro (fun h1 _=>hpl h1) ?_;repeat(with_reducible apply ai;exact z7)
  iterate 2 (refine zl z5 ?_)
  refine And.intro (fun h1 _=>by have:=hpl h1;omega) ?_;repeat(with_reducible apply ai;exact z7)
  iterate 4 (refine zl z5 ?_)
  refine za ?_;refine z8 ?_;refine hk3 _ ?_;rw[hA,nR,z7s]
end Go.Proofs

namespace Go.Proofs
open Go.Sk
def oxM (f:Nat→Hm)(μ:Nat→Fin 5×Nat)(l:List Nat):Nat→List SV:=fun q=>[.int .i64 (f (l.getD q 0)).nd.id,.str (f (l.getD q 0)).nd.key,.int .u32 (f (l.getD q 0)).nd.word,.slc false (μ (l.getD q 0)).1.val (μ (l.getD q 0)).2 (f (l.getD q 0)).off (f (l.getD q 0)).n]
theorem oxM_lt (m:Nat)(f:Nat→Hm)(μ:Nat→Fin 5×Nat)(l:List Nat)(i:Nat)(h:5≤m):SV.ltL m (oxM f μ l i):=by
 have:=(μ (l.getD i 0)).1.isLt;simp only[oxM,SV.ltL,SV.lt,true_and,and_true];omega
theorem z8o (f:Nat→Hm)(μ:Nat→Fin 5×Nat)(l:List Nat)(i:Nat):SV.ltL 7 (oxM f μ l i)=True:=eq_true (oxM_lt 7 f μ l i (by decide))
theorem fin5_6 (x:Fin 5):(x.val<6)=True:=eq_true (Nat.lt_of_lt_of_le x.isLt (by decide))
theorem fin5_7 (x:Fin 5):(x.val<7)=True:=eq_true (Nat.lt_of_lt_of_le x.isLt (by decide))
theorem z6h (x:Fin 5)(m:Nat):(if x.val=6 then m else x.val)=x.val:=if_neg (fun e=>by have:=x.isLt;omega)
theorem z6z (m:Nat)(f:Nat→Hm)(μ:Nat→Fin 5×Nat)(l:List Nat)(i:Nat):SV.renL (fun q=>if q=6 then m else q) (oxM f μ l i)=oxM f μ l i:=by
 simp only[oxM,SV.renL,SV.ren,z6h]
theorem oxM_wk {m:Nat}(h:5≤m)(f:Nat→Hm)(μ:Nat→Fin 5×Nat)(l:List Nat)(i q:Nat)(hq:q<l.length+1):SV.wkL (app (oxM f μ l) l.length (z7r 4 1 [.int .i64 (f i).nd.id,.str (f i).nd.key,.int .u32 (f i).nd.word,.slc false (μ i).1.val (μ i).2 (f i).off (f i).n]) q) (oxM f μ (l++[i]) q)∧(∀s∈oxM f μ (l++[i]) q,s.scalar=true)∧SV.ltL m (oxM f μ (l++[i]) q):=by
 refine⟨?_,fun s hs=> ?_,oxM_lt _ _ _ _ _ h⟩
 ·simp only[app,oxM,List.getD,List.getElem?_append]
  split
  ·exact⟨rfl,rfl,rfl,rfl,trivial⟩
  ·have e:q-l.length=0:=by omega
   rw[e];exact⟨rfl,rfl,rfl,rfl,trivial⟩
 ·rw[oxM] at hs;simp only[List.mem_cons,List.not_mem_nil,or_false] at hs;rcases hs with rfl|rfl|rfl|rfl<;>rfl
theorem mvB_eq {n c:Int}:(decide (c<1)||decide (n≤c))=(decide (c<1)||decide (n-c<1)):=by
 congr 1;exact decide_eq_decide.2 (by omega)
theorem mvk_eq {n:Nat}{k a:Int}{A:Bool}:(A||decide (k<0)||decide ((n:Int)≤k)||k==a)=(A|| !(decide (0≤k) && decide (k<n))||k==a):=by
 congr 1
 rw[Bool.or_assoc,Bool.not_and,←decide_not,←decide_not]
 congr 2
 ·exact decide_eq_decide.2 (by omega)
 ·exact decide_eq_decide.2 (by omega)
def mvX (l:List Hm)(E:Nat)(x:Nd)(A:List Rw):Nat→Hm:=fun i=>if i=E then⟨x,A,0⟩ else hm l i
def mvF (X:Nat→Hm)(n G N:Nat)(x:Nd)(B:List Rw):Nat→Hm:=fun i=>if i=n then⟨x,B,0⟩ else if i=G then⟨(X G).nd,(X G).full.take ((X G).off+N),(X G).off⟩ else X i
def mvM (n E:Nat):Nat→Fin 5×Nat:=fun i=>if i=n then(4,0) else if i=E then(3,0) else(1,i+1)
theorem mvF_n (X:Nat→Hm)(n G N:Nat)(x:Nd)(B:List Rw):mvF X n G N x B n=⟨x,B,0⟩:=if_pos rfl
theorem mvM_n (n E:Nat):mvM n E n=(4,0):=if_pos rfl
theorem mvM_ne (n E i:Nat):(mvM n E i).1.val≠2:=by
 rw[mvM]
 split
 ·decide
 ·split
  ·decide
  ·show(1:Nat)≠2
   decide
theorem mvX_v {l:List Hm}{D E:Nat}{xE:Nd}{A:List Rw}(hE:E<l.length)(hX:hd (z7n (vls l) D E) E=⟨xE,A⟩)(s:Nat):(mvX l E xE A s).v=hd (z7n (vls l) D E) s:=by
 rw[mvX]
 by_cases e:s=E
 ·rw[if_pos e,e,hX];rfl
 ·rw[if_neg e,mrg_hd (by rw[z1v];exact hE),if_neg e,z4z]
theorem mv_plain {l:List Hm}(hb:HmB l){D E G C N:Nat}(hD:D<l.length)(hE:E<l.length)(hG:G<l.length){A B:List Rw}{xE x:Nd}(hX:hd (z7n (vls l) D E) E=⟨xE,A⟩)(hA:A.length≤2048)
  (hN:N=(hd (z7n (vls l) D E) G).rows.length-C) (hB:B=(hd (z7n (vls l) D E) G).rows.drop N) (hx:x=z54 (hd (vls l) D).nd (ro (hd (z7n (vls l) D E) G).rows N).key)
  {f1:Nat→Hm} (hf1:∀q,f1 q=mvF (mvX l E xE A) l.length G N x B ((idxO D G l.length l.length).getD q 0)) {μ1:Nat→Fin 5×Nat} (hm1:∀q,μ1 q=mvM l.length E ((idxO D G l.length l.length).getD q 0)):
  vls (hmk l.length f1)=movH (vls l) D E G C∧HmB (hmk l.length f1)∧ResR l (hmk l.length f1) A B μ1:=by
 have hVl:(vls l).length=l.length:=z1v l;have hXl:(z7n (vls l) D E).length=l.length:=by rw[mrg_len,hVl]
 have hl:=idxO_len D G l.length l.length;rw[if_pos hD,if_pos hG] at hl;have hil:(idxO D G l.length l.length).length=l.length:=by omega
 have hmem:∀q,q<l.length→((idxO D G l.length l.length).getD q 0<l.length∨(idxO D G l.length l.length).getD q 0=l.length):=fun q hq=>by
  rw[List.getD,List.getElem?_eq_getElem (by omega)];rcases(idxO_ok (Nat.le_refl l.length)).2 _ (List.getElem_mem (show q<(idxO D G l.length l.length).length by omega)) with g|g
  ·exact .inl g.1
  ·exact .inr g.1
 have hXv:=mvX_v (D:=D) hE hX;have hGv:=hXv G;have hrows:(hd (z7n (vls l) D E) G).rows=(mvX l E xE A G).full.drop (mvX l E xE A G).off:=by rw[←hGv];rfl
 have hbX:∀s,(mvX l E xE A s).off≤(mvX l E xE A s).full.length∧(mvX l E xE A s).full.length≤3000:=fun s=>by
  rw[mvX]
  split
  ·exact⟨Nat.zero_le _,by dsimp only;omega⟩
  ·exact hb.at s
 refine⟨?_,?_,?_⟩
 ·rw[movH_idx (by rw[hVl];exact hE) (by rw[hVl];exact hG) hN,hVl];refine vls_hmk (by rw[List.length_map,hil]) fun q hq=> ?_;rw[hd_map _ _ (by omega),hf1];rcases hmem q hq with g|g
  ·rw[mvF,if_neg (by omega),movY_lt (by omega) (by omega)]
   by_cases e:(idxO D G l.length l.length).getD q 0=G
   ·rw[if_pos e,if_pos e,←hGv];simp only[Hm.v,Hm.rows,List.drop_take,Nat.add_sub_cancel_left]
   ·rw[if_neg e,if_neg e,hXv]
  ·rw[g,mvF_n,movY_last hXl,hx,hB];rfl
 ·refine .hmk hb.len fun q hq=> ?_;rw[hf1,mvF]
  split
  ·refine⟨Nat.zero_le _,?_⟩;dsimp only;have:=(hbX G).2;rw[hB,hrows,List.length_drop,List.length_drop];omega
  ·split
   ·simp only[List.length_take];have:=hbX G;omega
   ·exact hbX _
 ·intro i hi;rw[z3p] at hi;rw[hm_hmk f1 hi,hf1,hm1];rcases hmem i hi with g|g
  ·generalize (idxO D G l.length l.length).getD i 0=s at g
   have hs:¬s=l.length:=by omega
   simp only[mvF,mvM,if_neg hs]
   by_cases e:s=E
   ·subst e;rw[if_pos rfl];refine .inr (.inl ⟨rfl,?_⟩)
    split
    ·rename_i e2;subst e2;exact⟨_,by rw[mvX,if_pos rfl]⟩
    ·exact⟨A.length,by rw[mvX,if_pos rfl,List.take_length]⟩
   ·rw[if_neg e];refine .inl ⟨s,?_⟩
    split
    ·rename_i e2;subst e2;exact⟨_,g,rfl,by rw[mvX,if_neg e]⟩
    ·exact⟨(hm l s).full.length,g,rfl,by rw[mvX,if_neg e,List.take_length]⟩
  ·rw[g,mvF_n,mvM_n];exact .inr (.inr ⟨rfl,rfl⟩)
theorem z1m {a:Prop}(h:a:=by simp[SV.wkL,SV.wk,z1i,z1b,Sk.get,Sk.find,Sk.one,zb.eq_1,zb.eq_2,zb.eq_3,zo,z1k,z1g,SV.renL,SV.ren,Obj.lt_row,SV.ltL,SV.lt,z7c,z3q,zw,z25,Obj.own.eq_1,Obj.own.eq_2,Obj.own.eq_3,Obj.own.eq_4,z1e,zn,zr,z1w,nds,Nd.sv,z14,zx,z3a,z3b,z28,z1r,z2t,z15,z1h,z18,z21,z2u,z1o,z1j,z20,z19,z2h,z33,z4m,z48,z53,Fin.is_lt,z4j,z8o,z6z,fin5_6,fin5_7,z6h]):a:=h
theorem MwBm.c1 {P:Program}{f:FuncId}{args args0:List SV}{H0 H Y g:AH}{X e:SV}{dr:Bool}{W:List Nat}{k:SV→AH→Prop}(hF:ze P f args0 H0 fun s H1=>s=X∧H1=Y)(ρ:Nat→Nat)(h:k e g)(q:CaQ args args0 ρ H0 H dr W:=by constructor<;>exact z1m)(r:CaR ρ H0 H:=by exact⟨rfl,rfl⟩)(b:AfQ (X.ren (z57 H0.nxt H.nxt ρ)) e (after H0.nxt ρ H0 H Y) g:=by exact MvWm.t):z4u P f args H dr W k:=c1S hF ρ h q r b
theorem z7h {X:Cx}{fr:Fr}{H:AH}{fr1:Fr}{H1:AH}(ρ:Nat→Nat)(q:GvQ X ρ fr H fr1 H1:=by constructor<;>exact z1m)(r:GvR X ρ H1:=by exact⟨rfl,rfl,Nat.le_of_ble_eq_true rfl,rfl⟩):z2v X ρ fr H fr1 H1:=gvS ρ q r
theorem z64 {a:Prop}(h:a:=by simp[SV.wkL,SV.wk,z1i,z1b,Sk.get,Sk.find,Sk.one,zb.eq_1,zb.eq_2,zb.eq_3,zo,z1k,z1g,SV.renL,SV.ren,Obj.lt_row,SV.ltL,SV.lt,z7c,z3q,zw,z25,Obj.own.eq_1,Obj.own.eq_2,Obj.own.eq_3,Obj.own.eq_4,z1e,zn,zr,z1w,nds,Nd.sv,z14,zx,z3a,z3b,z28,z1r,z2t,z15,z1h,z18,z21,z2u,z1o,z1j,z20,z19,z2h,z33,z4m,z48,z53,Fin.is_lt,z4j,z8o,z6z,fin5_6,fin5_7,z6h,zc7]):a:=h
theorem zi {X:Cx}{fr:Fr}{H:AH}{fr1:Fr}{H1:AH}(ρ:Nat→Nat)(q:GvQ X ρ fr H fr1 H1:=by constructor<;>exact z64)(r:GvR X ρ H1:=by exact⟨rfl,rfl,Nat.le_of_ble_eq_true rfl,rfl⟩):z2v X ρ fr H fr1 H1:=gvS ρ q r
set_option maxHeartbeats 4000000 in
theorem moveR_spec (l:List Hm)(hb:HmB l)(n:Nat)(hn:l.length=n)(a b k c:Int):
  ze Tryz.prog 32 [.slc false 0 0 0 n,.int .i64 a,.int .i64 b,.int .i64 k,.int .i64 c] ⟨2,[(0,Sk.one (.row ⟨false,false,43,4,n,hmR false 1 l⟩)),(1,(n+1,fam false 45 2 (hmF false l)))]⟩
   (fun s H1=> ∃(L':List Hm) (r3 r4:List Rw) (μ:Nat→Fin 5×Nat) (F:Nat→List SV),vls L'=mvR (vls l) a b k c∧HmB L'∧ResR l L' r3 r4 μ∧(∀i,i<L'.length→F i=muR μ L' i)∧s= .tup [.slc true 2 0 0 L'.length,.int .i64 (mvE (vls l) a b k c)]∧H1=⟨5,[(2,Sk.one (.row ⟨true,false,43,4,L'.length,F⟩)),(3,Sk.one (.row ⟨true,false,45,2,r3.length,rws r3⟩)),(4,Sk.one (.row ⟨true,false,45,2,r4.length,rws r4⟩))]⟩):=by
 subst hn;have hlen:=hb.len;refine ze.ofC false 147 [.tmp 10,.tmp 11] Tryz.func32 rfl rfl Tryz.ntmps32 Tryz.results32 rfl ?_;intro w0 own0 β0 Q hQ hQn;simp only[z1n];refine z1q [0,1,2,3,4] ?_;refine Cs.seq ?_;refine sg [0,1,2,3,4,21] rfl ?_;intro K hK;refine zl z5 ?_;refine zl z5 ?_;refine MwBm.c1 (validR_spec l hb l.length rfl) (id) ?_;refine zl z5 ?_;refine za (z8 (hK _ _ ?_));clear hK K;refine Cs.cond _ rfl ?_ ?_
 ·intro h21;simp only[Bool.not_eq_true'] at h21;refine z1q [10,11] ?_;refine Cs.nilO 10 43 4 (hmR false 0 []) rfl ?_;dsimp only;refine Cs.fam0 45 2 (hmF true []) ?_;dsimp only;refine Cs.fam0 45 2 (hmF true []) ?_;dsimp only;refine Cs.ret ?_;refine hQ _ _ ?_;refine zm.mk (H':=⟨5,[(2,Sk.one (.row ⟨true,false,43,4,0,fun i=>hmR false 0 [] i⟩)),(3,Sk.one (.row ⟨true,false,45,2,0,rws []⟩)),(4,Sk.one (.row ⟨true,false,45,2,0,rws []⟩))]⟩) (.inl rfl) ?_;refine zh ?_;refine⟨z1m,(z7h id),z1m,?_⟩;have hE:mvE (vls l) a b k c=1:=by rw[mvE,if_pos h21]
  exact⟨[],[],[],fun _=>(1,0),_,by rw[mvR,if_neg (by rw[hE];decide)];rfl,⟨Nat.zero_le _,fun x hx=>by cases hx⟩,fun i hi=>absurd hi (Nat.not_lt_zero _),fun i hi=>absurd hi (Nat.not_lt_zero _),by rw[hE];trivial,by trivial⟩
 ·intro h21;simp only[Bool.not_eq_false'] at h21;refine Cs.skip ?_;refine Cs.seq ?_;refine sg [0,1,2,3,4,42] rfl ?_;intro K hK
  have hk3:∀B:Bool,B=(!besB l.length a b|| !(decide (0≤k) && decide (k<l.length))||k==a)→K [(0,.slc false 0 0 0 l.length),(1,.int .i64 a),(2,.int .i64 b),(3,.int .i64 k),(4,.int .i64 c),(42,.bool B)] ⟨2,[(0,Sk.one (.row ⟨false,false,43,4,l.length,hmR false 1 l⟩)),(1,(l.length+1,fam false 45 2 (hmF false l)))]⟩:=by
   intro B hB;subst hB;refine hK _ _ ?_;clear hK K;refine Cs.cond _ rfl ?_ ?_
   ·intro h42
    refine z1q [10,11] ?_;refine Cs.nilO 10 43 4 (hmR false 0 []) rfl ?_;dsimp only;refine Cs.fam0 45 2 (hmF true []) ?_;dsimp only;refine Cs.fam0 45 2 (hmF true []) ?_;dsimp only;refine Cs.ret ?_;refine hQ _ _ ?_;refine zm.mk (H':=⟨5,[(2,Sk.one (.row ⟨true,false,43,4,0,fun i=>hmR false 0 [] i⟩)),(3,Sk.one (.row ⟨true,false,45,2,0,rws []⟩)),(4,Sk.one (.row ⟨true,false,45,2,0,rws []⟩))]⟩) (.inl rfl) ?_;refine zh ?_;refine⟨z1m,(z7h id),z1m,?_⟩;have hE:mvE (vls l) a b k c=2:=by rw[mvE,if_neg (by rw[h21];decide),z1v,if_pos h42]
    exact⟨[],[],[],fun _=>(1,0),_,by rw[mvR,if_neg (by rw[hE];decide)];rfl,⟨Nat.zero_le _,fun x hx=>by cases hx⟩,fun i hi=>absurd hi (Nat.not_lt_zero _),fun i hi=>absurd hi (Nat.not_lt_zero _),by rw[hE];trivial,by trivial⟩
   ·intro h42;have hk42:=h42;simp only[Bool.or_eq_false_iff,Bool.not_eq_false',Bool.and_eq_true,decide_eq_true_eq,beq_eq_false_iff_ne] at h42;obtain⟨⟨hbes,hk0,hk1⟩,hka⟩:=h42;obtain⟨⟨ha0,ha1⟩,⟨hb0,hb1⟩,hab⟩:=bes_iff.1 hbes;obtain⟨D,rfl⟩:=Int.eq_ofNat_of_zero_le ha0;obtain⟨E,rfl⟩:=Int.eq_ofNat_of_zero_le hb0;obtain⟨G,rfl⟩:=Int.eq_ofNat_of_zero_le hk0;have hGD:G≠D:=fun e=>hka (by rw[e]);have hrw:=fun i=>vld_rows h21 i;have hrD:=hrw D;have hrE:=hrw E;rw[z7s] at hrD hrE;have hatD:=hb.at D;have hatE:=hb.at E;have hnD:(hm l D).n=(hm l D).full.length-(hm l D).off:=rfl;have hnE:(hm l E).n=(hm l E).full.length-(hm l E).off:=rfl;have hVl:(vls l).length=l.length:=z1v l;refine Cs.skip ?_;refine z1q [1,2,3,4,12] ?_;refine z1q [1,2,3,4,12,13] ?_;refine Cs.seq ?_;refine z1q [1,2,3,4,12,13,51] ?_;refine Cs.cond _ rfl ?_ ?_
    ·intro h51;replace h51:=z6 h51;have:E=D+1:=by omega
     subst this;obtain rfl|hGE:=Decidable.em (D+1=G)
     ·skip
      refine Cs.seq ?_;refine Cs.regTree [1,2,3,4,12,13] (.op 0 (.op 1 (.op 2 (.op 3 (.op 5 (.op 6 (.op 7 (.op 8 (.op 9 (.op 4 (.op 10 (.op 11 (.op 12 (.op 13 .done)))))))))))))) [[],[],[],[2],[2,3],[],[],[5,6],[5,6,7],[5,6,7,8],[2,3,4,5,6,7,8,9],[0,1,2,3,4,5,6,7,8,9,10],[0,1,2,3,4,5,6,7,8,9,10,11],[0,1,2,3,4,5,6,7,8,9,10,11,12]] [[],[],[],[],[],[],[],[],[],[],[999999],[],[],[2]] [[],[],[],[],[],[],[],[],[],[],[],[],[],[2]] Tryz.mo rfl rfl (by kernel_rfl) (by kernel_rfl) (by kernel_rfl) rfl (by kernel_rfl) ?_;intro K hK hG
      have hk8:K [(1,.int .i64 D),(2,.int .i64 (D+1:Nat)),(3,.int .i64 (D+1:Nat)),(4,.int .i64 c),(12,.slc true 2 0 0 l.length),(13,.ptr 3 0 0 0)] ⟨6,[(5,Sk.one (.row ⟨true,false,45,2,(hm l D).n+(hm l (D+1)).n,rws ((hm l D).full.drop (hm l D).off++(hm l (D+1)).full.drop (hm l (D+1)).off)⟩)),(3,Sk.one (.row ⟨true,true,43,4,1,fun _=>[.int .i64 (hm l D).nd.id,.str (hm l D).nd.key,.int .u32 (hm l D).nd.word,.slc false 1 (D+1) (hm l D).off (hm l D).n]⟩)),(2,Sk.one (.row ⟨true,false,43,4,l.length,fun q=>if q=(D+1) then [.int .i64 (hm l (D+1)).nd.id,.str (hm l (D+1)).nd.key,.int .u32 (hm l (D+1)).nd.word,.slc true 5 0 0 ((hm l D).n+(hm l (D+1)).n)] else [.int .i64 (hm l q).nd.id,.str (hm l q).nd.key,.int .u32 (hm l q).nd.word,.slc false 1 (q+1) (hm l q).off (hm l q).n]⟩)),(0,Sk.one (.row ⟨false,false,43,4,l.length,hmR false 1 l⟩)),(1,(l.length+1,fam false 45 2 (hmF false l)))]⟩:=by
       refine hK _ _ ?_;clear hG hK K;refine z27 [1,3,4,12,13] ?_;refine Cs.seq ?_;obtain⟨A,hA⟩:∃A,A=(hm l D).full.drop (hm l D).off++(hm l (D+1)).full.drop (hm l (D+1)).off:=⟨_,rfl⟩;have hAl:A.length=(hm l D).n+(hm l (D+1)).n:=by rw[hA,List.length_append,List.length_drop,List.length_drop];rfl
       rw[←hA,←hAl];have hDl:D<l.length:=by omega
       have hEl:(D+1)<l.length:=by omega
       have hGl:(D+1)<l.length:=by omega
       have hX:hd (z7n (vls l) D (D+1)) (D+1)=⟨z54 (hm l (D+1)).nd (hm l D).nd.key,A⟩:=by
        rw[mrg_hd (by rw[z1v];exact hEl),if_pos rfl,if_pos (by omega),z4z,z4z,hA];rfl
       refine Cs.give (H':=⟨5,[(4,Sk.one (.row ⟨true,true,43,4,1,fun _=>[.int .i64 (hm l D).nd.id,.str (hm l D).nd.key,.int .u32 (hm l D).nd.word,.slc false 1 (D+1) (hm l D).off (hm l D).n]⟩)),(3,Sk.one (.row ⟨true,false,45,2,A.length,rws A⟩)),(2,Sk.one (.row ⟨true,false,43,4,l.length,fun q=>if q=(D+1) then [.int .i64 (hm l (D+1)).nd.id,.str (hm l D).nd.key,.int .u32 (hm l (D+1)).nd.word,.slc true 3 0 0 A.length] else [.int .i64 (hm l q).nd.id,.str (hm l q).nd.key,.int .u32 (hm l q).nd.word,.slc false 1 (q+1) (hm l q).off (hm l q).n]⟩)),(1,(l.length+1,fam false 45 2 (hmF false l)))]⟩) (fr':=[(1,.int .i64 D),(3,.int .i64 (D+1:Nat)),(4,.int .i64 c),(12,.slc true 2 0 0 l.length),(13,.ptr 4 0 0 0)]) (fun q=>if q=3 then 5 else if q=4 then 3 else q) (gvS (fun q=>if q=3 then 5 else if q=4 then 3 else q) ⟨z1m,(by simp[z1b,Sk.find,Sk.one,zb.eq_1,zb.eq_2,zb.eq_3,zo,SV.renL,SV.ren,Obj.lt_row,SV.ltL,SV.lt,z1e,zn,zr,z1w,nds,Nd.sv,z14,zx,z3a,z3b,z28,z1r,z2t,z15,z1h,z18,z21,z2u,z1o,z1j,z20,z1g,z19,z2h,z33,z4m,z48,z53,Fin.is_lt,z4j,z8o,z6z,fin5_6,fin5_7,z6h];first|done|(intro i hi;repeat' split)<;>simp_all),z1m,z1m,z1m⟩ ⟨rfl,rfl,Nat.le_of_ble_eq_true rfl,rfl⟩) ?_;refine Cs.reg [1,3,4,12,13,14] rfl ?_
       intro K hK;iterate 6 (refine zl z5 ?_)
       refine za (z8 (hK _ _ ?_));clear hK K;refine Cs.seq ?_;refine Cs.seq ?_
       have hnG:(hd (z7n (vls l) D (D+1)) (D+1)).rows.length=A.length:=by
        rw[hX]
       refine z27 [1,3,4,12,13,14,98] ?_;refine Cs.cond _ rfl ?_ ?_
       ·intro h98
        refine z1q [10,11] ?_;refine Cs.nilO 10 43 4 (hmR false 0 []) rfl ?_;dsimp only;refine Cs.fam0 45 2 (hmF true []) ?_;dsimp only;refine Cs.fam0 45 2 (hmF true []) ?_;dsimp only;refine Cs.ret ?_;refine hQ _ _ ?_;refine zm.mkR (fun q=>if q=2 then 5 else if q=3 then 6 else if q=4 then 7 else q) (.tup [.slc true 2 0 0 0,.int .i64 2]) (⟨5,[(2,Sk.one (.row ⟨true,false,43,4,0,fun i=>hmR false 0 [] i⟩)),(3,Sk.one (.row ⟨true,false,45,2,0,rws []⟩)),(4,Sk.one (.row ⟨true,false,45,2,0,rws []⟩))]⟩) (.inl rfl) ?_;refine zh ?_;refine⟨z1m,z1m,(z7h (fun q=>if q=2 then 5 else if q=3 then 6 else if q=4 then 7 else q)),z1m,?_⟩
        have hE:mvE (vls l) D (D+1:Nat) (D+1:Nat) c=2:=by
         rw[mvE,if_neg (by rw[h21];decide),hVl,if_neg (by rw[hk42];decide),if_pos];simp only[Int.toNat_natCast,nR,hnG];rw[←mvB_eq];exact h98
        exact⟨[],[],[],fun _=>(1,0),_,by rw[mvR,if_neg (by rw[hE];decide)];rfl,⟨Nat.zero_le _,fun x hx=>by cases hx⟩,fun i hi=>absurd hi (Nat.not_lt_zero _),fun i hi=>absurd hi (Nat.not_lt_zero _),by rw[hE];trivial,by trivial⟩
       ·intro h98;have hk98:=h98;simp only[Bool.or_eq_false_iff,decide_eq_false_iff_not] at h98;obtain⟨hc1,hc2⟩:=h98;obtain⟨C,rfl⟩:=Int.eq_ofNat_of_zero_le (show 0≤c by omega);obtain⟨N,hN⟩:∃N,N=A.length-C:=⟨_,rfl⟩
        have hE:mvE (vls l) D (D+1:Nat) (D+1:Nat) C=0:=by
         rw[mvE_iff];refine⟨h21,by rw[hVl];exact hbes,⟨by omega,by omega⟩,by omega,by omega,?_⟩;simp only[Int.toNat_natCast,nR,hnG];omega
        refine Cs.skip ?_;refine z1q [1,3,12,13,14,15] ?_;refine Cs.seq ?_;rw[show((A.length:Nat):Int)-(C:Int)=(N:Int) by omega];refine Cs.regDraw [1,3,12,13,14,15] [0,1,2,4,5,6,7,8,3,9,10,11,12,13] [[],[],[0,1],[0,1,2],[],[],[4,5],[4,5,6],[4,5,6,7],[0,1,2,3],[0,1,2,3,9],[0,1,2,3,4,5,6,7,8,9,10],[0,1,2,3,4,5,6,7,8,9,10,11],[0,1,2,3,4,5,6,7,8,9,10,11,12]] [[],[],[],[],[],[],[],[],[],[],[4],[],[],[4]] [[],[],[],[],[4],[4],[4],[4],[4],[],[4],[4],[4],[4]] Tryz.mo rfl rfl rfl (by kernel_rfl) (by kernel_rfl) (by kernel_rfl) rfl (by kernel_rfl) ?_;intro K hK;iterate 3 (refine zl (zf _ [] [] rfl rfl rfl) ?_)
        iterate 5 (refine zl (zf _ [] [4] rfl rfl rfl) ?_)
        iterate 2 (refine zl (zf _ [] [] rfl rfl rfl) ?_)
        refine zl (zf _ [4] [4] rfl rfl rfl) ?_;iterate 2 (refine zl (zf _ [] [4] rfl rfl rfl) ?_)
        refine zl (zf _ [4] [4] rfl rfl rfl) ?_;refine z2n (z8 (hK _ _ ?_));clear hK K;refine z1q [1,3,12,13] ?_;refine Cs.seq ?_;rw[z4d];refine Cs.give (H':=⟨6,[(5,Sk.one (.row ⟨true,true,43,4,1,fun _=>[.int .i64 (hm l D).nd.id,.str (ro A N).key,.int .u32 (hm l D).nd.word,.slc true 4 0 0 (A.length-N)]⟩)),(4,Sk.one (.row ⟨true,false,45,2,A.length-N,rws (A.drop N)⟩)),(3,Sk.one (.row ⟨true,false,45,2,A.length,rws A⟩)),(2,Sk.one (.row ⟨true,false,43,4,l.length,fun i'=>if i'=(D+1) then [.int .i64 (hm l (D+1)).nd.id,.str (hm l D).nd.key,.int .u32 (hm l (D+1)).nd.word,.slc true 3 0 0 N] else if i'=(D+1) then [.int .i64 (hm l (D+1)).nd.id,.str (hm l D).nd.key,.int .u32 (hm l (D+1)).nd.word,.slc true 3 0 0 A.length] else [.int .i64 (hm l i').nd.id,.str (hm l i').nd.key,.int .u32 (hm l i').nd.word,.slc false 1 (i'+1) (hm l i').off (hm l i').n]⟩))]⟩) (fr':=[(1,.int .i64 D),(3,.int .i64 (D+1:Nat)),(12,.slc true 2 0 0 l.length),(13,.ptr 5 0 0 0)]) (fun q=>if q=4 then 5 else if q=5 then 4 else q) (gvS (fun q=>if q=4 then 5 else if q=5 then 4 else q) ⟨z1m,(by simp[z1b,Sk.find,Sk.one,zb.eq_1,zb.eq_2,zb.eq_3,zo,SV.renL,SV.ren,Obj.lt_row,SV.ltL,SV.lt,z1e,zn,zr,z1w,nds,Nd.sv,z14,zx,z3a,z3b,z28,z1r,z2t,z15,z1h,z18,z21,z2u,z1o,z1j,z20,z1g,z19,z2h,z33,z4m,z48,z53,Fin.is_lt,z4j,z8o,z6z,fin5_6,fin5_7,z6h];first|done|(intro i hi;repeat' split)<;>simp_all),z1m,z1m,z1m⟩ ⟨rfl,rfl,Nat.le_of_ble_eq_true rfl,rfl⟩) ?_
        obtain⟨B,hB⟩:∃B,B=A.drop N:=⟨_,rfl⟩;have hBl:B.length=A.length-N:=by rw[hB,List.length_drop]
        rw[←hB,←hBl];obtain⟨x,hx⟩:∃x,x=z54 (hd (vls l) D).nd (ro (hd (z7n (vls l) D (D+1)) (D+1)).rows N).key:=⟨_,rfl⟩
        have hxe:x=⟨(hm l D).nd.id,(ro A N).key,(hm l D).nd.word⟩:=by
         rw[hx,z4z,hX]
         rfl
        have hBr:B=(hd (z7n (vls l) D (D+1)) (D+1)).rows.drop N:=by
         rw[hB,hX]
        obtain⟨f,hf⟩:∃f,f=mvF (mvX l (D+1) (z54 (hm l (D+1)).nd (hm l D).nd.key) A) l.length (D+1) N x B:=⟨_,rfl⟩;obtain⟨μ,hμ⟩:∃μ,μ=mvM l.length (D+1):=⟨_,rfl⟩;have hm2:∀i,(μ i).1.val≠2:=fun i=>by rw[hμ];exact mvM_ne _ _ _
        refine Cs.wkRow 5 (fun _=>[.int .i64 (f l.length).nd.id,.str (f l.length).nd.key,.int .u32 (f l.length).nd.word,.slc false (μ l.length).1.val (μ l.length).2 (f l.length).off (f l.length).n]) rfl rfl (fun q hq=>z74 _ _ (f l.length).nd (μ l.length).1.val (μ l.length).2 (f l.length).off (f l.length).n (by rw[hf,hμ,mvF_n,mvM_n,hxe];rfl) (by rw[hf,mvF_n]) (by rw[hμ,mvM_n]) rfl (Nat.lt_of_lt_of_le (μ l.length).1.isLt (Nat.le_of_ble_eq_true rfl))) ?_;simp only[z44,↓reduceIte,Sk.one,Nat.reduceEqDiff];refine Cs.wkRow 2 (fun i=>[.int .i64 (f i).nd.id,.str (f i).nd.key,.int .u32 (f i).nd.word,.slc false (μ i).1.val (μ i).2 (f i).off (f i).n]) rfl rfl (fun q hq=> ?_) ?_
        ·have hql:¬q=l.length:=fun e=>by dsimp only at hq;omega
         dsimp only
         by_cases e:q=(D+1)
         ·rw[e];rw[e] at hql;exact z74 _ _ (f (D+1)).nd (μ (D+1)).1.val (μ (D+1)).2 (f (D+1)).off (f (D+1)).n (by rw[hf,hμ];simp only[mvF,mvM,mvX,if_neg hql,if_true];simp[Hm.n,z54];first|done|rfl|(exact⟨rfl,by omega⟩)) (by rw[hf];simp only[mvF,mvX,if_neg hql,if_true]) (by rw[hμ];simp only[mvM,if_neg hql,if_true]) rfl (Nat.lt_of_lt_of_le (μ (D+1)).1.isLt (Nat.le_of_ble_eq_true rfl))
         ·refine cell4_wk _ _ (f q).nd (μ q).1.val (μ q).2 (f q).off (f q).n ?_ rfl (Nat.lt_of_lt_of_le (μ q).1.isLt (Nat.le_of_ble_eq_true rfl));rw[hf,hμ];simp only[mvF,mvM,mvX,if_neg hql,if_neg e];rfl
        simp only[z44,↓reduceIte,Sk.one,Nat.reduceEqDiff];refine z27 [1,3,12,13,16] ?_;refine Cs.seq ?_;refine z1q [1,3,13,16,123,124,125] ?_;refine Cs.nilO 16 43 4 (oxM f μ []) rfl ?_;dsimp only;refine Cs.block ?_;intro Q0 hN0 hX0 hR0 hE0;refine Cs.loop (σ:=Nat×List Nat) (fun σ=>σ.1≤l.length∧σ.2=idxO D (D+1) l.length σ.1∧σ.2.length≤2*σ.1) (fun σ=>l.length-σ.1) (fun σ=>[(1,.int .i64 D),(3,.int .i64 (D+1:Nat)),(13,.ptr 5 0 0 0),(16,.slc true 6 0 0 σ.2.length),(123,.slc true 2 0 0 l.length),(124,.int .i64 l.length),(125,.int .i64 σ.1)]) (fun σ=>⟨7,[(6,Sk.one (.row ⟨true,false,43,4,σ.2.length,oxM f μ σ.2⟩)),(5,Sk.one (.row ⟨true,true,43,4,1,fun _=>[.int .i64 (f l.length).nd.id,.str (f l.length).nd.key,.int .u32 (f l.length).nd.word,.slc false (μ l.length).1.val (μ l.length).2 (f l.length).off (f l.length).n]⟩)),(4,Sk.one (.row ⟨true,false,45,2,B.length,rws B⟩)),(3,Sk.one (.row ⟨true,false,45,2,A.length,rws A⟩)),(2,Sk.one (.row ⟨true,false,43,4,l.length,fun i=>[.int .i64 (f i).nd.id,.str (f i).nd.key,.int .u32 (f i).nd.word,.slc false (μ i).1.val (μ i).2 (f i).off (f i).n]⟩))]⟩) (0,[]) ⟨Nat.zero_le _,rfl,Nat.zero_le _⟩ (ρ:=id) (z7h id) ?_;rintro⟨i,idx⟩ hi QL1 hL1 hRL1 hEL1;refine z1q [1,3,13,16,123,124,125,126] ?_;refine Cs.seq ?_;refine Cs.cond _ rfl ?_ ?_
        ·intro h126;replace h126:=z6 h126;obtain⟨hi1,hi2,hi3⟩:=hi;dsimp only at hi1 hi2 hi3;refine Cs.skip ?_;refine Cs.seq ?_;refine Cs.block ?_;intro Q1 hN1 hX1 hR1 hE1;refine z1q [1,3,13,16,17,18,123,124,125] ?_;refine Cs.seq ?_;refine z1q [1,3,13,16,17,18,123,124,125,132] ?_;refine Cs.cond _ rfl ?_ ?_
         ·intro h132;replace h132:=z6 h132;refine z27 [1,3,13,16,17,123,124,125] ?_;refine Cs.seq ?_;refine Cs.wkRow 9 (oxM f μ (idx++[i])) rfl rfl (fun q hq=>oxM_wk (Nat.le_of_ble_eq_true rfl) f μ idx i q hq) ?_;simp only[z44,↓reduceIte,Sk.one,Nat.reduceEqDiff];refine z27 [1,3,13,16,123,124,125,139] ?_;refine Cs.cond _ rfl ?_ ?_
          ·intro h139;replace h139:=z6 h139;refine z27 [1,3,13,16,123,124,125] ?_;refine Cs.nil ?_;refine hN1 _ _ ?_;rw[show idx.length+1=(idx++[i]).length by simp];refine Cs.wkRow 11 (oxM f μ ((idx++[i])++[l.length])) rfl rfl (fun q hq=>oxM_wk (Nat.le_of_ble_eq_true rfl) f μ (idx++[i]) l.length q hq) ?_;simp only[z44,↓reduceIte,Sk.one,Nat.reduceEqDiff];refine z27 [1,3,13,16,123,124,125] ?_;refine Cs.nil ?_;refine hL1 _ _ ?_;rw[show(i:Int)+1=((i+1:Nat):Int) from by omega];exact⟨(i+1,(idx++[i])++[l.length]),⟨⟨by dsimp only;omega,by dsimp only;rw[idxO,←hi2,if_neg (by omega),if_pos (by omega)],by simp only[List.length_append,List.length_singleton];omega⟩,by dsimp only;omega⟩,fun q=>if q=6 then 11 else q,(zi (fun q=>if q=6 then 11 else q))⟩
          ·intro h139;replace h139:=z6 h139;refine Cs.skip ?_;refine Cs.nil ?_;refine hN1 _ _ ?_;refine z27 [1,3,13,16,123,124,125] ?_;refine Cs.nil ?_;refine hL1 _ _ ?_;rw[show(i:Int)+1=((i+1:Nat):Int) from by omega];exact⟨(i+1,(idx++[i])),⟨⟨by dsimp only;omega,by dsimp only;rw[idxO,←hi2,if_neg (by omega),if_neg (by omega),List.append_nil],by simp only[List.length_append,List.length_singleton];omega⟩,by dsimp only;omega⟩,fun q=>if q=6 then 9 else q,(zi (fun q=>if q=6 then 9 else q))⟩
         ·intro h132;replace h132:=z6 h132;refine Cs.skip ?_;refine z1q [1,3,13,16,123,124,125,139] ?_;refine Cs.cond _ rfl ?_ ?_
          ·intro h139;replace h139:=z6 h139;refine z27 [1,3,13,16,123,124,125] ?_;refine Cs.nil ?_;refine hN1 _ _ ?_;refine Cs.wkRow 9 (oxM f μ (idx++[l.length])) rfl rfl (fun q hq=>oxM_wk (Nat.le_of_ble_eq_true rfl) f μ idx l.length q hq) ?_;simp only[z44,↓reduceIte,Sk.one,Nat.reduceEqDiff];refine z27 [1,3,13,16,123,124,125] ?_;refine Cs.nil ?_;refine hL1 _ _ ?_;rw[show(i:Int)+1=((i+1:Nat):Int) from by omega];exact⟨(i+1,idx++[l.length]),⟨⟨by dsimp only;omega,by dsimp only;rw[idxO,←hi2,if_pos (by omega),if_pos (by omega),List.append_nil],by simp only[List.length_append,List.length_singleton];omega⟩,by dsimp only;omega⟩,fun q=>if q=6 then 9 else q,(zi (fun q=>if q=6 then 9 else q))⟩
          ·intro h139;replace h139:=z6 h139;refine Cs.skip ?_;refine Cs.nil ?_;refine hN1 _ _ ?_;refine z27 [1,3,13,16,123,124,125] ?_;refine Cs.nil ?_;refine hL1 _ _ ?_;rw[show(i:Int)+1=((i+1:Nat):Int) from by omega];exact⟨(i+1,idx),⟨⟨by dsimp only;omega,by dsimp only;rw[idxO,←hi2,if_pos (by omega),if_neg (by omega),List.append_nil,List.append_nil],by simp only[List.length_append,List.length_singleton];omega⟩,by dsimp only;omega⟩,id,(z7h id)⟩
        ·intro h126;replace h126:=z6 h126;obtain⟨hi1,hi2,hi3⟩:=hi;dsimp only at hi1 hi2 hi3;refine Cs.exit ?_;refine hEL1 _ _ _ ?_;refine hX0 _ _ ?_;refine Cs.seq ?_;have hin:i=l.length:=by omega
         subst hin
         have hil:idx.length=l.length:=by
          have:=idxO_len D (D+1) l.length l.length;rw[if_pos (by omega),if_pos (by omega)] at this;rw[hi2];omega
         rw[hil];obtain⟨f1,hf1⟩:∃f1:Nat→Hm,∀q,f1 q=f (idx.getD q 0):=⟨_,fun _=>rfl⟩;obtain⟨μ1,hm1⟩:∃μ1:Nat→Fin 5×Nat,∀q,μ1 q=μ (idx.getD q 0):=⟨_,fun _=>rfl⟩;have hm3:∀i,(μ1 i).1.val≠2:=fun i=>by rw[hm1];exact hm2 _
         have hox:∀q,oxM f μ idx q=[.int .i64 (f1 q).nd.id,.str (f1 q).nd.key,.int .u32 (f1 q).nd.word,.slc false (μ1 q).1.val (μ1 q).2 (f1 q).off (f1 q).n]:=fun q=>by rw[hf1,hm1];rfl
         refine Cs.give (H':=⟨5,[(2,Sk.one (.row ⟨true,false,43,4,l.length,fun i=>[.int .i64 (f1 i).nd.id,.str (f1 i).nd.key,.int .u32 (f1 i).nd.word,.slc false (μ1 i).1.val (μ1 i).2 (f1 i).off (f1 i).n]⟩)),(3,Sk.one (.row ⟨true,false,45,2,A.length,rws A⟩)),(4,Sk.one (.row ⟨true,false,45,2,B.length,rws B⟩))]⟩) (fr':=[(16,.slc true 2 0 0 l.length)]) (fun q=>if q=2 then 6 else q) (gvS (fun q=>if q=2 then 6 else q) ⟨z1m,(by simp[z1b,Sk.find,Sk.one,zb.eq_1,zb.eq_2,zb.eq_3,zo,SV.renL,SV.ren,Obj.lt_row,SV.ltL,SV.lt,z1e,zn,zr,z1w,nds,Nd.sv,z14,zx,z3a,z3b,z28,z1r,z2t,z15,z1h,z18,z21,z2u,z1o,z1j,z20,z1g,z19,z2h,z33,z4m,z48,z53,Fin.is_lt,z4j,z8o,z6z,fin5_6,fin5_7,z6h];exact fun q _=>by rw[hox,if_neg (hm3 q)]),z1m,z1m,z1m⟩ ⟨rfl,rfl,Nat.le_of_ble_eq_true rfl,rfl⟩) ?_;obtain⟨hvls,hHB,hRes⟩:=mv_plain (C:=C) hb hDl hEl hGl hX (by omega) (by rw[hnG];exact hN) hBr hx (f1:=f1) (fun q=>by rw[hf1,hf,hi2]) (μ1:=μ1) (fun q=>by rw[hm1,hμ,hi2]);refine Cs.reg [10,11] rfl ?_;intro K hK;refine zl z5 ?_;refine zl z5 ?_;refine MwBm.c1 (z81 f1 μ1 l.length (by omega)) (id) ?_;iterate 2 (refine zl z5 ?_)
         refine za (z8 (hK _ _ ?_));clear hK K;refine Cs.ret ?_;refine hQ _ _ ?_;refine zm.mk (H':=⟨5,[(2,Sk.one (.row ⟨true,false,43,4,l.length,fun i=>[.int .i64 (f1 i).nd.id,.str (if i=0 then⟨#[]⟩ else(f1 i).nd.key),.int .u32 (f1 i).nd.word,.slc false (μ1 i).1.val (μ1 i).2 (f1 i).off (f1 i).n]⟩)),(3,Sk.one (.row ⟨true,false,45,2,A.length,rws A⟩)),(4,Sk.one (.row ⟨true,false,45,2,B.length,rws B⟩))]⟩) (.inl rfl) ?_;refine zh ?_;refine⟨z1m,(z7h id),z1m,?_⟩;refine⟨fstM (hmk l.length f1),A,B,μ1,_,?_,hHB.fst,hRes.fst,fun i hi=>muR_fst _ _ _ (by rwa [z2i,z3p] at hi),?_,?_⟩
         ·rw[mvR,if_pos hE,z7z,hvls];simp only[Int.toNat_natCast]
         ·rw[hE,z2i,z3p]
         ·rw[z2i,z3p]
      refine zl (z9 _ [] [] [] rfl rfl rfl rfl) ?_;refine zl (z9 _ [] [] [] rfl rfl rfl rfl) ?_;refine zl (z9 _ [] [] [] rfl rfl rfl rfl) ?_;refine zl (z9 _ [] [] [] rfl rfl rfl rfl) ?_;refine zl (z9 _ [] [] [] rfl rfl rfl rfl) ?_;refine zl (z9 _ [] [] [] rfl rfl rfl rfl) ?_;refine zl (z9 _ [] [] [] rfl rfl rfl rfl) ?_;refine zl (z9 _ [] [] [] rfl rfl rfl rfl) ?_;refine zl (z9 _ [] [] [] rfl rfl rfl rfl) ?_;refine zl (z9 _ [] [] [] rfl rfl rfl rfl) ?_;refine zl (z9 _ [0,1,2,3,4] [] [] rfl rfl rfl rfl) ?_;refine zl (z9 _ [] [] [] rfl rfl rfl rfl) ?_;refine zl (z9 _ [] [] [] rfl rfl rfl rfl) ?_;refine zl (z9 _ [2] [2] [] rfl rfl rfl rfl) ?_;refine z12 ?_;refine z8 ?_;rw[z4d,z4d,z7w (by rw[List.length_drop];omega)];exact hG _ _ _ _ id (z7h id) hk8
     ·skip
      refine Cs.seq ?_;refine Cs.regTree [1,2,3,4,12,13] (.op 0 (.op 1 (.op 2 (.op 3 (.op 5 (.op 6 (.op 7 (.op 8 (.op 9 (.op 4 (.op 10 (.op 11 (.op 12 (.op 13 .done)))))))))))))) [[],[],[],[2],[2,3],[],[],[5,6],[5,6,7],[5,6,7,8],[2,3,4,5,6,7,8,9],[0,1,2,3,4,5,6,7,8,9,10],[0,1,2,3,4,5,6,7,8,9,10,11],[0,1,2,3,4,5,6,7,8,9,10,11,12]] [[],[],[],[],[],[],[],[],[],[],[999999],[],[],[2]] [[],[],[],[],[],[],[],[],[],[],[],[],[],[2]] Tryz.mo rfl rfl (by kernel_rfl) (by kernel_rfl) (by kernel_rfl) rfl (by kernel_rfl) ?_;intro K hK hG
      have hk8:K [(1,.int .i64 D),(2,.int .i64 (D+1:Nat)),(3,.int .i64 G),(4,.int .i64 c),(12,.slc true 2 0 0 l.length),(13,.ptr 3 0 0 0)] ⟨6,[(5,Sk.one (.row ⟨true,false,45,2,(hm l D).n+(hm l (D+1)).n,rws ((hm l D).full.drop (hm l D).off++(hm l (D+1)).full.drop (hm l (D+1)).off)⟩)),(3,Sk.one (.row ⟨true,true,43,4,1,fun _=>[.int .i64 (hm l D).nd.id,.str (hm l D).nd.key,.int .u32 (hm l D).nd.word,.slc false 1 (D+1) (hm l D).off (hm l D).n]⟩)),(2,Sk.one (.row ⟨true,false,43,4,l.length,fun q=>if q=(D+1) then [.int .i64 (hm l (D+1)).nd.id,.str (hm l (D+1)).nd.key,.int .u32 (hm l (D+1)).nd.word,.slc true 5 0 0 ((hm l D).n+(hm l (D+1)).n)] else [.int .i64 (hm l q).nd.id,.str (hm l q).nd.key,.int .u32 (hm l q).nd.word,.slc false 1 (q+1) (hm l q).off (hm l q).n]⟩)),(0,Sk.one (.row ⟨false,false,43,4,l.length,hmR false 1 l⟩)),(1,(l.length+1,fam false 45 2 (hmF false l)))]⟩:=by
       refine hK _ _ ?_;clear hG hK K;refine z27 [1,3,4,12,13] ?_;refine Cs.seq ?_;obtain⟨A,hA⟩:∃A,A=(hm l D).full.drop (hm l D).off++(hm l (D+1)).full.drop (hm l (D+1)).off:=⟨_,rfl⟩;have hAl:A.length=(hm l D).n+(hm l (D+1)).n:=by rw[hA,List.length_append,List.length_drop,List.length_drop];rfl
       rw[←hA,←hAl];have hDl:D<l.length:=by omega
       have hEl:(D+1)<l.length:=by omega
       have hGl:G<l.length:=by omega
       have hX:hd (z7n (vls l) D (D+1)) (D+1)=⟨z54 (hm l (D+1)).nd (hm l D).nd.key,A⟩:=by
        rw[mrg_hd (by rw[z1v];exact hEl),if_pos rfl,if_pos (by omega),z4z,z4z,hA];rfl
       refine Cs.give (H':=⟨5,[(4,Sk.one (.row ⟨true,true,43,4,1,fun _=>[.int .i64 (hm l D).nd.id,.str (hm l D).nd.key,.int .u32 (hm l D).nd.word,.slc false 1 (D+1) (hm l D).off (hm l D).n]⟩)),(3,Sk.one (.row ⟨true,false,45,2,A.length,rws A⟩)),(2,Sk.one (.row ⟨true,false,43,4,l.length,fun q=>if q=(D+1) then [.int .i64 (hm l (D+1)).nd.id,.str (hm l D).nd.key,.int .u32 (hm l (D+1)).nd.word,.slc true 3 0 0 A.length] else [.int .i64 (hm l q).nd.id,.str (hm l q).nd.key,.int .u32 (hm l q).nd.word,.slc false 1 (q+1) (hm l q).off (hm l q).n]⟩)),(1,(l.length+1,fam false 45 2 (hmF false l)))]⟩) (fr':=[(1,.int .i64 D),(3,.int .i64 G),(4,.int .i64 c),(12,.slc true 2 0 0 l.length),(13,.ptr 4 0 0 0)]) (fun q=>if q=3 then 5 else if q=4 then 3 else q) (gvS (fun q=>if q=3 then 5 else if q=4 then 3 else q) ⟨z1m,(by simp[z1b,Sk.find,Sk.one,zb.eq_1,zb.eq_2,zb.eq_3,zo,SV.renL,SV.ren,Obj.lt_row,SV.ltL,SV.lt,z1e,zn,zr,z1w,nds,Nd.sv,z14,zx,z3a,z3b,z28,z1r,z2t,z15,z1h,z18,z21,z2u,z1o,z1j,z20,z1g,z19,z2h,z33,z4m,z48,z53,Fin.is_lt,z4j,z8o,z6z,fin5_6,fin5_7,z6h];first|done|(intro i hi;repeat' split)<;>simp_all),z1m,z1m,z1m⟩ ⟨rfl,rfl,Nat.le_of_ble_eq_true rfl,rfl⟩) ?_;refine Cs.reg [1,3,4,12,13,14] rfl ?_
       intro K hK;iterate 5 (refine zl z5 ?_)
       rw[if_neg (fun e=>hGE e.symm)];simp only[List.getElem?_cons_succ,List.getElem?_cons_zero];repeat(with_reducible apply ai;exact z7)
       refine zl z5 ?_;refine za (z8 (hK _ _ ?_));clear hK K;refine Cs.seq ?_;refine Cs.seq ?_
       have hnG:(hd (z7n (vls l) D (D+1)) G).rows.length=(hm l G).n:=by
        rw[mrg_hd (by rw[z1v];exact hEl),if_neg (fun e=>hGE e.symm),z7s]
       have hGb:(hm l G).n≤3000∧(hm l G).off+(hm l G).n=(hm l G).full.length:=by have:=hb.at G;simp only[Hm.n];omega
       refine z27 [1,3,4,12,13,14,98] ?_;refine Cs.cond _ rfl ?_ ?_
       ·intro h98
        refine z1q [10,11] ?_;refine Cs.nilO 10 43 4 (hmR false 0 []) rfl ?_;dsimp only;refine Cs.fam0 45 2 (hmF true []) ?_;dsimp only;refine Cs.fam0 45 2 (hmF true []) ?_;dsimp only;refine Cs.ret ?_;refine hQ _ _ ?_;refine zm.mkR (fun q=>if q=2 then 5 else if q=3 then 6 else if q=4 then 7 else q) (.tup [.slc true 2 0 0 0,.int .i64 2]) (⟨5,[(2,Sk.one (.row ⟨true,false,43,4,0,fun i=>hmR false 0 [] i⟩)),(3,Sk.one (.row ⟨true,false,45,2,0,rws []⟩)),(4,Sk.one (.row ⟨true,false,45,2,0,rws []⟩))]⟩) (.inl rfl) ?_;refine zh ?_;refine⟨z1m,z1m,(z7h (fun q=>if q=2 then 5 else if q=3 then 6 else if q=4 then 7 else q)),z1m,?_⟩
        have hE:mvE (vls l) D (D+1:Nat) G c=2:=by
         rw[mvE,if_neg (by rw[h21];decide),hVl,if_neg (by rw[hk42];decide),if_pos];simp only[Int.toNat_natCast,nR,hnG];rw[←mvB_eq];exact h98
        exact⟨[],[],[],fun _=>(1,0),_,by rw[mvR,if_neg (by rw[hE];decide)];rfl,⟨Nat.zero_le _,fun x hx=>by cases hx⟩,fun i hi=>absurd hi (Nat.not_lt_zero _),fun i hi=>absurd hi (Nat.not_lt_zero _),by rw[hE];trivial,by trivial⟩
       ·intro h98;have hk98:=h98;simp only[Bool.or_eq_false_iff,decide_eq_false_iff_not] at h98;obtain⟨hc1,hc2⟩:=h98;obtain⟨C,rfl⟩:=Int.eq_ofNat_of_zero_le (show 0≤c by omega);obtain⟨N,hN⟩:∃N,N=(hm l G).n-C:=⟨_,rfl⟩
        have hE:mvE (vls l) D (D+1:Nat) G C=0:=by
         rw[mvE_iff];refine⟨h21,by rw[hVl];exact hbes,⟨by omega,by omega⟩,by omega,by omega,?_⟩;simp only[Int.toNat_natCast,nR,hnG];omega
        refine Cs.skip ?_;refine z1q [1,3,12,13,14,15] ?_;refine Cs.seq ?_;rw[show(((hm l G).n:Nat):Int)-(C:Int)=(N:Int) by omega];refine Cs.regDraw [1,3,12,13,14,15] [0,1,2,4,5,6,7,8,3,9,10,11,12,13] [[],[],[0,1],[0,1,2],[],[],[4,5],[4,5,6],[4,5,6,7],[0,1,2,3],[0,1,2,3,9],[0,1,2,3,4,5,6,7,8,9,10],[0,1,2,3,4,5,6,7,8,9,10,11],[0,1,2,3,4,5,6,7,8,9,10,11,12]] [[],[],[],[],[],[],[],[],[],[],[4],[],[],[4]] [[],[],[],[],[4],[4],[4],[4],[4],[],[4],[4],[4],[4]] Tryz.mo rfl rfl rfl (by kernel_rfl) (by kernel_rfl) (by kernel_rfl) rfl (by kernel_rfl) ?_;intro K hK;iterate 3 (refine zl (zf _ [] [] rfl rfl rfl) ?_)
        iterate 5 (refine zl (zf _ [] [4] rfl rfl rfl) ?_)
        iterate 2 (refine zl (zf _ [] [] rfl rfl rfl) ?_)
        refine zl (zf _ [4] [4] rfl rfl rfl) ?_;iterate 2 (refine zl (zf _ [] [4] rfl rfl rfl) ?_)
        refine zl (zf _ [4] [4] rfl rfl rfl) ?_;refine z2n (z8 (hK _ _ ?_));clear hK K;refine z1q [1,3,12,13] ?_;refine Cs.seq ?_;rw[z4d];refine Cs.give (H':=⟨6,[(5,Sk.one (.row ⟨true,true,43,4,1,fun _=>[.int .i64 (hm l D).nd.id,.str (ro (hm l G).full ((hm l G).off+N)).key,.int .u32 (hm l D).nd.word,.slc true 4 0 0 ((hm l G).n-N)]⟩)),(4,Sk.one (.row ⟨true,false,45,2,(hm l G).n-N,rws ((hm l G).full.drop ((hm l G).off+N))⟩)),(3,Sk.one (.row ⟨true,false,45,2,A.length,rws A⟩)),(2,Sk.one (.row ⟨true,false,43,4,l.length,fun i'=>if i'=G then [.int .i64 (hm l G).nd.id,.str (hm l G).nd.key,.int .u32 (hm l G).nd.word,.slc false 1 (G+1) (hm l G).off N] else if i'=(D+1) then [.int .i64 (hm l (D+1)).nd.id,.str (hm l D).nd.key,.int .u32 (hm l (D+1)).nd.word,.slc true 3 0 0 A.length] else [.int .i64 (hm l i').nd.id,.str (hm l i').nd.key,.int .u32 (hm l i').nd.word,.slc false 1 (i'+1) (hm l i').off (hm l i').n]⟩))]⟩) (fr':=[(1,.int .i64 D),(3,.int .i64 G),(12,.slc true 2 0 0 l.length),(13,.ptr 5 0 0 0)]) (fun q=>if q=4 then 5 else if q=5 then 4 else q) (gvS (fun q=>if q=4 then 5 else if q=5 then 4 else q) ⟨z1m,(by simp[z1b,Sk.find,Sk.one,zb.eq_1,zb.eq_2,zb.eq_3,zo,SV.renL,SV.ren,Obj.lt_row,SV.ltL,SV.lt,z1e,zn,zr,z1w,nds,Nd.sv,z14,zx,z3a,z3b,z28,z1r,z2t,z15,z1h,z18,z21,z2u,z1o,z1j,z20,z1g,z19,z2h,z33,z4m,z48,z53,Fin.is_lt,z4j,z8o,z6z,fin5_6,fin5_7,z6h];first|done|(intro i hi;repeat' split)<;>simp_all),z1m,z1m,z1m⟩ ⟨rfl,rfl,Nat.le_of_ble_eq_true rfl,rfl⟩) ?_
        obtain⟨B,hB⟩:∃B,B=(hm l G).full.drop ((hm l G).off+N):=⟨_,rfl⟩;have hBl:B.length=(hm l G).n-N:=by rw[hB,List.length_drop];omega
        rw[←hB,←hBl];obtain⟨x,hx⟩:∃x,x=z54 (hd (vls l) D).nd (ro (hd (z7n (vls l) D (D+1)) G).rows N).key:=⟨_,rfl⟩
        have hxe:x=⟨(hm l D).nd.id,(ro (hm l G).full ((hm l G).off+N)).key,(hm l D).nd.word⟩:=by
         rw[hx,z4z,mrg_hd (by rw[z1v];exact hEl),if_neg (fun e=>hGE e.symm),rows_vls];rw[Hm.rows,ro_drop];rfl
        have hBr:B=(hd (z7n (vls l) D (D+1)) G).rows.drop N:=by
         rw[hB,mrg_hd (by rw[z1v];exact hEl),if_neg (fun e=>hGE e.symm),rows_vls,Hm.rows,List.drop_drop]
        obtain⟨f,hf⟩:∃f,f=mvF (mvX l (D+1) (z54 (hm l (D+1)).nd (hm l D).nd.key) A) l.length G N x B:=⟨_,rfl⟩;obtain⟨μ,hμ⟩:∃μ,μ=mvM l.length (D+1):=⟨_,rfl⟩;have hm2:∀i,(μ i).1.val≠2:=fun i=>by rw[hμ];exact mvM_ne _ _ _
        refine Cs.wkRow 5 (fun _=>[.int .i64 (f l.length).nd.id,.str (f l.length).nd.key,.int .u32 (f l.length).nd.word,.slc false (μ l.length).1.val (μ l.length).2 (f l.length).off (f l.length).n]) rfl rfl (fun q hq=>z74 _ _ (f l.length).nd (μ l.length).1.val (μ l.length).2 (f l.length).off (f l.length).n (by rw[hf,hμ,mvF_n,mvM_n,hxe];rfl) (by rw[hf,mvF_n]) (by rw[hμ,mvM_n]) rfl (Nat.lt_of_lt_of_le (μ l.length).1.isLt (Nat.le_of_ble_eq_true rfl))) ?_;simp only[z44,↓reduceIte,Sk.one,Nat.reduceEqDiff];refine Cs.wkRow 2 (fun i=>[.int .i64 (f i).nd.id,.str (f i).nd.key,.int .u32 (f i).nd.word,.slc false (μ i).1.val (μ i).2 (f i).off (f i).n]) rfl rfl (fun q hq=> ?_) ?_
        ·have hql:¬q=l.length:=fun e=>by dsimp only at hq;omega
         dsimp only
         by_cases e:q=(D+1)
         ·rw[e];rw[e] at hql;exact z74 _ _ (f (D+1)).nd (μ (D+1)).1.val (μ (D+1)).2 (f (D+1)).off (f (D+1)).n (by rw[hf,hμ];simp only[mvF,mvM,mvX,if_neg hql,if_neg hGE,if_true];simp[Hm.n,z54];first|done|rfl|(exact⟨rfl,by omega⟩)) (by rw[hf];simp only[mvF,mvX,if_neg hql,if_neg hGE,if_true]) (by rw[hμ];simp only[mvM,if_neg hql,if_true]) rfl (Nat.lt_of_lt_of_le (μ (D+1)).1.isLt (Nat.le_of_ble_eq_true rfl))
         ·refine cell4_wk _ _ (f q).nd (μ q).1.val (μ q).2 (f q).off (f q).n ?_ rfl (Nat.lt_of_lt_of_le (μ q).1.isLt (Nat.le_of_ble_eq_true rfl));rw[hf,hμ]
          by_cases g:q=G
          ·subst g;simp only[mvF,mvM,mvX,if_neg hql,if_neg e,if_true,Hm.n,List.length_take];rw[show min ((hm l q).off+N) (hm l q).full.length-(hm l q).off=N by have:=hb.at q;simp only[Hm.n] at*;omega];rfl
          ·simp only[mvF,mvM,mvX,if_neg hql,if_neg e,if_neg g];rfl
        simp only[z44,↓reduceIte,Sk.one,Nat.reduceEqDiff];refine z27 [1,3,12,13,16] ?_;refine Cs.seq ?_;refine z1q [1,3,13,16,123,124,125] ?_;refine Cs.nilO 16 43 4 (oxM f μ []) rfl ?_;dsimp only;refine Cs.block ?_;intro Q0 hN0 hX0 hR0 hE0;refine Cs.loop (σ:=Nat×List Nat) (fun σ=>σ.1≤l.length∧σ.2=idxO D G l.length σ.1∧σ.2.length≤2*σ.1) (fun σ=>l.length-σ.1) (fun σ=>[(1,.int .i64 D),(3,.int .i64 G),(13,.ptr 5 0 0 0),(16,.slc true 6 0 0 σ.2.length),(123,.slc true 2 0 0 l.length),(124,.int .i64 l.length),(125,.int .i64 σ.1)]) (fun σ=>⟨7,[(6,Sk.one (.row ⟨true,false,43,4,σ.2.length,oxM f μ σ.2⟩)),(5,Sk.one (.row ⟨true,true,43,4,1,fun _=>[.int .i64 (f l.length).nd.id,.str (f l.length).nd.key,.int .u32 (f l.length).nd.word,.slc false (μ l.length).1.val (μ l.length).2 (f l.length).off (f l.length).n]⟩)),(4,Sk.one (.row ⟨true,false,45,2,B.length,rws B⟩)),(3,Sk.one (.row ⟨true,false,45,2,A.length,rws A⟩)),(2,Sk.one (.row ⟨true,false,43,4,l.length,fun i=>[.int .i64 (f i).nd.id,.str (f i).nd.key,.int .u32 (f i).nd.word,.slc false (μ i).1.val (μ i).2 (f i).off (f i).n]⟩))]⟩) (0,[]) ⟨Nat.zero_le _,rfl,Nat.zero_le _⟩ (ρ:=id) (z7h id) ?_;rintro⟨i,idx⟩ hi QL1 hL1 hRL1 hEL1;refine z1q [1,3,13,16,123,124,125,126] ?_;refine Cs.seq ?_;refine Cs.cond _ rfl ?_ ?_
        ·intro h126;replace h126:=z6 h126;obtain⟨hi1,hi2,hi3⟩:=hi;dsimp only at hi1 hi2 hi3;refine Cs.skip ?_;refine Cs.seq ?_;refine Cs.block ?_;intro Q1 hN1 hX1 hR1 hE1;refine z1q [1,3,13,16,17,18,123,124,125] ?_;refine Cs.seq ?_;refine z1q [1,3,13,16,17,18,123,124,125,132] ?_;refine Cs.cond _ rfl ?_ ?_
         ·intro h132;replace h132:=z6 h132;refine z27 [1,3,13,16,17,123,124,125] ?_;refine Cs.seq ?_;refine Cs.wkRow 9 (oxM f μ (idx++[i])) rfl rfl (fun q hq=>oxM_wk (Nat.le_of_ble_eq_true rfl) f μ idx i q hq) ?_;simp only[z44,↓reduceIte,Sk.one,Nat.reduceEqDiff];refine z27 [1,3,13,16,123,124,125,139] ?_;refine Cs.cond _ rfl ?_ ?_
          ·intro h139;replace h139:=z6 h139;refine z27 [1,3,13,16,123,124,125] ?_;refine Cs.nil ?_;refine hN1 _ _ ?_;rw[show idx.length+1=(idx++[i]).length by simp];refine Cs.wkRow 11 (oxM f μ ((idx++[i])++[l.length])) rfl rfl (fun q hq=>oxM_wk (Nat.le_of_ble_eq_true rfl) f μ (idx++[i]) l.length q hq) ?_;simp only[z44,↓reduceIte,Sk.one,Nat.reduceEqDiff];refine z27 [1,3,13,16,123,124,125] ?_;refine Cs.nil ?_;refine hL1 _ _ ?_;rw[show(i:Int)+1=((i+1:Nat):Int) from by omega];exact⟨(i+1,(idx++[i])++[l.length]),⟨⟨by dsimp only;omega,by dsimp only;rw[idxO,←hi2,if_neg (by omega),if_pos (by omega)],by simp only[List.length_append,List.length_singleton];omega⟩,by dsimp only;omega⟩,fun q=>if q=6 then 11 else q,(zi (fun q=>if q=6 then 11 else q))⟩
          ·intro h139;replace h139:=z6 h139;refine Cs.skip ?_;refine Cs.nil ?_;refine hN1 _ _ ?_;refine z27 [1,3,13,16,123,124,125] ?_;refine Cs.nil ?_;refine hL1 _ _ ?_;rw[show(i:Int)+1=((i+1:Nat):Int) from by omega];exact⟨(i+1,(idx++[i])),⟨⟨by dsimp only;omega,by dsimp only;rw[idxO,←hi2,if_neg (by omega),if_neg (by omega),List.append_nil],by simp only[List.length_append,List.length_singleton];omega⟩,by dsimp only;omega⟩,fun q=>if q=6 then 9 else q,(zi (fun q=>if q=6 then 9 else q))⟩
         ·intro h132;replace h132:=z6 h132;refine Cs.skip ?_;refine z1q [1,3,13,16,123,124,125,139] ?_;refine Cs.cond _ rfl ?_ ?_
          ·intro h139;replace h139:=z6 h139;refine z27 [1,3,13,16,123,124,125] ?_;refine Cs.nil ?_;refine hN1 _ _ ?_;refine Cs.wkRow 9 (oxM f μ (idx++[l.length])) rfl rfl (fun q hq=>oxM_wk (Nat.le_of_ble_eq_true rfl) f μ idx l.length q hq) ?_;simp only[z44,↓reduceIte,Sk.one,Nat.reduceEqDiff];refine z27 [1,3,13,16,123,124,125] ?_;refine Cs.nil ?_;refine hL1 _ _ ?_;rw[show(i:Int)+1=((i+1:Nat):Int) from by omega];exact⟨(i+1,idx++[l.length]),⟨⟨by dsimp only;omega,by dsimp only;rw[idxO,←hi2,if_pos (by omega),if_pos (by omega),List.append_nil],by simp only[List.length_append,List.length_singleton];omega⟩,by dsimp only;omega⟩,fun q=>if q=6 then 9 else q,(zi (fun q=>if q=6 then 9 else q))⟩
          ·intro h139;replace h139:=z6 h139;refine Cs.skip ?_;refine Cs.nil ?_;refine hN1 _ _ ?_;refine z27 [1,3,13,16,123,124,125] ?_;refine Cs.nil ?_;refine hL1 _ _ ?_;rw[show(i:Int)+1=((i+1:Nat):Int) from by omega];exact⟨(i+1,idx),⟨⟨by dsimp only;omega,by dsimp only;rw[idxO,←hi2,if_pos (by omega),if_neg (by omega),List.append_nil,List.append_nil],by simp only[List.length_append,List.length_singleton];omega⟩,by dsimp only;omega⟩,id,(z7h id)⟩
        ·intro h126;replace h126:=z6 h126;obtain⟨hi1,hi2,hi3⟩:=hi;dsimp only at hi1 hi2 hi3;refine Cs.exit ?_;refine hEL1 _ _ _ ?_;refine hX0 _ _ ?_;refine Cs.seq ?_;have hin:i=l.length:=by omega
         subst hin
         have hil:idx.length=l.length:=by
          have:=idxO_len D G l.length l.length;rw[if_pos (by omega),if_pos (by omega)] at this;rw[hi2];omega
         rw[hil];obtain⟨f1,hf1⟩:∃f1:Nat→Hm,∀q,f1 q=f (idx.getD q 0):=⟨_,fun _=>rfl⟩;obtain⟨μ1,hm1⟩:∃μ1:Nat→Fin 5×Nat,∀q,μ1 q=μ (idx.getD q 0):=⟨_,fun _=>rfl⟩;have hm3:∀i,(μ1 i).1.val≠2:=fun i=>by rw[hm1];exact hm2 _
         have hox:∀q,oxM f μ idx q=[.int .i64 (f1 q).nd.id,.str (f1 q).nd.key,.int .u32 (f1 q).nd.word,.slc false (μ1 q).1.val (μ1 q).2 (f1 q).off (f1 q).n]:=fun q=>by rw[hf1,hm1];rfl
         refine Cs.give (H':=⟨5,[(2,Sk.one (.row ⟨true,false,43,4,l.length,fun i=>[.int .i64 (f1 i).nd.id,.str (f1 i).nd.key,.int .u32 (f1 i).nd.word,.slc false (μ1 i).1.val (μ1 i).2 (f1 i).off (f1 i).n]⟩)),(3,Sk.one (.row ⟨true,false,45,2,A.length,rws A⟩)),(4,Sk.one (.row ⟨true,false,45,2,B.length,rws B⟩))]⟩) (fr':=[(16,.slc true 2 0 0 l.length)]) (fun q=>if q=2 then 6 else q) (gvS (fun q=>if q=2 then 6 else q) ⟨z1m,(by simp[z1b,Sk.find,Sk.one,zb.eq_1,zb.eq_2,zb.eq_3,zo,SV.renL,SV.ren,Obj.lt_row,SV.ltL,SV.lt,z1e,zn,zr,z1w,nds,Nd.sv,z14,zx,z3a,z3b,z28,z1r,z2t,z15,z1h,z18,z21,z2u,z1o,z1j,z20,z1g,z19,z2h,z33,z4m,z48,z53,Fin.is_lt,z4j,z8o,z6z,fin5_6,fin5_7,z6h];exact fun q _=>by rw[hox,if_neg (hm3 q)]),z1m,z1m,z1m⟩ ⟨rfl,rfl,Nat.le_of_ble_eq_true rfl,rfl⟩) ?_;obtain⟨hvls,hHB,hRes⟩:=mv_plain (C:=C) hb hDl hEl hGl hX (by omega) (by rw[hnG];exact hN) hBr hx (f1:=f1) (fun q=>by rw[hf1,hf,hi2]) (μ1:=μ1) (fun q=>by rw[hm1,hμ,hi2]);refine Cs.reg [10,11] rfl ?_;intro K hK;refine zl z5 ?_;refine zl z5 ?_;refine MwBm.c1 (z81 f1 μ1 l.length (by omega)) (id) ?_;iterate 2 (refine zl z5 ?_)
         refine za (z8 (hK _ _ ?_));clear hK K;refine Cs.ret ?_;refine hQ _ _ ?_;refine zm.mk (H':=⟨5,[(2,Sk.one (.row ⟨true,false,43,4,l.length,fun i=>[.int .i64 (f1 i).nd.id,.str (if i=0 then⟨#[]⟩ else(f1 i).nd.key),.int .u32 (f1 i).nd.word,.slc false (μ1 i).1.val (μ1 i).2 (f1 i).off (f1 i).n]⟩)),(3,Sk.one (.row ⟨true,false,45,2,A.length,rws A⟩)),(4,Sk.one (.row ⟨true,false,45,2,B.length,rws B⟩))]⟩) (.inl rfl) ?_;refine zh ?_;refine⟨z1m,(z7h id),z1m,?_⟩;refine⟨fstM (hmk l.length f1),A,B,μ1,_,?_,hHB.fst,hRes.fst,fun i hi=>muR_fst _ _ _ (by rwa [z2i,z3p] at hi),?_,?_⟩
         ·rw[mvR,if_pos hE,z7z,hvls];simp only[Int.toNat_natCast]
         ·rw[hE,z2i,z3p]
         ·rw[z2i,z3p]
      refine zl (z9 _ [] [] [] rfl rfl rfl rfl) ?_;refine zl (z9 _ [] [] [] rfl rfl rfl rfl) ?_;refine zl (z9 _ [] [] [] rfl rfl rfl rfl) ?_;refine zl (z9 _ [] [] [] rfl rfl rfl rfl) ?_;refine zl (z9 _ [] [] [] rfl rfl rfl rfl) ?_;refine zl (z9 _ [] [] [] rfl rfl rfl rfl) ?_;refine zl (z9 _ [] [] [] rfl rfl rfl rfl) ?_;refine zl (z9 _ [] [] [] rfl rfl rfl rfl) ?_;refine zl (z9 _ [] [] [] rfl rfl rfl rfl) ?_;refine zl (z9 _ [] [] [] rfl rfl rfl rfl) ?_;refine zl (z9 _ [0,1,2,3,4] [] [] rfl rfl rfl rfl) ?_;refine zl (z9 _ [] [] [] rfl rfl rfl rfl) ?_;refine zl (z9 _ [] [] [] rfl rfl rfl rfl) ?_;refine zl (z9 _ [2] [2] [] rfl rfl rfl rfl) ?_;refine z12 ?_;refine z8 ?_;rw[z4d,z4d,z7w (by rw[List.length_drop];omega)];exact hG _ _ _ _ id (z7h id) hk8
    ·intro h51;replace h51:=z6 h51;have:D=E+1:=by omega
     subst this;obtain rfl|hGE:=Decidable.em (E=G)
     ·skip
      refine Cs.regTree [1,3,4,12,13] (.op 0 (.op 1 (.op 2 (.op 3 (.op 4 (.op 5 (.op 6 (.op 8 (.op 9 (.op 7 (.op 10 (.op 11 (.op 12 (.op 13 .done)))))))))))))) [[],[],[],[],[2,3],[2,3,4],[2,3,4,5],[2,3,4,5,6],[],[8],[2,3,4,5,6,7,8,9],[0,1,2,3,4,5,6,7,8,9,10],[0,1,2,3,4,5,6,7,8,9,10,11],[0,1,2,3,4,5,6,7,8,9,10,11,12]] [[],[],[],[],[],[],[],[],[],[],[999999],[],[],[2]] [[],[],[],[],[],[],[],[],[],[],[],[],[],[2]] Tryz.mo rfl rfl (by kernel_rfl) (by kernel_rfl) (by kernel_rfl) rfl (by kernel_rfl) ?_;intro K hK hG
      have hk10:K [(1,.int .i64 (E+1:Nat)),(3,.int .i64 E),(4,.int .i64 c),(12,.slc true 2 0 0 l.length),(13,.ptr 3 0 0 0)] ⟨6,[(5,Sk.one (.row ⟨true,false,45,2,(hm l E).n+(hm l (E+1)).n,rws ((hm l E).full.drop (hm l E).off++(hm l (E+1)).full.drop (hm l (E+1)).off)⟩)),(3,Sk.one (.row ⟨true,true,43,4,1,fun _=>[.int .i64 (hm l (E+1)).nd.id,.str (hm l (E+1)).nd.key,.int .u32 (hm l (E+1)).nd.word,.slc false 1 ((E+1)+1) (hm l (E+1)).off (hm l (E+1)).n]⟩)),(2,Sk.one (.row ⟨true,false,43,4,l.length,fun q=>if q=E then [.int .i64 (hm l E).nd.id,.str (hm l E).nd.key,.int .u32 (hm l E).nd.word,.slc true 5 0 0 ((hm l E).n+(hm l (E+1)).n)] else [.int .i64 (hm l q).nd.id,.str (hm l q).nd.key,.int .u32 (hm l q).nd.word,.slc false 1 (q+1) (hm l q).off (hm l q).n]⟩)),(0,Sk.one (.row ⟨false,false,43,4,l.length,hmR false 1 l⟩)),(1,(l.length+1,fam false 45 2 (hmF false l)))]⟩:=by
       refine hK _ _ ?_;clear hG hK K;refine Cs.seq ?_;obtain⟨A,hA⟩:∃A,A=(hm l E).full.drop (hm l E).off++(hm l (E+1)).full.drop (hm l (E+1)).off:=⟨_,rfl⟩;have hAl:A.length=(hm l E).n+(hm l (E+1)).n:=by rw[hA,List.length_append,List.length_drop,List.length_drop];rfl
       rw[←hA,←hAl];have hDl:(E+1)<l.length:=by omega
       have hEl:E<l.length:=by omega
       have hGl:E<l.length:=by omega
       have hX:hd (z7n (vls l) (E+1) E) E=⟨(hm l E).nd,A⟩:=by
        rw[mrg_hd (by rw[z1v];exact hEl),if_pos rfl,if_neg (by omega),z4z,z4z,hA];rfl
       refine Cs.give (H':=⟨5,[(4,Sk.one (.row ⟨true,true,43,4,1,fun _=>[.int .i64 (hm l (E+1)).nd.id,.str (hm l (E+1)).nd.key,.int .u32 (hm l (E+1)).nd.word,.slc false 1 ((E+1)+1) (hm l (E+1)).off (hm l (E+1)).n]⟩)),(3,Sk.one (.row ⟨true,false,45,2,A.length,rws A⟩)),(2,Sk.one (.row ⟨true,false,43,4,l.length,fun q=>if q=E then [.int .i64 (hm l E).nd.id,.str (hm l E).nd.key,.int .u32 (hm l E).nd.word,.slc true 3 0 0 A.length] else [.int .i64 (hm l q).nd.id,.str (hm l q).nd.key,.int .u32 (hm l q).nd.word,.slc false 1 (q+1) (hm l q).off (hm l q).n]⟩)),(1,(l.length+1,fam false 45 2 (hmF false l)))]⟩) (fr':=[(1,.int .i64 (E+1:Nat)),(3,.int .i64 E),(4,.int .i64 c),(12,.slc true 2 0 0 l.length),(13,.ptr 4 0 0 0)]) (fun q=>if q=3 then 5 else if q=4 then 3 else q) (gvS (fun q=>if q=3 then 5 else if q=4 then 3 else q) ⟨z1m,(by simp[z1b,Sk.find,Sk.one,zb.eq_1,zb.eq_2,zb.eq_3,zo,SV.renL,SV.ren,Obj.lt_row,SV.ltL,SV.lt,z1e,zn,zr,z1w,nds,Nd.sv,z14,zx,z3a,z3b,z28,z1r,z2t,z15,z1h,z18,z21,z2u,z1o,z1j,z20,z1g,z19,z2h,z33,z4m,z48,z53,Fin.is_lt,z4j,z8o,z6z,fin5_6,fin5_7,z6h];first|done|(intro i hi;repeat' split)<;>simp_all),z1m,z1m,z1m⟩ ⟨rfl,rfl,Nat.le_of_ble_eq_true rfl,rfl⟩) ?_;refine Cs.reg [1,3,4,12,13,14] rfl ?_
       intro K hK;iterate 6 (refine zl z5 ?_)
       refine za (z8 (hK _ _ ?_));clear hK K;refine Cs.seq ?_;refine Cs.seq ?_
       have hnG:(hd (z7n (vls l) (E+1) E) E).rows.length=A.length:=by
        rw[hX]
       refine z27 [1,3,4,12,13,14,98] ?_;refine Cs.cond _ rfl ?_ ?_
       ·intro h98
        refine z1q [10,11] ?_;refine Cs.nilO 10 43 4 (hmR false 0 []) rfl ?_;dsimp only;refine Cs.fam0 45 2 (hmF true []) ?_;dsimp only;refine Cs.fam0 45 2 (hmF true []) ?_;dsimp only;refine Cs.ret ?_;refine hQ _ _ ?_;refine zm.mkR (fun q=>if q=2 then 5 else if q=3 then 6 else if q=4 then 7 else q) (.tup [.slc true 2 0 0 0,.int .i64 2]) (⟨5,[(2,Sk.one (.row ⟨true,false,43,4,0,fun i=>hmR false 0 [] i⟩)),(3,Sk.one (.row ⟨true,false,45,2,0,rws []⟩)),(4,Sk.one (.row ⟨true,false,45,2,0,rws []⟩))]⟩) (.inl rfl) ?_;refine zh ?_;refine⟨z1m,z1m,(z7h (fun q=>if q=2 then 5 else if q=3 then 6 else if q=4 then 7 else q)),z1m,?_⟩
        have hE:mvE (vls l) (E+1:Nat) E E c=2:=by
         rw[mvE,if_neg (by rw[h21];decide),hVl,if_neg (by rw[hk42];decide),if_pos];simp only[Int.toNat_natCast,nR,hnG];rw[←mvB_eq];exact h98
        exact⟨[],[],[],fun _=>(1,0),_,by rw[mvR,if_neg (by rw[hE];decide)];rfl,⟨Nat.zero_le _,fun x hx=>by cases hx⟩,fun i hi=>absurd hi (Nat.not_lt_zero _),fun i hi=>absurd hi (Nat.not_lt_zero _),by rw[hE];trivial,by trivial⟩
       ·intro h98;have hk98:=h98;simp only[Bool.or_eq_false_iff,decide_eq_false_iff_not] at h98;obtain⟨hc1,hc2⟩:=h98;obtain⟨C,rfl⟩:=Int.eq_ofNat_of_zero_le (show 0≤c by omega);obtain⟨N,hN⟩:∃N,N=A.length-C:=⟨_,rfl⟩
        have hE:mvE (vls l) (E+1:Nat) E E C=0:=by
         rw[mvE_iff];refine⟨h21,by rw[hVl];exact hbes,⟨by omega,by omega⟩,by omega,by omega,?_⟩;simp only[Int.toNat_natCast,nR,hnG];omega
        refine Cs.skip ?_;refine z1q [1,3,12,13,14,15] ?_;refine Cs.seq ?_;rw[show((A.length:Nat):Int)-(C:Int)=(N:Int) by omega];refine Cs.regDraw [1,3,12,13,14,15] [0,1,2,4,5,6,7,8,3,9,10,11,12,13] [[],[],[0,1],[0,1,2],[],[],[4,5],[4,5,6],[4,5,6,7],[0,1,2,3],[0,1,2,3,9],[0,1,2,3,4,5,6,7,8,9,10],[0,1,2,3,4,5,6,7,8,9,10,11],[0,1,2,3,4,5,6,7,8,9,10,11,12]] [[],[],[],[],[],[],[],[],[],[],[4],[],[],[4]] [[],[],[],[],[4],[4],[4],[4],[4],[],[4],[4],[4],[4]] Tryz.mo rfl rfl rfl (by kernel_rfl) (by kernel_rfl) (by kernel_rfl) rfl (by kernel_rfl) ?_;intro K hK;iterate 3 (refine zl (zf _ [] [] rfl rfl rfl) ?_)
        iterate 5 (refine zl (zf _ [] [4] rfl rfl rfl) ?_)
        iterate 2 (refine zl (zf _ [] [] rfl rfl rfl) ?_)
        refine zl (zf _ [4] [4] rfl rfl rfl) ?_;iterate 2 (refine zl (zf _ [] [4] rfl rfl rfl) ?_)
        refine zl (zf _ [4] [4] rfl rfl rfl) ?_;refine z2n (z8 (hK _ _ ?_));clear hK K;refine z1q [1,3,12,13] ?_;refine Cs.seq ?_;rw[z4d];refine Cs.give (H':=⟨6,[(5,Sk.one (.row ⟨true,true,43,4,1,fun _=>[.int .i64 (hm l (E+1)).nd.id,.str (ro A N).key,.int .u32 (hm l (E+1)).nd.word,.slc true 4 0 0 (A.length-N)]⟩)),(4,Sk.one (.row ⟨true,false,45,2,A.length-N,rws (A.drop N)⟩)),(3,Sk.one (.row ⟨true,false,45,2,A.length,rws A⟩)),(2,Sk.one (.row ⟨true,false,43,4,l.length,fun i'=>if i'=E then [.int .i64 (hm l E).nd.id,.str (hm l E).nd.key,.int .u32 (hm l E).nd.word,.slc true 3 0 0 N] else if i'=E then [.int .i64 (hm l E).nd.id,.str (hm l E).nd.key,.int .u32 (hm l E).nd.word,.slc true 3 0 0 A.length] else [.int .i64 (hm l i').nd.id,.str (hm l i').nd.key,.int .u32 (hm l i').nd.word,.slc false 1 (i'+1) (hm l i').off (hm l i').n]⟩))]⟩) (fr':=[(1,.int .i64 (E+1:Nat)),(3,.int .i64 E),(12,.slc true 2 0 0 l.length),(13,.ptr 5 0 0 0)]) (fun q=>if q=4 then 5 else if q=5 then 4 else q) (gvS (fun q=>if q=4 then 5 else if q=5 then 4 else q) ⟨z1m,(by simp[z1b,Sk.find,Sk.one,zb.eq_1,zb.eq_2,zb.eq_3,zo,SV.renL,SV.ren,Obj.lt_row,SV.ltL,SV.lt,z1e,zn,zr,z1w,nds,Nd.sv,z14,zx,z3a,z3b,z28,z1r,z2t,z15,z1h,z18,z21,z2u,z1o,z1j,z20,z1g,z19,z2h,z33,z4m,z48,z53,Fin.is_lt,z4j,z8o,z6z,fin5_6,fin5_7,z6h];first|done|(intro i hi;repeat' split)<;>simp_all),z1m,z1m,z1m⟩ ⟨rfl,rfl,Nat.le_of_ble_eq_true rfl,rfl⟩) ?_
        obtain⟨B,hB⟩:∃B,B=A.drop N:=⟨_,rfl⟩;have hBl:B.length=A.length-N:=by rw[hB,List.length_drop]
        rw[←hB,←hBl];obtain⟨x,hx⟩:∃x,x=z54 (hd (vls l) (E+1)).nd (ro (hd (z7n (vls l) (E+1) E) E).rows N).key:=⟨_,rfl⟩
        have hxe:x=⟨(hm l (E+1)).nd.id,(ro A N).key,(hm l (E+1)).nd.word⟩:=by
         rw[hx,z4z,hX]
         rfl
        have hBr:B=(hd (z7n (vls l) (E+1) E) E).rows.drop N:=by
         rw[hB,hX]
        obtain⟨f,hf⟩:∃f,f=mvF (mvX l E ((hm l E).nd) A) l.length E N x B:=⟨_,rfl⟩;obtain⟨μ,hμ⟩:∃μ,μ=mvM l.length E:=⟨_,rfl⟩;have hm2:∀i,(μ i).1.val≠2:=fun i=>by rw[hμ];exact mvM_ne _ _ _
        refine Cs.wkRow 5 (fun _=>[.int .i64 (f l.length).nd.id,.str (f l.length).nd.key,.int .u32 (f l.length).nd.word,.slc false (μ l.length).1.val (μ l.length).2 (f l.length).off (f l.length).n]) rfl rfl (fun q hq=>z74 _ _ (f l.length).nd (μ l.length).1.val (μ l.length).2 (f l.length).off (f l.length).n (by rw[hf,hμ,mvF_n,mvM_n,hxe];rfl) (by rw[hf,mvF_n]) (by rw[hμ,mvM_n]) rfl (Nat.lt_of_lt_of_le (μ l.length).1.isLt (Nat.le_of_ble_eq_true rfl))) ?_;simp only[z44,↓reduceIte,Sk.one,Nat.reduceEqDiff];refine Cs.wkRow 2 (fun i=>[.int .i64 (f i).nd.id,.str (f i).nd.key,.int .u32 (f i).nd.word,.slc false (μ i).1.val (μ i).2 (f i).off (f i).n]) rfl rfl (fun q hq=> ?_) ?_
        ·have hql:¬q=l.length:=fun e=>by dsimp only at hq;omega
         dsimp only
         by_cases e:q=E
         ·rw[e];rw[e] at hql;exact z74 _ _ (f E).nd (μ E).1.val (μ E).2 (f E).off (f E).n (by rw[hf,hμ];simp only[mvF,mvM,mvX,if_neg hql,if_true];simp[Hm.n,z54];first|done|rfl|(exact⟨rfl,by omega⟩)) (by rw[hf];simp only[mvF,mvX,if_neg hql,if_true]) (by rw[hμ];simp only[mvM,if_neg hql,if_true]) rfl (Nat.lt_of_lt_of_le (μ E).1.isLt (Nat.le_of_ble_eq_true rfl))
         ·refine cell4_wk _ _ (f q).nd (μ q).1.val (μ q).2 (f q).off (f q).n ?_ rfl (Nat.lt_of_lt_of_le (μ q).1.isLt (Nat.le_of_ble_eq_true rfl));rw[hf,hμ];simp only[mvF,mvM,mvX,if_neg hql,if_neg e];rfl
        simp only[z44,↓reduceIte,Sk.one,Nat.reduceEqDiff];refine z27 [1,3,12,13,16] ?_;refine Cs.seq ?_;refine z1q [1,3,13,16,123,124,125] ?_;refine Cs.nilO 16 43 4 (oxM f μ []) rfl ?_;dsimp only;refine Cs.block ?_;intro Q0 hN0 hX0 hR0 hE0;refine Cs.loop (σ:=Nat×List Nat) (fun σ=>σ.1≤l.length∧σ.2=idxO (E+1) E l.length σ.1∧σ.2.length≤2*σ.1) (fun σ=>l.length-σ.1) (fun σ=>[(1,.int .i64 (E+1:Nat)),(3,.int .i64 E),(13,.ptr 5 0 0 0),(16,.slc true 6 0 0 σ.2.length),(123,.slc true 2 0 0 l.length),(124,.int .i64 l.length),(125,.int .i64 σ.1)]) (fun σ=>⟨7,[(6,Sk.one (.row ⟨true,false,43,4,σ.2.length,oxM f μ σ.2⟩)),(5,Sk.one (.row ⟨true,true,43,4,1,fun _=>[.int .i64 (f l.length).nd.id,.str (f l.length).nd.key,.int .u32 (f l.length).nd.word,.slc false (μ l.length).1.val (μ l.length).2 (f l.length).off (f l.length).n]⟩)),(4,Sk.one (.row ⟨true,false,45,2,B.length,rws B⟩)),(3,Sk.one (.row ⟨true,false,45,2,A.length,rws A⟩)),(2,Sk.one (.row ⟨true,false,43,4,l.length,fun i=>[.int .i64 (f i).nd.id,.str (f i).nd.key,.int .u32 (f i).nd.word,.slc false (μ i).1.val (μ i).2 (f i).off (f i).n]⟩))]⟩) (0,[]) ⟨Nat.zero_le _,rfl,Nat.zero_le _⟩ (ρ:=id) (z7h id) ?_;rintro⟨i,idx⟩ hi QL1 hL1 hRL1 hEL1;refine z1q [1,3,13,16,123,124,125,126] ?_;refine Cs.seq ?_;refine Cs.cond _ rfl ?_ ?_
        ·intro h126;replace h126:=z6 h126;obtain⟨hi1,hi2,hi3⟩:=hi;dsimp only at hi1 hi2 hi3;refine Cs.skip ?_;refine Cs.seq ?_;refine Cs.block ?_;intro Q1 hN1 hX1 hR1 hE1;refine z1q [1,3,13,16,17,18,123,124,125] ?_;refine Cs.seq ?_;refine z1q [1,3,13,16,17,18,123,124,125,132] ?_;refine Cs.cond _ rfl ?_ ?_
         ·intro h132;replace h132:=z6 h132;refine z27 [1,3,13,16,17,123,124,125] ?_;refine Cs.seq ?_;refine Cs.wkRow 9 (oxM f μ (idx++[i])) rfl rfl (fun q hq=>oxM_wk (Nat.le_of_ble_eq_true rfl) f μ idx i q hq) ?_;simp only[z44,↓reduceIte,Sk.one,Nat.reduceEqDiff];refine z27 [1,3,13,16,123,124,125,139] ?_;refine Cs.cond _ rfl ?_ ?_
          ·intro h139;replace h139:=z6 h139;refine z27 [1,3,13,16,123,124,125] ?_;refine Cs.nil ?_;refine hN1 _ _ ?_;rw[show idx.length+1=(idx++[i]).length by simp];refine Cs.wkRow 11 (oxM f μ ((idx++[i])++[l.length])) rfl rfl (fun q hq=>oxM_wk (Nat.le_of_ble_eq_true rfl) f μ (idx++[i]) l.length q hq) ?_;simp only[z44,↓reduceIte,Sk.one,Nat.reduceEqDiff];refine z27 [1,3,13,16,123,124,125] ?_;refine Cs.nil ?_;refine hL1 _ _ ?_;rw[show(i:Int)+1=((i+1:Nat):Int) from by omega];exact⟨(i+1,(idx++[i])++[l.length]),⟨⟨by dsimp only;omega,by dsimp only;rw[idxO,←hi2,if_neg (by omega),if_pos (by omega)],by simp only[List.length_append,List.length_singleton];omega⟩,by dsimp only;omega⟩,fun q=>if q=6 then 11 else q,(zi (fun q=>if q=6 then 11 else q))⟩
          ·intro h139;replace h139:=z6 h139;refine Cs.skip ?_;refine Cs.nil ?_;refine hN1 _ _ ?_;refine z27 [1,3,13,16,123,124,125] ?_;refine Cs.nil ?_;refine hL1 _ _ ?_;rw[show(i:Int)+1=((i+1:Nat):Int) from by omega];exact⟨(i+1,(idx++[i])),⟨⟨by dsimp only;omega,by dsimp only;rw[idxO,←hi2,if_neg (by omega),if_neg (by omega),List.append_nil],by simp only[List.length_append,List.length_singleton];omega⟩,by dsimp only;omega⟩,fun q=>if q=6 then 9 else q,(zi (fun q=>if q=6 then 9 else q))⟩
         ·intro h132;replace h132:=z6 h132;refine Cs.skip ?_;refine z1q [1,3,13,16,123,124,125,139] ?_;refine Cs.cond _ rfl ?_ ?_
          ·intro h139;replace h139:=z6 h139;refine z27 [1,3,13,16,123,124,125] ?_;refine Cs.nil ?_;refine hN1 _ _ ?_;refine Cs.wkRow 9 (oxM f μ (idx++[l.length])) rfl rfl (fun q hq=>oxM_wk (Nat.le_of_ble_eq_true rfl) f μ idx l.length q hq) ?_;simp only[z44,↓reduceIte,Sk.one,Nat.reduceEqDiff];refine z27 [1,3,13,16,123,124,125] ?_;refine Cs.nil ?_;refine hL1 _ _ ?_;rw[show(i:Int)+1=((i+1:Nat):Int) from by omega];exact⟨(i+1,idx++[l.length]),⟨⟨by dsimp only;omega,by dsimp only;rw[idxO,←hi2,if_pos (by omega),if_pos (by omega),List.append_nil],by simp only[List.length_append,List.length_singleton];omega⟩,by dsimp only;omega⟩,fun q=>if q=6 then 9 else q,(zi (fun q=>if q=6 then 9 else q))⟩
          ·intro h139;replace h139:=z6 h139;refine Cs.skip ?_;refine Cs.nil ?_;refine hN1 _ _ ?_;refine z27 [1,3,13,16,123,124,125] ?_;refine Cs.nil ?_;refine hL1 _ _ ?_;rw[show(i:Int)+1=((i+1:Nat):Int) from by omega];exact⟨(i+1,idx),⟨⟨by dsimp only;omega,by dsimp only;rw[idxO,←hi2,if_pos (by omega),if_neg (by omega),List.append_nil,List.append_nil],by simp only[List.length_append,List.length_singleton];omega⟩,by dsimp only;omega⟩,id,(z7h id)⟩
        ·intro h126;replace h126:=z6 h126;obtain⟨hi1,hi2,hi3⟩:=hi;dsimp only at hi1 hi2 hi3;refine Cs.exit ?_;refine hEL1 _ _ _ ?_;refine hX0 _ _ ?_;refine Cs.seq ?_;have hin:i=l.length:=by omega
         subst hin
         have hil:idx.length=l.length:=by
          have:=idxO_len (E+1) E l.length l.length;rw[if_pos (by omega),if_pos (by omega)] at this;rw[hi2];omega
         rw[hil];obtain⟨f1,hf1⟩:∃f1:Nat→Hm,∀q,f1 q=f (idx.getD q 0):=⟨_,fun _=>rfl⟩;obtain⟨μ1,hm1⟩:∃μ1:Nat→Fin 5×Nat,∀q,μ1 q=μ (idx.getD q 0):=⟨_,fun _=>rfl⟩;have hm3:∀i,(μ1 i).1.val≠2:=fun i=>by rw[hm1];exact hm2 _
         have hox:∀q,oxM f μ idx q=[.int .i64 (f1 q).nd.id,.str (f1 q).nd.key,.int .u32 (f1 q).nd.word,.slc false (μ1 q).1.val (μ1 q).2 (f1 q).off (f1 q).n]:=fun q=>by rw[hf1,hm1];rfl
         refine Cs.give (H':=⟨5,[(2,Sk.one (.row ⟨true,false,43,4,l.length,fun i=>[.int .i64 (f1 i).nd.id,.str (f1 i).nd.key,.int .u32 (f1 i).nd.word,.slc false (μ1 i).1.val (μ1 i).2 (f1 i).off (f1 i).n]⟩)),(3,Sk.one (.row ⟨true,false,45,2,A.length,rws A⟩)),(4,Sk.one (.row ⟨true,false,45,2,B.length,rws B⟩))]⟩) (fr':=[(16,.slc true 2 0 0 l.length)]) (fun q=>if q=2 then 6 else q) (gvS (fun q=>if q=2 then 6 else q) ⟨z1m,(by simp[z1b,Sk.find,Sk.one,zb.eq_1,zb.eq_2,zb.eq_3,zo,SV.renL,SV.ren,Obj.lt_row,SV.ltL,SV.lt,z1e,zn,zr,z1w,nds,Nd.sv,z14,zx,z3a,z3b,z28,z1r,z2t,z15,z1h,z18,z21,z2u,z1o,z1j,z20,z1g,z19,z2h,z33,z4m,z48,z53,Fin.is_lt,z4j,z8o,z6z,fin5_6,fin5_7,z6h];exact fun q _=>by rw[hox,if_neg (hm3 q)]),z1m,z1m,z1m⟩ ⟨rfl,rfl,Nat.le_of_ble_eq_true rfl,rfl⟩) ?_;obtain⟨hvls,hHB,hRes⟩:=mv_plain (C:=C) hb hDl hEl hGl hX (by omega) (by rw[hnG];exact hN) hBr hx (f1:=f1) (fun q=>by rw[hf1,hf,hi2]) (μ1:=μ1) (fun q=>by rw[hm1,hμ,hi2]);refine Cs.reg [10,11] rfl ?_;intro K hK;refine zl z5 ?_;refine zl z5 ?_;refine MwBm.c1 (z81 f1 μ1 l.length (by omega)) (id) ?_;iterate 2 (refine zl z5 ?_)
         refine za (z8 (hK _ _ ?_));clear hK K;refine Cs.ret ?_;refine hQ _ _ ?_;refine zm.mk (H':=⟨5,[(2,Sk.one (.row ⟨true,false,43,4,l.length,fun i=>[.int .i64 (f1 i).nd.id,.str (if i=0 then⟨#[]⟩ else(f1 i).nd.key),.int .u32 (f1 i).nd.word,.slc false (μ1 i).1.val (μ1 i).2 (f1 i).off (f1 i).n]⟩)),(3,Sk.one (.row ⟨true,false,45,2,A.length,rws A⟩)),(4,Sk.one (.row ⟨true,false,45,2,B.length,rws B⟩))]⟩) (.inl rfl) ?_;refine zh ?_;refine⟨z1m,(z7h id),z1m,?_⟩;refine⟨fstM (hmk l.length f1),A,B,μ1,_,?_,hHB.fst,hRes.fst,fun i hi=>muR_fst _ _ _ (by rwa [z2i,z3p] at hi),?_,?_⟩
         ·rw[mvR,if_pos hE,z7z,hvls];simp only[Int.toNat_natCast]
         ·rw[hE,z2i,z3p]
         ·rw[z2i,z3p]
      refine zl (z9 _ [] [] [] rfl rfl rfl rfl) ?_;refine zl (z9 _ [] [] [] rfl rfl rfl rfl) ?_;refine zl (z9 _ [] [] [] rfl rfl rfl rfl) ?_;refine zl (z9 _ [] [] [] rfl rfl rfl rfl) ?_;refine zl (z9 _ [] [] [] rfl rfl rfl rfl) ?_;refine zl (z9 _ [] [] [] rfl rfl rfl rfl) ?_;refine zl (z9 _ [] [] [] rfl rfl rfl rfl) ?_;refine zl (z9 _ [] [] [] rfl rfl rfl rfl) ?_;refine zl (z9 _ [] [] [] rfl rfl rfl rfl) ?_;refine zl (z9 _ [] [] [] rfl rfl rfl rfl) ?_;refine zl (z9 _ [0,1,2,3,4] [] [] rfl rfl rfl rfl) ?_;refine zl (z9 _ [] [] [] rfl rfl rfl rfl) ?_;refine zl (z9 _ [] [] [] rfl rfl rfl rfl) ?_;refine zl (z9 _ [2] [2] [] rfl rfl rfl rfl) ?_;refine z12 ?_;refine z8 ?_;rw[z4d,z4d,z7w (by rw[List.length_drop];omega)];exact hG _ _ _ _ id (z7h id) hk10
     ·skip
      refine Cs.regTree [1,3,4,12,13] (.op 0 (.op 1 (.op 2 (.op 3 (.op 4 (.op 5 (.op 6 (.op 8 (.op 9 (.op 7 (.op 10 (.op 11 (.op 12 (.op 13 .done)))))))))))))) [[],[],[],[],[2,3],[2,3,4],[2,3,4,5],[2,3,4,5,6],[],[8],[2,3,4,5,6,7,8,9],[0,1,2,3,4,5,6,7,8,9,10],[0,1,2,3,4,5,6,7,8,9,10,11],[0,1,2,3,4,5,6,7,8,9,10,11,12]] [[],[],[],[],[],[],[],[],[],[],[999999],[],[],[2]] [[],[],[],[],[],[],[],[],[],[],[],[],[],[2]] Tryz.mo rfl rfl (by kernel_rfl) (by kernel_rfl) (by kernel_rfl) rfl (by kernel_rfl) ?_;intro K hK hG
      have hk10:K [(1,.int .i64 (E+1:Nat)),(3,.int .i64 G),(4,.int .i64 c),(12,.slc true 2 0 0 l.length),(13,.ptr 3 0 0 0)] ⟨6,[(5,Sk.one (.row ⟨true,false,45,2,(hm l E).n+(hm l (E+1)).n,rws ((hm l E).full.drop (hm l E).off++(hm l (E+1)).full.drop (hm l (E+1)).off)⟩)),(3,Sk.one (.row ⟨true,true,43,4,1,fun _=>[.int .i64 (hm l (E+1)).nd.id,.str (hm l (E+1)).nd.key,.int .u32 (hm l (E+1)).nd.word,.slc false 1 ((E+1)+1) (hm l (E+1)).off (hm l (E+1)).n]⟩)),(2,Sk.one (.row ⟨true,false,43,4,l.length,fun q=>if q=E then [.int .i64 (hm l E).nd.id,.str (hm l E).nd.key,.int .u32 (hm l E).nd.word,.slc true 5 0 0 ((hm l E).n+(hm l (E+1)).n)] else [.int .i64 (hm l q).nd.id,.str (hm l q).nd.key,.int .u32 (hm l q).nd.word,.slc false 1 (q+1) (hm l q).off (hm l q).n]⟩)),(0,Sk.one (.row ⟨false,false,43,4,l.length,hmR false 1 l⟩)),(1,(l.length+1,fam false 45 2 (hmF false l)))]⟩:=by
       refine hK _ _ ?_;clear hG hK K;refine Cs.seq ?_;obtain⟨A,hA⟩:∃A,A=(hm l E).full.drop (hm l E).off++(hm l (E+1)).full.drop (hm l (E+1)).off:=⟨_,rfl⟩;have hAl:A.length=(hm l E).n+(hm l (E+1)).n:=by rw[hA,List.length_append,List.length_drop,List.length_drop];rfl
       rw[←hA,←hAl];have hDl:(E+1)<l.length:=by omega
       have hEl:E<l.length:=by omega
       have hGl:G<l.length:=by omega
       have hX:hd (z7n (vls l) (E+1) E) E=⟨(hm l E).nd,A⟩:=by
        rw[mrg_hd (by rw[z1v];exact hEl),if_pos rfl,if_neg (by omega),z4z,z4z,hA];rfl
       refine Cs.give (H':=⟨5,[(4,Sk.one (.row ⟨true,true,43,4,1,fun _=>[.int .i64 (hm l (E+1)).nd.id,.str (hm l (E+1)).nd.key,.int .u32 (hm l (E+1)).nd.word,.slc false 1 ((E+1)+1) (hm l (E+1)).off (hm l (E+1)).n]⟩)),(3,Sk.one (.row ⟨true,false,45,2,A.length,rws A⟩)),(2,Sk.one (.row ⟨true,false,43,4,l.length,fun q=>if q=E then [.int .i64 (hm l E).nd.id,.str (hm l E).nd.key,.int .u32 (hm l E).nd.word,.slc true 3 0 0 A.length] else [.int .i64 (hm l q).nd.id,.str (hm l q).nd.key,.int .u32 (hm l q).nd.word,.slc false 1 (q+1) (hm l q).off (hm l q).n]⟩)),(1,(l.length+1,fam false 45 2 (hmF false l)))]⟩) (fr':=[(1,.int .i64 (E+1:Nat)),(3,.int .i64 G),(4,.int .i64 c),(12,.slc true 2 0 0 l.length),(13,.ptr 4 0 0 0)]) (fun q=>if q=3 then 5 else if q=4 then 3 else q) (gvS (fun q=>if q=3 then 5 else if q=4 then 3 else q) ⟨z1m,(by simp[z1b,Sk.find,Sk.one,zb.eq_1,zb.eq_2,zb.eq_3,zo,SV.renL,SV.ren,Obj.lt_row,SV.ltL,SV.lt,z1e,zn,zr,z1w,nds,Nd.sv,z14,zx,z3a,z3b,z28,z1r,z2t,z15,z1h,z18,z21,z2u,z1o,z1j,z20,z1g,z19,z2h,z33,z4m,z48,z53,Fin.is_lt,z4j,z8o,z6z,fin5_6,fin5_7,z6h];first|done|(intro i hi;repeat' split)<;>simp_all),z1m,z1m,z1m⟩ ⟨rfl,rfl,Nat.le_of_ble_eq_true rfl,rfl⟩) ?_;refine Cs.reg [1,3,4,12,13,14] rfl ?_
       intro K hK;iterate 5 (refine zl z5 ?_)
       rw[if_neg (fun e=>hGE e.symm)];simp only[List.getElem?_cons_succ,List.getElem?_cons_zero];repeat(with_reducible apply ai;exact z7)
       refine zl z5 ?_;refine za (z8 (hK _ _ ?_));clear hK K;refine Cs.seq ?_;refine Cs.seq ?_
       have hnG:(hd (z7n (vls l) (E+1) E) G).rows.length=(hm l G).n:=by
        rw[mrg_hd (by rw[z1v];exact hEl),if_neg (fun e=>hGE e.symm),z7s]
       have hGb:(hm l G).n≤3000∧(hm l G).off+(hm l G).n=(hm l G).full.length:=by have:=hb.at G;simp only[Hm.n];omega
       refine z27 [1,3,4,12,13,14,98] ?_;refine Cs.cond _ rfl ?_ ?_
       ·intro h98
        refine z1q [10,11] ?_;refine Cs.nilO 10 43 4 (hmR false 0 []) rfl ?_;dsimp only;refine Cs.fam0 45 2 (hmF true []) ?_;dsimp only;refine Cs.fam0 45 2 (hmF true []) ?_;dsimp only;refine Cs.ret ?_;refine hQ _ _ ?_;refine zm.mkR (fun q=>if q=2 then 5 else if q=3 then 6 else if q=4 then 7 else q) (.tup [.slc true 2 0 0 0,.int .i64 2]) (⟨5,[(2,Sk.one (.row ⟨true,false,43,4,0,fun i=>hmR false 0 [] i⟩)),(3,Sk.one (.row ⟨true,false,45,2,0,rws []⟩)),(4,Sk.one (.row ⟨true,false,45,2,0,rws []⟩))]⟩) (.inl rfl) ?_;refine zh ?_;refine⟨z1m,z1m,(z7h (fun q=>if q=2 then 5 else if q=3 then 6 else if q=4 then 7 else q)),z1m,?_⟩
        have hE:mvE (vls l) (E+1:Nat) E G c=2:=by
         rw[mvE,if_neg (by rw[h21];decide),hVl,if_neg (by rw[hk42];decide),if_pos];simp only[Int.toNat_natCast,nR,hnG];rw[←mvB_eq];exact h98
        exact⟨[],[],[],fun _=>(1,0),_,by rw[mvR,if_neg (by rw[hE];decide)];rfl,⟨Nat.zero_le _,fun x hx=>by cases hx⟩,fun i hi=>absurd hi (Nat.not_lt_zero _),fun i hi=>absurd hi (Nat.not_lt_zero _),by rw[hE];trivial,by trivial⟩
       ·intro h98;have hk98:=h98;simp only[Bool.or_eq_false_iff,decide_eq_false_iff_not] at h98;obtain⟨hc1,hc2⟩:=h98;obtain⟨C,rfl⟩:=Int.eq_ofNat_of_zero_le (show 0≤c by omega);obtain⟨N,hN⟩:∃N,N=(hm l G).n-C:=⟨_,rfl⟩
        have hE:mvE (vls l) (E+1:Nat) E G C=0:=by
         rw[mvE_iff];refine⟨h21,by rw[hVl];exact hbes,⟨by omega,by omega⟩,by omega,by omega,?_⟩;simp only[Int.toNat_natCast,nR,hnG];omega
        refine Cs.skip ?_;refine z1q [1,3,12,13,14,15] ?_;refine Cs.seq ?_;rw[show(((hm l G).n:Nat):Int)-(C:Int)=(N:Int) by omega];refine Cs.regDraw [1,3,12,13,14,15] [0,1,2,4,5,6,7,8,3,9,10,11,12,13] [[],[],[0,1],[0,1,2],[],[],[4,5],[4,5,6],[4,5,6,7],[0,1,2,3],[0,1,2,3,9],[0,1,2,3,4,5,6,7,8,9,10],[0,1,2,3,4,5,6,7,8,9,10,11],[0,1,2,3,4,5,6,7,8,9,10,11,12]] [[],[],[],[],[],[],[],[],[],[],[4],[],[],[4]] [[],[],[],[],[4],[4],[4],[4],[4],[],[4],[4],[4],[4]] Tryz.mo rfl rfl rfl (by kernel_rfl) (by kernel_rfl) (by kernel_rfl) rfl (by kernel_rfl) ?_;intro K hK;iterate 3 (refine zl (zf _ [] [] rfl rfl rfl) ?_)
        iterate 5 (refine zl (zf _ [] [4] rfl rfl rfl) ?_)
        iterate 2 (refine zl (zf _ [] [] rfl rfl rfl) ?_)
        refine zl (zf _ [4] [4] rfl rfl rfl) ?_;iterate 2 (refine zl (zf _ [] [4] rfl rfl rfl) ?_)
        refine zl (zf _ [4] [4] rfl rfl rfl) ?_;refine z2n (z8 (hK _ _ ?_));clear hK K;refine z1q [1,3,12,13] ?_;refine Cs.seq ?_;rw[z4d];refine Cs.give (H':=⟨6,[(5,Sk.one (.row ⟨true,true,43,4,1,fun _=>[.int .i64 (hm l (E+1)).nd.id,.str (ro (hm l G).full ((hm l G).off+N)).key,.int .u32 (hm l (E+1)).nd.word,.slc true 4 0 0 ((hm l G).n-N)]⟩)),(4,Sk.one (.row ⟨true,false,45,2,(hm l G).n-N,rws ((hm l G).full.drop ((hm l G).off+N))⟩)),(3,Sk.one (.row ⟨true,false,45,2,A.length,rws A⟩)),(2,Sk.one (.row ⟨true,false,43,4,l.length,fun i'=>if i'=G then [.int .i64 (hm l G).nd.id,.str (hm l G).nd.key,.int .u32 (hm l G).nd.word,.slc false 1 (G+1) (hm l G).off N] else if i'=E then [.int .i64 (hm l E).nd.id,.str (hm l E).nd.key,.int .u32 (hm l E).nd.word,.slc true 3 0 0 A.length] else [.int .i64 (hm l i').nd.id,.str (hm l i').nd.key,.int .u32 (hm l i').nd.word,.slc false 1 (i'+1) (hm l i').off (hm l i').n]⟩))]⟩) (fr':=[(1,.int .i64 (E+1:Nat)),(3,.int .i64 G),(12,.slc true 2 0 0 l.length),(13,.ptr 5 0 0 0)]) (fun q=>if q=4 then 5 else if q=5 then 4 else q) (gvS (fun q=>if q=4 then 5 else if q=5 then 4 else q) ⟨z1m,(by simp[z1b,Sk.find,Sk.one,zb.eq_1,zb.eq_2,zb.eq_3,zo,SV.renL,SV.ren,Obj.lt_row,SV.ltL,SV.lt,z1e,zn,zr,z1w,nds,Nd.sv,z14,zx,z3a,z3b,z28,z1r,z2t,z15,z1h,z18,z21,z2u,z1o,z1j,z20,z1g,z19,z2h,z33,z4m,z48,z53,Fin.is_lt,z4j,z8o,z6z,fin5_6,fin5_7,z6h];first|done|(intro i hi;repeat' split)<;>simp_all),z1m,z1m,z1m⟩ ⟨rfl,rfl,Nat.le_of_ble_eq_true rfl,rfl⟩) ?_
        obtain⟨B,hB⟩:∃B,B=(hm l G).full.drop ((hm l G).off+N):=⟨_,rfl⟩;have hBl:B.length=(hm l G).n-N:=by rw[hB,List.length_drop];omega
        rw[←hB,←hBl];obtain⟨x,hx⟩:∃x,x=z54 (hd (vls l) (E+1)).nd (ro (hd (z7n (vls l) (E+1) E) G).rows N).key:=⟨_,rfl⟩
        have hxe:x=⟨(hm l (E+1)).nd.id,(ro (hm l G).full ((hm l G).off+N)).key,(hm l (E+1)).nd.word⟩:=by
         rw[hx,z4z,mrg_hd (by rw[z1v];exact hEl),if_neg (fun e=>hGE e.symm),rows_vls];rw[Hm.rows,ro_drop];rfl
        have hBr:B=(hd (z7n (vls l) (E+1) E) G).rows.drop N:=by
         rw[hB,mrg_hd (by rw[z1v];exact hEl),if_neg (fun e=>hGE e.symm),rows_vls,Hm.rows,List.drop_drop]
        obtain⟨f,hf⟩:∃f,f=mvF (mvX l E ((hm l E).nd) A) l.length G N x B:=⟨_,rfl⟩;obtain⟨μ,hμ⟩:∃μ,μ=mvM l.length E:=⟨_,rfl⟩;have hm2:∀i,(μ i).1.val≠2:=fun i=>by rw[hμ];exact mvM_ne _ _ _
        refine Cs.wkRow 5 (fun _=>[.int .i64 (f l.length).nd.id,.str (f l.length).nd.key,.int .u32 (f l.length).nd.word,.slc false (μ l.length).1.val (μ l.length).2 (f l.length).off (f l.length).n]) rfl rfl (fun q hq=>z74 _ _ (f l.length).nd (μ l.length).1.val (μ l.length).2 (f l.length).off (f l.length).n (by rw[hf,hμ,mvF_n,mvM_n,hxe];rfl) (by rw[hf,mvF_n]) (by rw[hμ,mvM_n]) rfl (Nat.lt_of_lt_of_le (μ l.length).1.isLt (Nat.le_of_ble_eq_true rfl))) ?_;simp only[z44,↓reduceIte,Sk.one,Nat.reduceEqDiff];refine Cs.wkRow 2 (fun i=>[.int .i64 (f i).nd.id,.str (f i).nd.key,.int .u32 (f i).nd.word,.slc false (μ i).1.val (μ i).2 (f i).off (f i).n]) rfl rfl (fun q hq=> ?_) ?_
        ·have hql:¬q=l.length:=fun e=>by dsimp only at hq;omega
         dsimp only
         by_cases e:q=E
         ·rw[e];rw[e] at hql;exact z74 _ _ (f E).nd (μ E).1.val (μ E).2 (f E).off (f E).n (by rw[hf,hμ];simp only[mvF,mvM,mvX,if_neg hql,if_neg hGE,if_true];simp[Hm.n,z54];first|done|rfl|(exact⟨rfl,by omega⟩)) (by rw[hf];simp only[mvF,mvX,if_neg hql,if_neg hGE,if_true]) (by rw[hμ];simp only[mvM,if_neg hql,if_true]) rfl (Nat.lt_of_lt_of_le (μ E).1.isLt (Nat.le_of_ble_eq_true rfl))
         ·refine cell4_wk _ _ (f q).nd (μ q).1.val (μ q).2 (f q).off (f q).n ?_ rfl (Nat.lt_of_lt_of_le (μ q).1.isLt (Nat.le_of_ble_eq_true rfl));rw[hf,hμ]
          by_cases g:q=G
          ·subst g;simp only[mvF,mvM,mvX,if_neg hql,if_neg e,if_true,Hm.n,List.length_take];rw[show min ((hm l q).off+N) (hm l q).full.length-(hm l q).off=N by have:=hb.at q;simp only[Hm.n] at*;omega];rfl
          ·simp only[mvF,mvM,mvX,if_neg hql,if_neg e,if_neg g];rfl
        simp only[z44,↓reduceIte,Sk.one,Nat.reduceEqDiff];refine z27 [1,3,12,13,16] ?_;refine Cs.seq ?_;refine z1q [1,3,13,16,123,124,125] ?_;refine Cs.nilO 16 43 4 (oxM f μ []) rfl ?_;dsimp only;refine Cs.block ?_;intro Q0 hN0 hX0 hR0 hE0;refine Cs.loop (σ:=Nat×List Nat) (fun σ=>σ.1≤l.length∧σ.2=idxO (E+1) G l.length σ.1∧σ.2.length≤2*σ.1) (fun σ=>l.length-σ.1) (fun σ=>[(1,.int .i64 (E+1:Nat)),(3,.int .i64 G),(13,.ptr 5 0 0 0),(16,.slc true 6 0 0 σ.2.length),(123,.slc true 2 0 0 l.length),(124,.int .i64 l.length),(125,.int .i64 σ.1)]) (fun σ=>⟨7,[(6,Sk.one (.row ⟨true,false,43,4,σ.2.length,oxM f μ σ.2⟩)),(5,Sk.one (.row ⟨true,true,43,4,1,fun _=>[.int .i64 (f l.length).nd.id,.str (f l.length).nd.key,.int .u32 (f l.length).nd.word,.slc false (μ l.length).1.val (μ l.length).2 (f l.length).off (f l.length).n]⟩)),(4,Sk.one (.row ⟨true,false,45,2,B.length,rws B⟩)),(3,Sk.one (.row ⟨true,false,45,2,A.length,rws A⟩)),(2,Sk.one (.row ⟨true,false,43,4,l.length,fun i=>[.int .i64 (f i).nd.id,.str (f i).nd.key,.int .u32 (f i).nd.word,.slc false (μ i).1.val (μ i).2 (f i).off (f i).n]⟩))]⟩) (0,[]) ⟨Nat.zero_le _,rfl,Nat.zero_le _⟩ (ρ:=id) (z7h id) ?_;rintro⟨i,idx⟩ hi QL1 hL1 hRL1 hEL1;refine z1q [1,3,13,16,123,124,125,126] ?_;refine Cs.seq ?_;refine Cs.cond _ rfl ?_ ?_
        ·intro h126;replace h126:=z6 h126;obtain⟨hi1,hi2,hi3⟩:=hi;dsimp only at hi1 hi2 hi3;refine Cs.skip ?_;refine Cs.seq ?_;refine Cs.block ?_;intro Q1 hN1 hX1 hR1 hE1;refine z1q [1,3,13,16,17,18,123,124,125] ?_;refine Cs.seq ?_;refine z1q [1,3,13,16,17,18,123,124,125,132] ?_;refine Cs.cond _ rfl ?_ ?_
         ·intro h132;replace h132:=z6 h132;refine z27 [1,3,13,16,17,123,124,125] ?_;refine Cs.seq ?_;refine Cs.wkRow 9 (oxM f μ (idx++[i])) rfl rfl (fun q hq=>oxM_wk (Nat.le_of_ble_eq_true rfl) f μ idx i q hq) ?_;simp only[z44,↓reduceIte,Sk.one,Nat.reduceEqDiff];refine z27 [1,3,13,16,123,124,125,139] ?_;refine Cs.cond _ rfl ?_ ?_
          ·intro h139;replace h139:=z6 h139;refine z27 [1,3,13,16,123,124,125] ?_;refine Cs.nil ?_;refine hN1 _ _ ?_;rw[show idx.length+1=(idx++[i]).length by simp];refine Cs.wkRow 11 (oxM f μ ((idx++[i])++[l.length])) rfl rfl (fun q hq=>oxM_wk (Nat.le_of_ble_eq_true rfl) f μ (idx++[i]) l.length q hq) ?_;simp only[z44,↓reduceIte,Sk.one,Nat.reduceEqDiff];refine z27 [1,3,13,16,123,124,125] ?_;refine Cs.nil ?_;refine hL1 _ _ ?_;rw[show(i:Int)+1=((i+1:Nat):Int) from by omega];exact⟨(i+1,(idx++[i])++[l.length]),⟨⟨by dsimp only;omega,by dsimp only;rw[idxO,←hi2,if_neg (by omega),if_pos (by omega)],by simp only[List.length_append,List.length_singleton];omega⟩,by dsimp only;omega⟩,fun q=>if q=6 then 11 else q,(zi (fun q=>if q=6 then 11 else q))⟩
          ·intro h139;replace h139:=z6 h139;refine Cs.skip ?_;refine Cs.nil ?_;refine hN1 _ _ ?_;refine z27 [1,3,13,16,123,124,125] ?_;refine Cs.nil ?_;refine hL1 _ _ ?_;rw[show(i:Int)+1=((i+1:Nat):Int) from by omega];exact⟨(i+1,(idx++[i])),⟨⟨by dsimp only;omega,by dsimp only;rw[idxO,←hi2,if_neg (by omega),if_neg (by omega),List.append_nil],by simp only[List.length_append,List.length_singleton];omega⟩,by dsimp only;omega⟩,fun q=>if q=6 then 9 else q,(zi (fun q=>if q=6 then 9 else q))⟩
         ·intro h132;replace h132:=z6 h132;refine Cs.skip ?_;refine z1q [1,3,13,16,123,124,125,139] ?_;refine Cs.cond _ rfl ?_ ?_
          ·intro h139;replace h139:=z6 h139;refine z27 [1,3,13,16,123,124,125] ?_;refine Cs.nil ?_;refine hN1 _ _ ?_;refine Cs.wkRow 9 (oxM f μ (idx++[l.length])) rfl rfl (fun q hq=>oxM_wk (Nat.le_of_ble_eq_true rfl) f μ idx l.length q hq) ?_;simp only[z44,↓reduceIte,Sk.one,Nat.reduceEqDiff];refine z27 [1,3,13,16,123,124,125] ?_;refine Cs.nil ?_;refine hL1 _ _ ?_;rw[show(i:Int)+1=((i+1:Nat):Int) from by omega];exact⟨(i+1,idx++[l.length]),⟨⟨by dsimp only;omega,by dsimp only;rw[idxO,←hi2,if_pos (by omega),if_pos (by omega),List.append_nil],by simp only[List.length_append,List.length_singleton];omega⟩,by dsimp only;omega⟩,fun q=>if q=6 then 9 else q,(zi (fun q=>if q=6 then 9 else q))⟩
          ·intro h139;replace h139:=z6 h139;refine Cs.skip ?_;refine Cs.nil ?_;refine hN1 _ _ ?_;refine z27 [1,3,13,16,123,124,125] ?_;refine Cs.nil ?_;refine hL1 _ _ ?_;rw[show(i:Int)+1=((i+1:Nat):Int) from by omega];exact⟨(i+1,idx),⟨⟨by dsimp only;omega,by dsimp only;rw[idxO,←hi2,if_pos (by omega),if_neg (by omega),List.append_nil,List.append_nil],by simp only[List.length_append,List.length_singleton];omega⟩,by dsimp only;omega⟩,id,(z7h id)⟩
        ·intro h126;replace h126:=z6 h126;obtain⟨hi1,hi2,hi3⟩:=hi;dsimp only at hi1 hi2 hi3;refine Cs.exit ?_;refine hEL1 _ _ _ ?_;refine hX0 _ _ ?_;refine Cs.seq ?_;have hin:i=l.length:=by omega
         subst hin
         have hil:idx.length=l.length:=by
          have:=idxO_len (E+1) G l.length l.length;rw[if_pos (by omega),if_pos (by omega)] at this;rw[hi2];omega
         rw[hil];obtain⟨f1,hf1⟩:∃f1:Nat→Hm,∀q,f1 q=f (idx.getD q 0):=⟨_,fun _=>rfl⟩;obtain⟨μ1,hm1⟩:∃μ1:Nat→Fin 5×Nat,∀q,μ1 q=μ (idx.getD q 0):=⟨_,fun _=>rfl⟩;have hm3:∀i,(μ1 i).1.val≠2:=fun i=>by rw[hm1];exact hm2 _
         have hox:∀q,oxM f μ idx q=[.int .i64 (f1 q).nd.id,.str (f1 q).nd.key,.int .u32 (f1 q).nd.word,.slc false (μ1 q).1.val (μ1 q).2 (f1 q).off (f1 q).n]:=fun q=>by rw[hf1,hm1];rfl
         refine Cs.give (H':=⟨5,[(2,Sk.one (.row ⟨true,false,43,4,l.length,fun i=>[.int .i64 (f1 i).nd.id,.str (f1 i).nd.key,.int .u32 (f1 i).nd.word,.slc false (μ1 i).1.val (μ1 i).2 (f1 i).off (f1 i).n]⟩)),(3,Sk.one (.row ⟨true,false,45,2,A.length,rws A⟩)),(4,Sk.one (.row ⟨true,false,45,2,B.length,rws B⟩))]⟩) (fr':=[(16,.slc true 2 0 0 l.length)]) (fun q=>if q=2 then 6 else q) (gvS (fun q=>if q=2 then 6 else q) ⟨z1m,(by simp[z1b,Sk.find,Sk.one,zb.eq_1,zb.eq_2,zb.eq_3,zo,SV.renL,SV.ren,Obj.lt_row,SV.ltL,SV.lt,z1e,zn,zr,z1w,nds,Nd.sv,z14,zx,z3a,z3b,z28,z1r,z2t,z15,z1h,z18,z21,z2u,z1o,z1j,z20,z1g,z19,z2h,z33,z4m,z48,z53,Fin.is_lt,z4j,z8o,z6z,fin5_6,fin5_7,z6h];exact fun q _=>by rw[hox,if_neg (hm3 q)]),z1m,z1m,z1m⟩ ⟨rfl,rfl,Nat.le_of_ble_eq_true rfl,rfl⟩) ?_;obtain⟨hvls,hHB,hRes⟩:=mv_plain (C:=C) hb hDl hEl hGl hX (by omega) (by rw[hnG];exact hN) hBr hx (f1:=f1) (fun q=>by rw[hf1,hf,hi2]) (μ1:=μ1) (fun q=>by rw[hm1,hμ,hi2]);refine Cs.reg [10,11] rfl ?_;intro K hK;refine zl z5 ?_;refine zl z5 ?_;refine MwBm.c1 (z81 f1 μ1 l.length (by omega)) (id) ?_;iterate 2 (refine zl z5 ?_)
         refine za (z8 (hK _ _ ?_));clear hK K;refine Cs.ret ?_;refine hQ _ _ ?_;refine zm.mk (H':=⟨5,[(2,Sk.one (.row ⟨true,false,43,4,l.length,fun i=>[.int .i64 (f1 i).nd.id,.str (if i=0 then⟨#[]⟩ else(f1 i).nd.key),.int .u32 (f1 i).nd.word,.slc false (μ1 i).1.val (μ1 i).2 (f1 i).off (f1 i).n]⟩)),(3,Sk.one (.row ⟨true,false,45,2,A.length,rws A⟩)),(4,Sk.one (.row ⟨true,false,45,2,B.length,rws B⟩))]⟩) (.inl rfl) ?_;refine zh ?_;refine⟨z1m,(z7h id),z1m,?_⟩;refine⟨fstM (hmk l.length f1),A,B,μ1,_,?_,hHB.fst,hRes.fst,fun i hi=>muR_fst _ _ _ (by rwa [z2i,z3p] at hi),?_,?_⟩
         ·rw[mvR,if_pos hE,z7z,hvls];simp only[Int.toNat_natCast]
         ·rw[hE,z2i,z3p]
         ·rw[z2i,z3p]
      refine zl (z9 _ [] [] [] rfl rfl rfl rfl) ?_;refine zl (z9 _ [] [] [] rfl rfl rfl rfl) ?_;refine zl (z9 _ [] [] [] rfl rfl rfl rfl) ?_;refine zl (z9 _ [] [] [] rfl rfl rfl rfl) ?_;refine zl (z9 _ [] [] [] rfl rfl rfl rfl) ?_;refine zl (z9 _ [] [] [] rfl rfl rfl rfl) ?_;refine zl (z9 _ [] [] [] rfl rfl rfl rfl) ?_;refine zl (z9 _ [] [] [] rfl rfl rfl rfl) ?_;refine zl (z9 _ [] [] [] rfl rfl rfl rfl) ?_;refine zl (z9 _ [] [] [] rfl rfl rfl rfl) ?_;refine zl (z9 _ [0,1,2,3,4] [] [] rfl rfl rfl rfl) ?_;refine zl (z9 _ [] [] [] rfl rfl rfl rfl) ?_;refine zl (z9 _ [] [] [] rfl rfl rfl rfl) ?_;refine zl (z9 _ [2] [2] [] rfl rfl rfl rfl) ?_;refine z12 ?_;refine z8 ?_;rw[z4d,z4d,z7w (by rw[List.length_drop];omega)];exact hG _ _ _ _ id (z7h id) hk10
  iterate 4 (refine zl z5 ?_)
  refine zl z5 ?_;obtain⟨A,hA⟩:∃A,besB l.length a b=A:=⟨_,rfl⟩;have hAs:=neighbours_spec a b l.length (by omega);rw[nei_bes,hA] at hAs;rw[hA] at hk3;refine MwBm.c1 (hAs) (id) ?_;iterate 16 (refine zl z5 ?_)
  refine za ?_;refine z8 ?_;exact hk3 _ mvk_eq
end Go.Proofs

namespace Go.Proofs
open Go.Sk
def muW (x y:Nat)(μ:Nat→Bool×Nat)(l:List Hm):Nat→List SV:=fun i=>[.int .i64 (hm l i).nd.id,.str (hm l i).nd.key,.int .u32 (hm l i).nd.word,.slc false (bif (μ i).1 then y else x) ((μ i).2+1) (hm l i).off (hm l i).n]
theorem muW_zero (x y:Nat)(l:List Hm):muW x y (fun i=>(false,i)) l=hmR false x l:=rfl
theorem bif_map {α β:Type}(f:α→β)(b:Bool)(x y:α):f (bif b then y else x)=bif b then f y else f x:=by cases b<;>rfl
theorem muW_ren' (ρ:Nat→Nat)(x y:Nat)(μ:Nat→Bool×Nat)(l:List Hm)(i:Nat):SV.renL ρ (muW x y μ l i)=muW (ρ x) (ρ y) μ l i:=by
 simp only[muW,SV.renL,SV.ren,bif_map ρ]
theorem muW_ren (ρ:Nat→Nat)(x y:Nat)(μ:Nat→Bool×Nat)(l:List Hm):(fun i=>SV.renL ρ (muW x y μ l i))=muW (ρ x) (ρ y) μ l:=funext fun i=>muW_ren' ρ x y μ l i
theorem muW_lt {m x y:Nat}(hx:x<m)(hy:y<m)(μ:Nat→Bool×Nat)(l:List Hm)(i:Nat):SV.ltL m (muW x y μ l i):=by
 simp only[muW,SV.ltL,SV.lt,true_and,and_true]
 cases(μ i).1
 ·exact hx
 ·exact hy
theorem muW_ltT (m:Nat)(μ:Nat→Bool×Nat)(l:List Hm)(i:Nat):SV.ltL (m+4) (muW 1 3 μ l i)=True:=eq_true (muW_lt (by omega) (by omega) μ l i)
def SrcW (l cur:List Hm)(W:List Hd)(μ:Nat→Bool×Nat):Prop:=∀i,i<cur.length→∃t,(hm cur i).full=(bif (μ i).1 then(hd W (μ i).2).rows else(hm l (μ i).2).full).take t∧(μ i).2<(bif (μ i).1 then W.length else l.length)
def muP (μ:Nat→Bool×Nat):Pn:=fun id k=>if id=1∧0<k then(bif (μ (k-1)).1 then 2 else 1,(μ (k-1)).2+1) else(id,k)
theorem muP_succ (μ:Nat→Bool×Nat)(i:Nat):muP μ 1 (i+1)=(bif (μ i).1 then 2 else 1,(μ i).2+1):=by
 unfold muP;rw[if_pos ⟨rfl,Nat.succ_pos i⟩]
 rfl
theorem rws_takeE (s t:List Rw)(k q:Nat)(e:s=t.take k)(hq:q<s.length):rws t q=rws s q:=by
 subst e;rw[List.length_take] at hq;simp only[rws,ro,List.getD_eq_getElem?_getD];rw[List.getElem?_take_of_lt (by omega)]
theorem rowTk (π:Pn)(t:List Rw)(k:Nat)(s:List Rw)(e:s=t.take k):z11 π (.row ⟨false,false,45,2,t.length,rws t⟩) (.row ⟨false,false,45,2,s.length,rws s⟩):=
 ⟨fun h=>(by cases h),rfl,by show s.length≤t.length;rw[e,List.length_take];exact Nat.min_le_right _ _,fun q hq=>by rw[z7g];exact rws_takeE s t k q e hq⟩
theorem atMu {f:Go.FuncId}{ar:List SV}{R:SV→AH→Prop}{l cur:List Hm}{W:List Hd}{μ:Nat→Bool×Nat}{n:Nat}(hn:cur.length=n)(hs:SrcW l cur W μ)
  (h:ze Tryz.prog f (.slc false 0 0 0 n::ar) ⟨2,[(0,Sk.one (.row ⟨false,false,43,4,n,hmR false 1 cur⟩)),(1,(n+1,fam false 45 2 (hmF false cur)))]⟩ R)
  (h2:SV.ltL 2 ar) (h3:∀π:Pn,SV.renPL π ar=ar):
  ze Tryz.prog f (.slc false 0 0 0 n::ar) ⟨3,[(0,Sk.one (.row ⟨false,false,43,4,n,muW 1 2 μ cur⟩)),(1,(l.length+1,fam false 45 2 (hmF false l))),(2,(W.length+1,fam false 45 2 (hoF false W)))]⟩
   (fun s H'=> ∃s0 H0',R s0 H0'∧s=s0.renP (memN (muP μ) 2 1)∧H'=⟨H0'.nxt+1,shOs (memN (muP μ) 2 1) 1 H0'.os⟩):=by
 subst hn
 have g:=h.memN (muP μ) 1 (os1:=[(0,Sk.one (.row ⟨false,false,43,4,cur.length,muW 1 2 μ cur⟩)),(1,(l.length+1,fam false 45 2 (hmF false l))),(2,(W.length+1,fam false 45 2 (hoF false W)))])
  (by
   refine⟨⟨by show 0<2;decide,fun k=>rfl,fun k hk=>⟨Obj.lt_row.2 fun q _=>(z2t _ _ _ _ q).2 (by show 1<2;decide),?_⟩⟩,⟨by show 1<2;decide,fun k=>z18 false _ _ cur k,fun k hk=> ?_⟩,trivial⟩
   ·have hk0:k=0:=by have:k<1:=hk;omega
    subst hk0;have e:muP μ 0 0=(0,0):=rfl;rw[e];simp only[Sk.find,if_true];refine⟨by decide,fun h=>(by cases h),rfl,Nat.le_refl _,fun q _=> ?_⟩;simp only[hmR,muW,SV.renPL,SV.renP,muP_succ]
   ·cases k with
    |zero=>
     have e:muP μ 1 0=(1,0):=rfl;refine⟨by rw[z1x];exact Obj.lt_row.2 fun q hq=>absurd hq (Nat.not_lt_zero q),?_⟩;rw[e];simp only[Sk.find,Nat.zero_ne_one,if_false,if_true];rw[z1x,z1x];exact⟨by omega,fun h=>(by cases h),rfl,Nat.le_refl _,fun q hq=>absurd hq (Nat.not_lt_zero q)⟩
    |succ i=>
     refine⟨z1h _ _ _ _,?_⟩;have hi:i<cur.length:=by omega
     obtain⟨t,e1,e2⟩:=hs i hi;rw[muP_succ]
     cases hb:(μ i).1 with
     |true=>
      rw[hb] at e1 e2;simp only[cond_true] at e1 e2 ⊢;simp only[Sk.find,show¬(0:Nat)=2 by decide,show¬(1:Nat)=2 by decide,if_false,if_true];refine⟨by omega,?_⟩;rw[z17,z17];exact rowTk _ _ t _ e1
     |false=>
      rw[hb] at e1 e2;simp only[cond_false] at e1 e2 ⊢;simp only[Sk.find,Nat.zero_ne_one,if_false,if_true];refine⟨by omega,?_⟩;rw[z17,z17]
      exact rowTk _ _ t _ e1)
  ⟨by show 0<2;decide,h2⟩ (by
   intro id k hid;have hid:id<2:=hid;simp only[muP]
   split
   ·show(bif _ then 2 else 1)<3
    cases(μ (k-1)).1<;>decide
   ·show id<3;omega) (by
   intro x hx k;simp only[List.mem_cons,List.not_mem_nil,or_false] at hx;rcases hx with rfl|rfl|rfl
   ·rfl
   ·exact z18 false _ _ l k
   ·exact z20 false _ _ W k)
 have e:SV.renPL (muP μ) (.slc false 0 0 0 cur.length::ar)= .slc false 0 0 0 cur.length::ar:=by
  rw[SV.renPL,h3];rfl
 rw[e] at g;exact g
def muN (μ:Nat→Bool×Nat)(μ1:Nat→Fin 5×Nat)(i:Nat):Nat×Nat:=memN (muP μ) 2 1 (μ1 i).1.val (μ1 i).2
def muQ (L:List Hm)(κ:Nat→Nat×Nat):Nat→List SV:=fun i=>[.int .i64 (hm L i).nd.id,.str (hm L i).nd.key,.int .u32 (hm L i).nd.word,.slc false (κ i).1 (κ i).2 (hm L i).off (hm L i).n]
theorem muR_renN (μ:Nat→Bool×Nat)(μ1:Nat→Fin 5×Nat)(L:List Hm)(i:Nat):SV.renPL (memN (muP μ) 2 1) (muR μ1 L i)=muQ L (muN μ μ1) i:=by
 simp only[muR,SV.renPL,SV.renP,muQ,muN]
theorem ints_arg (v:List Int):(∀π:Pn,SV.renPL π (v.map fun x=>SV.int .i64 x)=v.map fun x=>SV.int .i64 x)∧SV.ltL 2 (v.map fun x=>SV.int .i64 x):=by
 induction v with
 |nil=>exact⟨fun _=>rfl,trivial⟩
 |cons x t ih=>exact⟨fun π=>by rw[List.map_cons,SV.renPL,ih.1];rfl,trivial,ih.2⟩
theorem rws_renPF (π:Pn)(l:List Rw):(fun i=>SV.renPL π (rws l i))=rws l:=funext fun i=>z7g π l i
theorem resW {f:Go.FuncId}{v:List Int}{l cur:List Hm}{W:List Hd}{μ:Nat→Bool×Nat}{n:Nat}{V:List Hd}{e:Int}(hn:cur.length=n)(hs:SrcW l cur W μ)
  (h:ze Tryz.prog f (.slc false 0 0 0 n::v.map fun x=>SV.int .i64 x) ⟨2,[(0,Sk.one (.row ⟨false,false,43,4,n,hmR false 1 cur⟩)),(1,(n+1,fam false 45 2 (hmF false cur)))]⟩
   (fun s H1=> ∃(L':List Hm) (r3 r4:List Rw) (μ1:Nat→Fin 5×Nat) (F:Nat→List SV),vls L'=V∧HmB L'∧ResR cur L' r3 r4 μ1∧(∀i,i<L'.length→F i=muR μ1 L' i)∧s= .tup [.slc true 2 0 0 L'.length,.int .i64 e]∧H1=⟨5,[(2,Sk.one (.row ⟨true,false,43,4,L'.length,F⟩)),(3,Sk.one (.row ⟨true,false,45,2,r3.length,rws r3⟩)),(4,Sk.one (.row ⟨true,false,45,2,r4.length,rws r4⟩))]⟩)):
  ze Tryz.prog f (.slc false 0 0 0 n::v.map fun x=>SV.int .i64 x) ⟨3,[(0,Sk.one (.row ⟨false,false,43,4,n,muW 1 2 μ cur⟩)),(1,(l.length+1,fam false 45 2 (hmF false l))),(2,(W.length+1,fam false 45 2 (hoF false W)))]⟩
   (fun s H1=> ∃(L':List Hm) (r3 r4:List Rw) (μ1:Nat→Fin 5×Nat) (F:Nat→List SV),vls L'=V∧HmB L'∧ResR cur L' r3 r4 μ1∧(∀i,i<L'.length→F i=muQ L' (muN μ μ1) i)∧s= .tup [.slc true 3 0 0 L'.length,.int .i64 e]∧H1=⟨6,[(3,Sk.one (.row ⟨true,false,43,4,L'.length,F⟩)),(4,Sk.one (.row ⟨true,false,45,2,r3.length,rws r3⟩)),(5,Sk.one (.row ⟨true,false,45,2,r4.length,rws r4⟩))]⟩):=by
 refine(atMu hn hs h (ints_arg v).2 (ints_arg v).1).imp ?_;rintro s H' ⟨s0,H0',⟨L',r3,r4,μ1,F,h1,h2,h3,h4,rfl,rfl⟩,rfl,rfl⟩;refine⟨L',r3,r4,μ1,fun i=>SV.renPL (memN (muP μ) 2 1) (F i),h1,h2,h3,fun i hi=>by show SV.renPL _ (F i)=_;rw[h4 i hi,muR_renN],rfl,?_⟩;simp only[shOs,List.map_cons,List.map_nil,Sk.one,Obj.renP,rws_renPF]
end Go.Proofs

namespace Go.Proofs
open Go.Sk
theorem row_wk {m:Nat}{a:List SV}{xs:List Rw}{q:Nat}(h:a=rws xs q):SV.wkL a (rws xs q)∧(∀s∈rws xs q,s.scalar=true)∧SV.ltL m (rws xs q):=by
 subst h;refine⟨⟨rfl,rfl,trivial⟩,fun s hs=> ?_,z2h _ _ _⟩;rw[z8p] at hs;simp only[List.mem_cons,List.not_mem_nil,or_false] at hs;rcases hs with rfl|rfl<;>rfl
theorem some_rows {n:Nat}{F:Nat→List SV}(h:∀q,q<n→∃a b,F q=[.str a,.str b]):∃xs:List Rw,xs.length=n∧∀q,q<n→F q=rws xs q:=by
 refine⟨(List.range n).map fun q=>if hq:q<n then⟨(h q hq).choose,(h q hq).choose_spec.choose⟩ else noRw,by simp,fun q hq=> ?_⟩;have:=(h q hq).choose_spec.choose_spec;simp only[rws,ro,Rw.sv,List.getD_eq_getElem?_getD,List.getElem?_map,List.getElem?_range hq,Option.map_some,Option.getD_some,dif_pos hq];exact this
theorem MwIm.t {s e:SV}{H g:AH}(q:AfQ s e H g:=by constructor<;>(simp only[z1x,after,z57,id,z2q,reduceCtorEq,Nat.reduceEqDiff,zc5,zc6,z5u,z2p,zw,Sk.one,Obj.own.eq_1,Obj.own.eq_2,Obj.own.eq_3,Obj.own.eq_4,Obj.ren.eq_1,Obj.ren.eq_2,Obj.ren_blk,Row.ren,SV.ren,SV.renL,↓reduceIte,Nat.reduceLT,Nat.reduceAdd,Nat.reduceSub,Tryz.tyInt,Tryz.szInt,Tryz.tyStr,Tryz.tyU32,Tryz.tyNode,Tryz.szNode,Tryz.zNode,Tryz.tyNodes,Tryz.szNodes,z1e,zn,nds,Nd.sv,Tryz.tyRow,Tryz.szRow,Tryz.zRow,Tryz.tyRows,Tryz.szRows,Tryz.tyLets,Tryz.szStr,Tryz.tyBd,Tryz.zBd,Rw.sv,Tryz.tyErr,Tryz.tyTape,Tryz.szTape,Tryz.zTape,zj,z1t,Tryz.tyRg,Tryz.szRg,Tryz.zRg,Rg.sv,z79,z6i,z4b,z6m,fam_ren,hmF_ren];exact rfl)):AfQ s e H g:=q
theorem MwIm.af {s e e1:SV}{H g g1:AH}(h1:s=e)(h2:H=g)(q:AfQ e e1 g g1:=by exact MwIm.t):s=e1∧H=g1:=⟨h1.trans q.s,h2.trans q.h⟩
theorem z34 {a c d:Prop}(r:a→c)(h:d)(e:Sd a d:=by simp only[stp,isQ,z4q,Sk.get,Sk.put,z24,zt,↓reduceIte,reduceCtorEq,Nat.reduceEqDiff,zc2,zc3,implies_true,forall_const,zc5,qop,grdK,zc4,List.getElem?_cons_zero,beq_self_eq_true,zc1,z13,cond_true,cond_false,z3x,Sk.find,Sk.one,z17,z1u,Kd.agg,Nat.reduceBEq,ite_self,Nat.zero_add,Nat.reduceAdd,Nat.reduceMul,Nat.reduceSub,Nat.reduceLT,Nat.reduceLeDiff,Nat.zero_le,ne_eq,Int.reduceToNat,exists_eq',spl,z29,SV.cells,SV.scalar,binK,z5o,z5n,intK,z2x,strK,z37,z5m,z3u,unK,z5p,z5i,z39,z3c,z5c,z3d,z3e,optK,z3g,bndK,z36,z38,z55,z3k,lenK,z1a.len,zq.n,z50,mmK,z1y,eop,z5s,srcK,z1f,z44,z3o,capK,z5t,z2c,z2q,z30,boxK,z2d,z3m,z31,updF,mkK,z5a,z1a.ofKd,zq.ofKd,z5b,z1a.add,z1a.okKd,zq.put,zq.okKd,zq.okP,z3f,z1a.has,zq.get,zq.z,Tryz.tyInt,Tryz.szInt,Tryz.tyStr,Tryz.tyU32,Tryz.tyNode,Tryz.szNode,Tryz.zNode,Tryz.tyNodes,Tryz.szNodes,z1e,zn,nds,Nd.sv,Tryz.tyRow,Tryz.szRow,Tryz.zRow,Tryz.tyRows,Tryz.szRows,Tryz.tyLets,Tryz.szStr,Tryz.tyBd,Tryz.zBd,z86,z8p,Rw.sv,Tryz.tyErr,Tryz.tyTape,Tryz.szTape,Tryz.zTape,zj,z1t,ints,Tryz.tyRg,Tryz.szRg,Tryz.zRg,Rg.sv,z79];(repeat(with_reducible apply Sd.and;exact z7));exact Sd.rfl):c:=r (e.f h)
theorem MwIm.rs {X:Cx}{Q:Exit→Fr→AH→Prop}{fr fr1:Fr}{H H1:AH}{l:List Code}{id:Nat}{ops:List Oper}{y:Code}(keep:List Nat)(h:Cs X (y::l) Q fr1 H1)(hd:z2b X.n ops=true:=by exact rfl)(e:∀K:Fr→AH→Prop,K fr1 H1→z5v X.P X.wrap X.m0 ops.toArray ops fr H (fun fr H=>K (prune keep fr) H):=by(intro K hK;(repeat(refine z34 z5 ?_));exact za (z8 hK))):Cs X (.seq (.region id ops.toArray false) y::l) Q fr H:=Cs.seq (rgS keep h hd e)
set_option maxHeartbeats 1000000 in
theorem oddRowsM_spec (ls:List Int)(m at_:Nat)(hx:ls.length≤9223372036854775807)(hmm:m≤ls.length)(ha:at_≤m)(l:List Hm)(j mm:Nat)(hj:j<mm)(o n:Nat)(hon:o+n≤((hm l j).full).length)(hnx:n≤1000000):
  ze Tryz.prog 22 [.ptr 0 0 0 0,.slc false 2 (j+1) o n] ⟨3,[(0,zj 1 m at_),(1,z1t ls),(2,(mm+1,fam false 45 2 (hmF false l)))]⟩
   (fun s H1=> ∃(out:List Rw) (at1:Nat),at1≤m∧out.length≤n+1∧s= .slc true 3 0 0 out.length∧H1=⟨4,[(3,Sk.one (.row ⟨true,false,45,2,out.length,rws out⟩)),(0,zj 1 m at1)]⟩):=by
 refine ze.ofC false 61 [.tmp 4] Tryz.func22 rfl rfl Tryz.ntmps22 Tryz.results22 rfl ?_;intro w0 own0 β0 Q hQ hQn;simp only[z1n];refine MwIm.rs [0,1] ?_;refine MwIm.rs [0,1] ?_;refine Cs.seq ?_;obtain⟨xs,hxl,hxr⟩:∃xs:List Rw,xs.length=n∧∀q,q<n→srcF (rws ((hm l j).full)) o q=rws xs q:=⟨(((hm l j).full).drop o).take n,by rw[List.length_take,List.length_drop];omega,fun q hq=>by rw[z4d];exact rws_takeE _ _ n q rfl (by rw[List.length_take,List.length_drop];omega)⟩;refine Cs.wkRow 3 (rws xs) rfl rfl (fun q hq=>row_wk (hxr q hq)) ?_;simp only[z44,↓reduceIte,Sk.one,Nat.reduceEqDiff];refine Cs.block ?_;intro Q0 hN0 hX0 hR0 hE0;refine sg [0,1,13] rfl ?_;intro K hK;refine z34 z5 ?_;refine z34 z5 ?_;refine z58 (bool_spec ls m at_ 3 hx hmm ha (by omega) (by omega)) (id) ?_;rintro s0 H0 ⟨b,at1,h1,rfl,rfl⟩ s1 H1 hs1 hH1;obtain⟨hs2,hH2⟩:=MwIm.af hs1 hH1;clear hs1 hH1;subst hs2 hH2;repeat(with_reducible apply ai;exact z7)
 iterate 6 (refine z34 z5 ?_)
 refine za (z8 (hK _ _ ?_));clear hK K;refine Cs.cond _ rfl ?_ ?_
 ·intro h13;simp only[Bool.and_eq_true,decide_eq_true_eq] at h13;refine sg [1,5] rfl ?_;intro K hK;iterate 4 (refine z34 z5 ?_)
  refine z34 z5 ?_;refine z58 (z35 ls m at1 ((n:Int)-1) hx hmm h1 (by omega)) (id) ?_;rintro s0 H0 ⟨v,at2,g1,g2,g3,g4,rfl,rfl⟩ s1 H1 hs1 hH1;obtain⟨hs2,hH2⟩:=MwIm.af hs1 hH1;clear hs1 hH1;subst hs2 hH2;repeat(with_reducible apply ai;exact z7)
  have g5:=g3 (by omega);refine z34 z5 ?_;refine za (z8 (hK _ _ ?_));clear hK K;refine Cs.regDraw [1] [0,1,2,3,4,5,6,7,8,9,10,11,12,13,14,15,16,17] [[],[],[],[],[3],[],[],[6],[5,6,7],[5,6,7,8],[],[],[10,11],[10,11,12],[0,1,5,6,7,8,9,10,11,12,13],[0,1,5,6,7,8,9,10,11,12,13,14],[0,1,2,3,4,5,6,7,8,9,10,11,12,13,14,15],[0,1,2,3,4,5,6,7,8,9,10,11,12,13,14,15,16]] [[],[],[],[],[],[],[],[],[],[],[],[],[],[],[],[3],[],[3]] [[],[],[3],[3],[3],[],[],[],[],[],[],[],[],[],[],[3],[3],[3]] Tryz.mo rfl rfl rfl (by kernel_rfl) (by kernel_rfl) (by kernel_rfl) rfl (by kernel_rfl) ?_;intro K hK;iterate 2 (refine z34 (zf _ [] [] rfl rfl rfl) ?_)
  iterate 3 (refine z34 (zf _ [] [3] rfl rfl rfl) ?_)
  iterate 4 (refine z34 (zf _ [] [] rfl rfl rfl) ?_)
  rw[show(v+1).toNat=v.toNat+1 by omega];repeat(with_reducible apply ai;exact z7)
  iterate 6 (refine z34 (zf _ [] [] rfl rfl rfl) ?_)
  refine z34 (zf _ [3] [3] rfl rfl rfl) ?_;refine z34 (zf _ [] [3] rfl rfl rfl) ?_;rw[show(v+1).toNat=v.toNat+1 by omega];repeat(with_reducible apply ai;exact z7)
  refine z34 (zf _ [3] [3] rfl rfl rfl) ?_;refine z2n (z8 (hK _ _ ?_));clear hK K;refine Cs.nil ?_;refine hN0 _ _ ?_;refine MwIm.rs [4] ?_
  obtain⟨ys,hyl,hyr⟩:=some_rows (n:=n) (F:=fun i'=>if i'=v.toNat+1 then [.str (ro xs v.toNat).key,.str (ro xs v.toNat).val] else if i'=v.toNat then [.str (ro xs (v.toNat+1)).key,.str (ro xs (v.toNat+1)).val] else [.str (ro xs i').key,.str (ro xs i').val]) (fun q hq=>by
   split
   ·exact⟨_,_,rfl⟩
   ·split<;>exact⟨_,_,rfl⟩)
  refine Cs.wkRow 3 (rws ys) rfl rfl (fun q hq=>row_wk (hyr q hq)) ?_;simp only[z44,↓reduceIte,Sk.one,Nat.reduceEqDiff];refine Cs.ret ?_;refine hQ _ _ ?_;refine zm.mk (H':=⟨4,[(3,Sk.one (.row ⟨true,false,45,2,n,rws ys⟩)),(0,zj 1 m at2)]⟩) (.inl rfl) ?_;refine z26 ?_;refine⟨z2z,(z7i id),z2z,?_⟩;exact⟨ys,at2,g1,by omega,by rw[hyl],by rw[hyl]⟩
 ·intro h13
  refine sg [0,1,42] rfl ?_;intro K hK;refine z34 z5 ?_;refine z34 z5 ?_;refine z58 (bool_spec ls m at1 3 hx hmm h1 (by omega) (by omega)) (id) ?_;rintro s0 H0 ⟨b2,at3,h3,rfl,rfl⟩ s1 H1 hs1 hH1;obtain⟨hs2,hH2⟩:=MwIm.af hs1 hH1;clear hs1 hH1;subst hs2 hH2;repeat(with_reducible apply ai;exact z7)
  iterate 6 (refine z34 z5 ?_)
  refine za (z8 (hK _ _ ?_));clear hK K;refine Cs.cond _ rfl ?_ ?_
  ·intro h42;simp only[Bool.and_eq_true,decide_eq_true_eq] at h42;refine Cs.reg [1] rfl ?_;intro K hK;iterate 5 (refine z34 z5 ?_)
   refine z34 z5 ?_;refine z58 (z35 ls m at3 n hx hmm h3 (by omega)) (id) ?_;rintro s0 H0 ⟨v,at2,g1,g2,g3,g4,rfl,rfl⟩ s1 H1 hs1 hH1;obtain⟨hs2,hH2⟩:=MwIm.af hs1 hH1;clear hs1 hH1;subst hs2 hH2;repeat(with_reducible apply ai;exact z7)
   have g5:=g3 (by omega);iterate 5 (refine z34 z5 ?_)
   refine za (z8 (hK _ _ ?_));clear hK K;refine Cs.nil ?_;refine hN0 _ _ ?_;refine MwIm.rs [4] ?_;refine Cs.ret ?_;refine hQ _ _ ?_;rw[z7w hxl];refine zm.mkR (fun q=>if q=3 then 5 else q) (.slc true 3 0 0 (n+1)) (⟨4,[(3,Sk.one (.row ⟨true,false,45,2,n+1,rws (xs++[⟨(ro xs v.toNat).key,(ro xs v.toNat).val⟩])⟩)),(0,zj 1 m at2)]⟩) (.inl rfl) ?_;refine z26 ?_;refine⟨z2z,z2z,(z7i (fun q=>if q=3 then 5 else q)),z2z,?_⟩;exact⟨xs++[⟨(ro xs v.toNat).key,(ro xs v.toNat).val⟩],at2,g1,by simp[hxl],by simp[hxl],by simp[hxl,zj]⟩
  ·intro h42
   refine Cs.reg [1] rfl ?_;intro K hK;iterate 2 (refine z34 z5 ?_)
   refine z34 z5 ?_;refine z58 (row_spec ls m at3 hx hmm h3) (id) ?_;rintro s0 H0 ⟨r,at2,g1,rfl,rfl⟩ s1 H1 hs1 hH1;obtain⟨hs2,hH2⟩:=MwIm.af hs1 hH1;clear hs1 hH1;subst hs2 hH2;repeat(with_reducible apply ai;exact z7)
   iterate 3 (refine z34 z5 ?_)
   refine za (z8 (hK _ _ ?_));clear hK K;refine Cs.nil ?_;refine hN0 _ _ ?_;refine MwIm.rs [4] ?_;refine Cs.ret ?_;refine hQ _ _ ?_;rw[z7w hxl];refine zm.mkR (fun q=>if q=3 then 5 else q) (.slc true 3 0 0 (n+1)) (⟨4,[(3,Sk.one (.row ⟨true,false,45,2,n+1,rws (xs++[⟨r.key,r.val⟩])⟩)),(0,zj 1 m at2)]⟩) (.inl rfl) ?_;refine z26 ?_;refine⟨z2z,z2z,(z7i (fun q=>if q=3 then 5 else q)),z2z,?_⟩;exact⟨xs++[⟨r.key,r.val⟩],at2,g1,by simp[hxl],by simp[hxl],by simp[hxl,zj]⟩
set_option maxHeartbeats 1000000 in
theorem oddRows0_spec (ls:List Int)(m at_:Nat)(hx:ls.length≤9223372036854775807)(hmm:m≤ls.length)(ha:at_≤m)(t:List Rw)(o n:Nat)(hon:o+n≤(t).length)(hnx:n≤1000000):
  ze Tryz.prog 22 [.ptr 0 0 0 0,.slc false 2 0 o n] ⟨3,[(0,zj 1 m at_),(1,z1t ls),(2,Sk.one (.row ⟨false,false,45,2,t.length,rws t⟩))]⟩
   (fun s H1=> ∃(out:List Rw) (at1:Nat),at1≤m∧out.length≤n+1∧s= .slc true 3 0 0 out.length∧H1=⟨4,[(3,Sk.one (.row ⟨true,false,45,2,out.length,rws out⟩)),(0,zj 1 m at1)]⟩):=by
 refine ze.ofC false 61 [.tmp 4] Tryz.func22 rfl rfl Tryz.ntmps22 Tryz.results22 rfl ?_;intro w0 own0 β0 Q hQ hQn;simp only[z1n];refine MwIm.rs [0,1] ?_;refine MwIm.rs [0,1] ?_;refine Cs.seq ?_;obtain⟨xs,hxl,hxr⟩:∃xs:List Rw,xs.length=n∧∀q,q<n→srcF (rws (t)) o q=rws xs q:=⟨((t).drop o).take n,by rw[List.length_take,List.length_drop];omega,fun q hq=>by rw[z4d];exact rws_takeE _ _ n q rfl (by rw[List.length_take,List.length_drop];omega)⟩;refine Cs.wkRow 3 (rws xs) rfl rfl (fun q hq=>row_wk (hxr q hq)) ?_;simp only[z44,↓reduceIte,Sk.one,Nat.reduceEqDiff];refine Cs.block ?_;intro Q0 hN0 hX0 hR0 hE0;refine sg [0,1,13] rfl ?_;intro K hK;refine z34 z5 ?_;refine z34 z5 ?_;refine z58 (bool_spec ls m at_ 3 hx hmm ha (by omega) (by omega)) (id) ?_;rintro s0 H0 ⟨b,at1,h1,rfl,rfl⟩ s1 H1 hs1 hH1;obtain⟨hs2,hH2⟩:=MwIm.af hs1 hH1;clear hs1 hH1;subst hs2 hH2;repeat(with_reducible apply ai;exact z7)
 iterate 6 (refine z34 z5 ?_)
 refine za (z8 (hK _ _ ?_));clear hK K;refine Cs.cond _ rfl ?_ ?_
 ·intro h13;simp only[Bool.and_eq_true,decide_eq_true_eq] at h13;refine sg [1,5] rfl ?_;intro K hK;iterate 4 (refine z34 z5 ?_)
  refine z34 z5 ?_;refine z58 (z35 ls m at1 ((n:Int)-1) hx hmm h1 (by omega)) (id) ?_;rintro s0 H0 ⟨v,at2,g1,g2,g3,g4,rfl,rfl⟩ s1 H1 hs1 hH1;obtain⟨hs2,hH2⟩:=MwIm.af hs1 hH1;clear hs1 hH1;subst hs2 hH2;repeat(with_reducible apply ai;exact z7)
  have g5:=g3 (by omega);refine z34 z5 ?_;refine za (z8 (hK _ _ ?_));clear hK K;refine Cs.regDraw [1] [0,1,2,3,4,5,6,7,8,9,10,11,12,13,14,15,16,17] [[],[],[],[],[3],[],[],[6],[5,6,7],[5,6,7,8],[],[],[10,11],[10,11,12],[0,1,5,6,7,8,9,10,11,12,13],[0,1,5,6,7,8,9,10,11,12,13,14],[0,1,2,3,4,5,6,7,8,9,10,11,12,13,14,15],[0,1,2,3,4,5,6,7,8,9,10,11,12,13,14,15,16]] [[],[],[],[],[],[],[],[],[],[],[],[],[],[],[],[3],[],[3]] [[],[],[3],[3],[3],[],[],[],[],[],[],[],[],[],[],[3],[3],[3]] Tryz.mo rfl rfl rfl (by kernel_rfl) (by kernel_rfl) (by kernel_rfl) rfl (by kernel_rfl) ?_;intro K hK;iterate 2 (refine z34 (zf _ [] [] rfl rfl rfl) ?_)
  iterate 3 (refine z34 (zf _ [] [3] rfl rfl rfl) ?_)
  iterate 4 (refine z34 (zf _ [] [] rfl rfl rfl) ?_)
  rw[show(v+1).toNat=v.toNat+1 by omega];repeat(with_reducible apply ai;exact z7)
  iterate 6 (refine z34 (zf _ [] [] rfl rfl rfl) ?_)
  refine z34 (zf _ [3] [3] rfl rfl rfl) ?_;refine z34 (zf _ [] [3] rfl rfl rfl) ?_;rw[show(v+1).toNat=v.toNat+1 by omega];repeat(with_reducible apply ai;exact z7)
  refine z34 (zf _ [3] [3] rfl rfl rfl) ?_;refine z2n (z8 (hK _ _ ?_));clear hK K;refine Cs.nil ?_;refine hN0 _ _ ?_;refine MwIm.rs [4] ?_
  obtain⟨ys,hyl,hyr⟩:=some_rows (n:=n) (F:=fun i'=>if i'=v.toNat+1 then [.str (ro xs v.toNat).key,.str (ro xs v.toNat).val] else if i'=v.toNat then [.str (ro xs (v.toNat+1)).key,.str (ro xs (v.toNat+1)).val] else [.str (ro xs i').key,.str (ro xs i').val]) (fun q hq=>by
   split
   ·exact⟨_,_,rfl⟩
   ·split<;>exact⟨_,_,rfl⟩)
  refine Cs.wkRow 3 (rws ys) rfl rfl (fun q hq=>row_wk (hyr q hq)) ?_;simp only[z44,↓reduceIte,Sk.one,Nat.reduceEqDiff];refine Cs.ret ?_;refine hQ _ _ ?_;refine zm.mk (H':=⟨4,[(3,Sk.one (.row ⟨true,false,45,2,n,rws ys⟩)),(0,zj 1 m at2)]⟩) (.inl rfl) ?_;refine z26 ?_;refine⟨z2z,(z7i id),z2z,?_⟩;exact⟨ys,at2,g1,by omega,by rw[hyl],by rw[hyl]⟩
 ·intro h13
  refine sg [0,1,42] rfl ?_;intro K hK;refine z34 z5 ?_;refine z34 z5 ?_;refine z58 (bool_spec ls m at1 3 hx hmm h1 (by omega) (by omega)) (id) ?_;rintro s0 H0 ⟨b2,at3,h3,rfl,rfl⟩ s1 H1 hs1 hH1;obtain⟨hs2,hH2⟩:=MwIm.af hs1 hH1;clear hs1 hH1;subst hs2 hH2;repeat(with_reducible apply ai;exact z7)
  iterate 6 (refine z34 z5 ?_)
  refine za (z8 (hK _ _ ?_));clear hK K;refine Cs.cond _ rfl ?_ ?_
  ·intro h42;simp only[Bool.and_eq_true,decide_eq_true_eq] at h42;refine Cs.reg [1] rfl ?_;intro K hK;iterate 5 (refine z34 z5 ?_)
   refine z34 z5 ?_;refine z58 (z35 ls m at3 n hx hmm h3 (by omega)) (id) ?_;rintro s0 H0 ⟨v,at2,g1,g2,g3,g4,rfl,rfl⟩ s1 H1 hs1 hH1;obtain⟨hs2,hH2⟩:=MwIm.af hs1 hH1;clear hs1 hH1;subst hs2 hH2;repeat(with_reducible apply ai;exact z7)
   have g5:=g3 (by omega);iterate 5 (refine z34 z5 ?_)
   refine za (z8 (hK _ _ ?_));clear hK K;refine Cs.nil ?_;refine hN0 _ _ ?_;refine MwIm.rs [4] ?_;refine Cs.ret ?_;refine hQ _ _ ?_;rw[z7w hxl];refine zm.mkR (fun q=>if q=3 then 5 else q) (.slc true 3 0 0 (n+1)) (⟨4,[(3,Sk.one (.row ⟨true,false,45,2,n+1,rws (xs++[⟨(ro xs v.toNat).key,(ro xs v.toNat).val⟩])⟩)),(0,zj 1 m at2)]⟩) (.inl rfl) ?_;refine z26 ?_;refine⟨z2z,z2z,(z7i (fun q=>if q=3 then 5 else q)),z2z,?_⟩;exact⟨xs++[⟨(ro xs v.toNat).key,(ro xs v.toNat).val⟩],at2,g1,by simp[hxl],by simp[hxl],by simp[hxl,zj]⟩
  ·intro h42
   refine Cs.reg [1] rfl ?_;intro K hK;iterate 2 (refine z34 z5 ?_)
   refine z34 z5 ?_;refine z58 (row_spec ls m at3 hx hmm h3) (id) ?_;rintro s0 H0 ⟨r,at2,g1,rfl,rfl⟩ s1 H1 hs1 hH1;obtain⟨hs2,hH2⟩:=MwIm.af hs1 hH1;clear hs1 hH1;subst hs2 hH2;repeat(with_reducible apply ai;exact z7)
   iterate 3 (refine z34 z5 ?_)
   refine za (z8 (hK _ _ ?_));clear hK K;refine Cs.nil ?_;refine hN0 _ _ ?_;refine MwIm.rs [4] ?_;refine Cs.ret ?_;refine hQ _ _ ?_;rw[z7w hxl];refine zm.mkR (fun q=>if q=3 then 5 else q) (.slc true 3 0 0 (n+1)) (⟨4,[(3,Sk.one (.row ⟨true,false,45,2,n+1,rws (xs++[⟨r.key,r.val⟩])⟩)),(0,zj 1 m at2)]⟩) (.inl rfl) ?_;refine z26 ?_;refine⟨z2z,z2z,(z7i (fun q=>if q=3 then 5 else q)),z2z,?_⟩;exact⟨xs++[⟨r.key,r.val⟩],at2,g1,by simp[hxl],by simp[hxl],by simp[hxl,zj]⟩
end Go.Proofs

namespace Go.Proofs
open Go.Sk
theorem Tryz.szU32w:z4n Tryz.prog 38=1:=by kernel_rfl
theorem fin5_n (x:Fin 5)(m:Nat):(x.val<m+5)=True:=eq_true (Nat.lt_of_lt_of_le x.isLt (by omega))
theorem fin5_if5 (x:Fin 5)(m:Nat):(if x.val=5 then m else x.val)=x.val:=if_neg (fun e=>by have:=x.isLt;omega)
def cellK {N:Nat}(x:Hm)(κ:Fin N×Nat):List SV:=[.int .i64 x.nd.id,.str x.nd.key,.int .u32 x.nd.word,.slc false κ.1.val κ.2 x.off x.n]
theorem cellK_wk {N m:Nat}(h:N≤m)(x:Hm)(κ:Fin N×Nat):(∀s∈cellK x κ,s.scalar=true)∧SV.ltL m (cellK x κ):=row4_wk (Nat.lt_of_lt_of_le κ.1.isLt h)
theorem some_cells {n N:Nat}{F:Nat→List SV}{P:Hm→Fin N×Nat→Prop}(hN:0<N)(h:∀q,q<n→∃x κ,SV.wkL (F q) (cellK x κ)∧P x κ):∃(f:Nat→Hm) (κ:Nat→Fin N×Nat),∀q,q<n→SV.wkL (F q) (cellK (f q) (κ q))∧P (f q) (κ q):=by
 refine⟨fun q=>if hq:q<n then(h q hq).choose else noHm,fun q=>if hq:q<n then(h q hq).choose_spec.choose else(⟨0,hN⟩,0),fun q hq=> ?_⟩;have:=(h q hq).choose_spec.choose_spec;simp only[dif_pos hq];exact this
def PK (p:Prop)(l:List Hm)(r:List Rw)(b:Nat)(x:Hm)(κ:Fin 5×Nat):Prop:=((∃m t,m<l.length∧κ=(3,m+1)∧x.full=(hm l m).full.take t)∨(κ=(4,0)∧p∧∃t,x.full=r.take t))∧x.off≤x.full.length∧x.full.length≤b
def QK (p:Prop)(l:List Hm)(r r6:List Rw)(b:Nat)(x:Hm)(κ:Fin 7×Nat):Prop:=((∃m t,m<l.length∧κ=(3,m+1)∧x.full=(hm l m).full.take t)∨(κ=(4,0)∧p∧∃t,x.full=r.take t)∨(κ=(6,0)∧x.full=r6))∧x.off≤x.full.length∧x.full.length≤b+1
def up7 (κ:Fin 5×Nat):Fin 7×Nat:=(⟨κ.1.val,Nat.lt_of_lt_of_le κ.1.isLt (by decide)⟩,κ.2)
theorem PK.up {p:Prop}{l:List Hm}{r:List Rw}(r6:List Rw){b:Nat}{x:Hm}{κ:Fin 5×Nat}(h:PK p l r b x κ)(y:Nd):QK p l r r6 b ⟨y,x.full,x.off⟩ (up7 κ):=by
 obtain⟨h1,h2,h3⟩:=h;refine⟨?_,h2,by show x.full.length≤b+1;omega⟩;rcases h1 with⟨m,t,e1,e2,e3⟩|⟨e1,hp,t,e2⟩
 ·exact .inl ⟨m,t,e1,by rw[e2];rfl,e3⟩
 ·exact .inr (.inl ⟨by rw[e1];rfl,hp,t,e2⟩)
theorem cellUp {x:Hm}{κ:Fin 5×Nat}(y:Nd)(a:List SV)(h:a=[.int .i64 y.id,.str y.key,.int .u32 y.word,.slc false κ.1.val κ.2 x.off x.n]):SV.wkL a (cellK (⟨y,x.full,x.off⟩:Hm) (up7 κ)):=by
 subst h;exact⟨rfl,rfl,rfl,rfl,trivial⟩
theorem app_one {n i:Nat}{F:Nat→List SV}{a b c d:SV}(hi:i<n+1):app F n (z7r 4 1 [a,b,c,d]) i=if i<n then F i else [a,b,c,d]:=by
 rw[app]
 by_cases e:i<n
 ·rw[if_pos e,if_pos e]
 ·rw[if_neg e,if_neg e,show i-n=0 by omega];have h:=rowsOf_ok (sz:=4) (n:=1) (cs:=[a,b,c,d]) rfl 0 (by decide);refine List.ext_getElem? fun j=> ?_
  by_cases hj:j<4
  ·rw[h.2 j hj,Nat.zero_mul,Nat.zero_add]
  ·rw[List.getElem?_eq_none (by rw[h.1];omega),List.getElem?_eq_none (by simp;omega)]
theorem odd_gen {p:Prop}{l:List Hm}{r:List Rw}{b n n':Nat}{f:Nat→Hm}{κ:Nat→Fin 5×Nat}(hP:∀i,i<n→PK p l r b (f i) (κ i)){F:Nat→List SV}(h:∀q,q<n'→∃j,∃y:Nd,j<n∧F q=[.int .i64 y.id,.str y.key,.int .u32 y.word,.slc false (κ j).1.val (κ j).2 (f j).off (f j).n])(r6:List Rw):∃(f':Nat→Hm) (κ':Nat→Fin 7×Nat),∀q,q<n'→SV.wkL (F q) (cellK (f' q) (κ' q))∧QK p l r r6 b (f' q) (κ' q):=
 some_cells (by decide) fun q hq=>by
  obtain⟨j,y,h1,h2⟩:=h q hq;exact⟨_,_,cellUp y _ h2,(hP j h1).up r6 y⟩
theorem z6x {a:Prop}(h:a:=by simp[SV.wkL,SV.wk,z1i,z1b,Sk.get,Sk.find,Sk.one,zb.eq_1,zb.eq_2,zb.eq_3,zo,z1k,z1g,SV.renL,SV.ren,Obj.lt_row,SV.ltL,SV.lt,z7c,z3q,zw,z25,Obj.own.eq_1,Obj.own.eq_2,Obj.own.eq_3,Obj.own.eq_4,z1e,zn,zr,z1w,nds,Nd.sv,z19,z2h,Rg.sv,Rw.sv,zj,z1t,z43,z7x,z33,z14,zx,z3a,z3b,z28,fin5_n,fin5_if5,Fin.is_lt,z4j,z4m,z15,z1h,z18]):a:=h
theorem MwJm.ca {P:Program}{f:FuncId}{args args0:List SV}{H0 H:AH}{R:SV→AH→Prop}{dr:Bool}{W:List Nat}{k:SV→AH→Prop}(hF:ze P f args0 H0 R)(ρ:Nat→Nat)(hk:∀s0 H1,R s0 H1→∀s1 H2,s1=s0.ren (z57 H0.nxt H.nxt ρ)→H2=after H0.nxt ρ H0 H H1→k s1 H2)(q:CaQ args args0 ρ H0 H dr W:=by constructor<;>exact z6x)(r:CaR ρ H0 H:=by exact⟨rfl,rfl⟩):z4u P f args H dr W k:=caS hF ρ hk q r
theorem MwJm.t {s e:SV}{H g:AH}(q:AfQ s e H g:=by constructor<;>(simp only[z1x,after,z57,id,z2q,reduceCtorEq,Nat.reduceEqDiff,zc5,zc6,z5u,z2p,zw,Sk.one,Obj.own.eq_1,Obj.own.eq_2,Obj.own.eq_3,Obj.own.eq_4,Obj.ren.eq_1,Obj.ren.eq_2,Obj.ren_blk,Row.ren,SV.ren,SV.renL,↓reduceIte,Nat.reduceLT,Nat.reduceAdd,Nat.reduceSub,Tryz.tyInt,Tryz.szInt,Tryz.tyStr,Tryz.tyU32,Tryz.tyNode,Tryz.szNode,Tryz.zNode,Tryz.tyNodes,Tryz.szNodes,z1e,zn,nds,Nd.sv,Tryz.tyHd,Tryz.szHd,Tryz.zHd,Tryz.tyHds,Tryz.szHds,Tryz.szU32w,Tryz.tyInts,Tryz.szInts,Tryz.zInt,z8a,Tryz.tyRow,Tryz.szRow,Tryz.zRow,Tryz.tyRows,Tryz.szRows,Tryz.tyLets,Tryz.szStr,Tryz.tyBd,Tryz.zBd,Rw.sv,Tryz.tyErr,Tryz.tyTape,Tryz.szTape,Tryz.zTape,zj,z1t,Tryz.tyRg,Tryz.szRg,Tryz.zRg,Rg.sv,z79,z6i,z4b,z6m,fam_ren,hmF_ren];exact rfl)):AfQ s e H g:=q
theorem MwJm.af {s e e1:SV}{H g g1:AH}(h1:s=e)(h2:H=g)(q:AfQ e e1 g g1:=by exact MwJm.t):s=e1∧H=g1:=⟨h1.trans q.s,h2.trans q.h⟩
theorem MwJm.g {X:Cx}{fr:Fr}{H:AH}{fr1:Fr}{H1:AH}(ρ:Nat→Nat)(q:GvQ X ρ fr H fr1 H1:=by constructor<;>exact z6x)(r:GvR X ρ H1:=by exact⟨rfl,rfl,Nat.le_of_ble_eq_true rfl,rfl⟩):z2v X ρ fr H fr1 H1:=gvS ρ q r
theorem z6c {a c d:Prop}(r:a→c)(h:d)(e:Sd a d:=by simp only[stp,isQ,z4q,Sk.get,Sk.put,z24,zt,↓reduceIte,reduceCtorEq,Nat.reduceEqDiff,zc2,zc3,implies_true,forall_const,zc5,qop,grdK,zc4,List.getElem?_cons_zero,beq_self_eq_true,zc1,z13,cond_true,cond_false,z3x,Sk.find,Sk.one,z17,z1u,Kd.agg,Nat.reduceBEq,ite_self,Nat.zero_add,Nat.reduceAdd,Nat.reduceMul,Nat.reduceSub,Nat.reduceLT,Nat.reduceLeDiff,Nat.zero_le,ne_eq,Int.reduceToNat,exists_eq',spl,z29,SV.cells,SV.scalar,binK,z5o,z5n,intK,z2x,strK,z37,z5m,z3u,unK,z5p,z5i,z39,z3c,z5c,z3d,z3e,optK,z3g,bndK,z36,z38,z55,z3k,lenK,z1a.len,zq.n,z50,mmK,z1y,eop,z5s,srcK,z1f,z44,z3o,capK,z5t,z2c,z2q,z30,boxK,z2d,z3m,z31,updF,mkK,z5a,z1a.ofKd,zq.ofKd,z5b,z1a.add,z1a.okKd,zq.put,zq.okKd,zq.okP,z3f,z1a.has,zq.get,zq.z,Tryz.tyInt,Tryz.szInt,Tryz.tyStr,Tryz.tyU32,Tryz.tyNode,Tryz.szNode,Tryz.zNode,Tryz.tyNodes,Tryz.szNodes,z1e,zn,nds,Nd.sv,Tryz.tyHd,Tryz.szHd,Tryz.zHd,Tryz.tyHds,Tryz.szHds,Tryz.szU32w,Tryz.tyInts,Tryz.szInts,Tryz.zInt,z8a,Tryz.tyRow,Tryz.szRow,Tryz.zRow,Tryz.tyRows,Tryz.szRows,Tryz.tyLets,Tryz.szStr,Tryz.tyBd,Tryz.zBd,z86,z8p,Rw.sv,Tryz.tyErr,Tryz.tyTape,Tryz.szTape,Tryz.zTape,zj,z1t,ints,Tryz.tyRg,Tryz.szRg,Tryz.zRg,Rg.sv,z79];(repeat(with_reducible apply Sd.and;exact z7));exact Sd.rfl):c:=r (e.f h)
theorem MwJm.rg {X:Cx}{Q:Exit→Fr→AH→Prop}{fr fr1:Fr}{H H1:AH}{l:List Code}{id:Nat}{ops:List Oper}(keep:List Nat)(h:Cs X l Q fr1 H1)(hd:z2b X.n ops=true:=by exact rfl)(e:∀K:Fr→AH→Prop,K fr1 H1→z5v X.P X.wrap X.m0 ops.toArray ops fr H (fun fr H=>K (prune keep fr) H):=by(intro K hK;(repeat(refine z6c z5 ?_));exact za (z8 hK))):Cs X (.region id ops.toArray false::l) Q fr H:=rgS keep h hd e
theorem MwJm.rs {X:Cx}{Q:Exit→Fr→AH→Prop}{fr fr1:Fr}{H H1:AH}{l:List Code}{id:Nat}{ops:List Oper}{y:Code}(keep:List Nat)(h:Cs X (y::l) Q fr1 H1)(hd:z2b X.n ops=true:=by exact rfl)(e:∀K:Fr→AH→Prop,K fr1 H1→z5v X.P X.wrap X.m0 ops.toArray ops fr H (fun fr H=>K (prune keep fr) H):=by(intro K hK;(repeat(refine z6c z5 ?_));exact za (z8 hK))):Cs X (.seq (.region id ops.toArray false) y::l) Q fr H:=Cs.seq (rgS keep h hd e)
set_option maxHeartbeats 4000000 in
theorem odd_spec (p:Prop)(ls:List Int)(m at_:Nat)(hx:ls.length≤9223372036854775807)(hmm:m≤ls.length)(ha:at_≤m)(l:List Hm)(r:List Rw)(b:Nat)(hb:b≤2000)(n:Nat)(hn:n≤90)(f:Nat→Hm)(κ:Nat→Fin 5×Nat)(hP:∀i,i<n→PK p l r b (f i) (κ i)):
  ze Tryz.prog 8 [.ptr 0 0 0 0,.slc false 2 0 0 n] ⟨5,[(0,zj 1 m at_),(1,z1t ls),(2,Sk.one (.row ⟨false,false,43,4,n,fun i=>[.int .i64 (f i).nd.id,.str (f i).nd.key,.int .u32 (f i).nd.word,.slc false (κ i).1.val (κ i).2 (f i).off (f i).n]⟩)),(3,(l.length+1,fam false 45 2 (hmF false l))),(4,Sk.one (.row ⟨false,false,45,2,r.length,rws r⟩))]⟩
   (fun s H1=> ∃(n':Nat) (f':Nat→Hm) (κ':Nat→Fin 7×Nat) (r6:List Rw) (at1:Nat),at1≤m∧n'≤n+1∧(∀i,i<n'→QK p l r r6 b (f' i) (κ' i))∧s= .slc true 5 0 0 n'∧H1=⟨7,[(5,Sk.one (.row ⟨true,false,43,4,n',fun i=>[.int .i64 (f' i).nd.id,.str (f' i).nd.key,.int .u32 (f' i).nd.word,.slc false (κ' i).1.val (κ' i).2 (f' i).off (f' i).n]⟩)),(6,Sk.one (.row ⟨true,false,45,2,r6.length,rws r6⟩)),(0,zj 1 m at1)]⟩):=by
 refine ze.ofC false 81 [.tmp 4] Tryz.func8 rfl rfl Tryz.ntmps8 Tryz.results8 rfl ?_;intro w0 own0 β0 Q hQ hQn;simp only[z1n];refine MwJm.rs [0,1] ?_;refine MwJm.rs [0,1] ?_;refine Cs.seq ?_;refine MwJm.rs [0,1,10] ?_;refine Cs.cond _ rfl ?_ ?_
 ·intro h10;have hn0:n=0:=by simpa using h10
  refine MwJm.rs [4] ?_;obtain⟨f',κ',hfk⟩:=odd_gen hP (n':=n) (F:=fun i=>[.int .i64 (f i).nd.id,.str (f i).nd.key,.int .u32 (f i).nd.word,.slc false (κ i).1.val (κ i).2 (f i).off (f i).n]) (fun q hq=>⟨q,(f q).nd,hq,rfl⟩) [];refine Cs.fam0 45 2 (hmF true []) ?_;dsimp only;refine Cs.wkRow 5 (fun i=>[.int .i64 (f' i).nd.id,.str (f' i).nd.key,.int .u32 (f' i).nd.word,.slc false (κ' i).1.val (κ' i).2 (f' i).off (f' i).n]) rfl rfl (fun q hq=>⟨(hfk q hq).1,cellK_wk (Nat.le_of_ble_eq_true rfl) _ _⟩) ?_;simp only[z44,↓reduceIte,Sk.one,Nat.reduceEqDiff];refine Cs.ret ?_;refine hQ _ _ ?_;refine zm.mk (H':=⟨7,[(5,Sk.one (.row ⟨true,false,43,4,n,fun i=>[.int .i64 (f' i).nd.id,.str (f' i).nd.key,.int .u32 (f' i).nd.word,.slc false (κ' i).1.val (κ' i).2 (f' i).off (f' i).n]⟩)),(6,Sk.one (.row ⟨true,false,45,2,0,rws []⟩)),(0,zj 1 m at_)]⟩) (.inl rfl) ?_;refine z26 ?_;refine⟨z6x,(MwJm.g id),z6x,?_⟩;exact⟨n,f',κ',[],at_,ha,by omega,fun i hi=>(hfk i hi).2,by trivial,by trivial⟩
 ·intro h10;have hn0:¬n=0:=by simpa using h10
  refine Cs.skip ?_;refine sg [0,1,5] rfl ?_;intro K hK;iterate 4 (refine z6c z5 ?_)
  refine z6c z5 ?_;refine MwJm.ca (z35 ls m at_ n hx hmm ha (by omega)) (id) ?_;rintro s0 H0 ⟨v,at1,h1,h2,h3,h4,rfl,rfl⟩ s1 H1 hs1 hH1;obtain⟨hs2,hH2⟩:=MwJm.af hs1 hH1;clear hs1 hH1;subst hs2 hH2;repeat(with_reducible apply ai;exact z7)
  have hv:=h3 (by omega);iterate 2 (refine z6c z5 ?_)
  refine za (z8 (hK _ _ ?_));clear hK K;refine Cs.seq ?_;refine sg [0,1,5,19] rfl ?_;intro K hK;refine z6c z5 ?_;refine z6c z5 ?_;refine MwJm.ca (z35 ls m at1 7 hx hmm h1 (by omega)) (id) ?_;rintro s0 H0 ⟨w,at2,g1,g2,g3,g4,rfl,rfl⟩ s1 H1 hs1 hH1;obtain⟨hs2,hH2⟩:=MwJm.af hs1 hH1;clear hs1 hH1;subst hs2 hH2;repeat(with_reducible apply ai;exact z7)
  refine za (z8 (hK _ _ ?_));clear hK K;refine Cs.block ?_;intro Q0 hN0 hX0 hR0 hE0;refine MwJm.rs [0,1,5,19,20] ?_;refine Cs.cond _ rfl ?_ ?_
  ·intro h20
   try replace h20:=z6 h20
   refine Cs.reg [1] rfl ?_;intro K hK;iterate 2 (refine z6c z5 ?_)
   refine z6c z5 ?_;refine MwJm.ca (oddKey_spec ls m at2 hx hmm g1) (id) ?_;rintro s0 H0 ⟨key,at3,p1,p2,rfl,rfl⟩ s1 H1 hs1 hH1;obtain⟨hs2,hH2⟩:=MwJm.af hs1 hH1;clear hs1 hH1;subst hs2 hH2;repeat(with_reducible apply ai;exact z7)
   iterate 4 (refine z6c z5 ?_)
   refine za (z8 (hK _ _ ?_));clear hK K;refine Cs.nil ?_;refine hN0 _ _ ?_;refine Cs.seq ?_
   obtain⟨f',κ',hfk⟩:=odd_gen hP (n':=n) (F:=fun i'=>if i'=v.toNat then [.int .i64 (f v.toNat).nd.id,.str key,.int .u32 (f v.toNat).nd.word,.slc false (κ v.toNat).1.val (κ v.toNat).2 (f v.toNat).off (f v.toNat).n] else [.int .i64 (f i').nd.id,.str (f i').nd.key,.int .u32 (f i').nd.word,.slc false (κ i').1.val (κ i').2 (f i').off (f i').n]) (fun q hq=>by
    by_cases e:q=v.toNat
    ·exact⟨v.toNat,⟨(f v.toNat).nd.id,key,(f v.toNat).nd.word⟩,by omega,by rw[if_pos e]⟩
    ·exact⟨q,(f q).nd,hq,by rw[if_neg e]⟩) []
   refine Cs.fam0 45 2 (hmF true []) ?_;dsimp only;refine Cs.wkRow 5 (fun i=>[.int .i64 (f' i).nd.id,.str (f' i).nd.key,.int .u32 (f' i).nd.word,.slc false (κ' i).1.val (κ' i).2 (f' i).off (f' i).n]) rfl rfl (fun q hq=>⟨(hfk q hq).1,cellK_wk (Nat.le_of_ble_eq_true rfl) _ _⟩) ?_;simp only[z44,↓reduceIte,Sk.one,Nat.reduceEqDiff];refine MwJm.rg [4] ?_;refine Cs.ret ?_;refine hQ _ _ ?_;refine zm.mk (H':=⟨7,[(5,Sk.one (.row ⟨true,false,43,4,n,fun i=>[.int .i64 (f' i).nd.id,.str (f' i).nd.key,.int .u32 (f' i).nd.word,.slc false (κ' i).1.val (κ' i).2 (f' i).off (f' i).n]⟩)),(6,Sk.one (.row ⟨true,false,45,2,0,rws []⟩)),(0,zj 1 m at3)]⟩) (.inl rfl) ?_;refine z26 ?_;refine⟨z6x,(MwJm.g id),z6x,?_⟩;exact⟨n,f',κ',[],at3,p1,by omega,fun i hi=>(hfk i hi).2,by trivial,by trivial⟩
  ·intro h20
   try replace h20:=z6 h20
   refine MwJm.rs [0,1,5,19,28] ?_;refine Cs.cond _ rfl ?_ ?_
   ·intro h28
    try replace h28:=z6 h28
    refine Cs.reg [1] rfl ?_;intro K hK;iterate 3 (refine z6c z5 ?_)
    refine z6c z5 ?_;refine MwJm.ca (pick_spec ls [0,1,2] m at2 hx hmm g1 (by simp) (by simp)) (fun i=>if i=2 then 6 else i) ?_;rintro s0 H0 ⟨pi,at3,p1,p2,rfl,rfl⟩ s1 H1 hs1 hH1;obtain⟨hs2,hH2⟩:=MwJm.af hs1 hH1;clear hs1 hH1;subst hs2 hH2;repeat(with_reducible apply ai;exact z7)
    iterate 4 (refine z6c z5 ?_)
    refine za (z8 (hK _ _ ?_));clear hK K;refine Cs.nil ?_;refine hN0 _ _ ?_;refine Cs.seq ?_;refine Cs.give (H':=⟨6,[(5,Sk.one (.row ⟨true,false,43,4,n,fun i'=>if i'=v.toNat then [.int .i64 (nth [0,1,2] pi),.str (f v.toNat).nd.key,.int .u32 (f v.toNat).nd.word,.slc false (κ v.toNat).1.val (κ v.toNat).2 (f v.toNat).off (f v.toNat).n] else [.int .i64 (f i').nd.id,.str (f i').nd.key,.int .u32 (f i').nd.word,.slc false (κ i').1.val (κ i').2 (f i').off (f i').n]⟩)),(0,zj 1 m at3),(1,z1t ls),(3,(l.length+1,fam false 45 2 (hmF false l))),(4,Sk.one (.row ⟨false,false,45,2,r.length,rws r⟩))]⟩) (fr':=[(1,.slc true 5 0 0 n)]) id (MwJm.g id) ?_
    obtain⟨f',κ',hfk⟩:=odd_gen hP (n':=n) (F:=fun i'=>if i'=v.toNat then [.int .i64 (nth [0,1,2] pi),.str (f v.toNat).nd.key,.int .u32 (f v.toNat).nd.word,.slc false (κ v.toNat).1.val (κ v.toNat).2 (f v.toNat).off (f v.toNat).n] else [.int .i64 (f i').nd.id,.str (f i').nd.key,.int .u32 (f i').nd.word,.slc false (κ i').1.val (κ i').2 (f i').off (f i').n]) (fun q hq=>by
     by_cases e:q=v.toNat
     ·exact⟨v.toNat,⟨nth [0,1,2] pi,(f v.toNat).nd.key,(f v.toNat).nd.word⟩,by omega,by rw[if_pos e]⟩
     ·exact⟨q,(f q).nd,hq,by rw[if_neg e]⟩) []
    refine Cs.fam0 45 2 (hmF true []) ?_;dsimp only;refine Cs.wkRow 5 (fun i=>[.int .i64 (f' i).nd.id,.str (f' i).nd.key,.int .u32 (f' i).nd.word,.slc false (κ' i).1.val (κ' i).2 (f' i).off (f' i).n]) rfl rfl (fun q hq=>⟨(hfk q hq).1,cellK_wk (Nat.le_of_ble_eq_true rfl) _ _⟩) ?_;simp only[z44,↓reduceIte,Sk.one,Nat.reduceEqDiff];refine MwJm.rg [4] ?_;refine Cs.ret ?_;refine hQ _ _ ?_;refine zm.mk (H':=⟨7,[(5,Sk.one (.row ⟨true,false,43,4,n,fun i=>[.int .i64 (f' i).nd.id,.str (f' i).nd.key,.int .u32 (f' i).nd.word,.slc false (κ' i).1.val (κ' i).2 (f' i).off (f' i).n]⟩)),(6,Sk.one (.row ⟨true,false,45,2,0,rws []⟩)),(0,zj 1 m at3)]⟩) (.inl rfl) ?_;refine z26 ?_;refine⟨z6x,(MwJm.g id),z6x,?_⟩;exact⟨n,f',κ',[],at3,p1,by omega,fun i hi=>(hfk i hi).2,by trivial,by trivial⟩
   ·intro h28
    try replace h28:=z6 h28
    refine MwJm.rs [0,1,5,19,37] ?_;refine Cs.cond _ rfl ?_ ?_
    ·intro h37;obtain⟨hPv,hoff,hfl⟩:=hP v.toNat (by omega);have hsum:(f v.toNat).off+(f v.toNat).n=(f v.toNat).full.length:=by simp only[Hm.n];omega
     obtain⟨mm,t,e1,e2,e3⟩|⟨e2,_,t,e3⟩:=hPv
     ·skip
      refine Cs.reg [1] rfl ?_;intro K hK;iterate 6 (refine z6c z5 ?_)
      refine z6c z5 ?_;rw[show(κ v.toNat).1.val=3 by rw[e2];rfl,show(κ v.toNat).2=mm+1 by rw[e2]];have hle:(f v.toNat).full.length≤(hm l mm).full.length:=by rw[e3,List.length_take];exact Nat.min_le_right _ _
      refine MwJm.ca (oddRowsM_spec ls m at2 hx hmm g1 l mm l.length e1 (f v.toNat).off (f v.toNat).n (by omega) (by omega)) (fun i=>if i=2 then 3 else i) ?_;rintro s0 H0 ⟨out,at3,p1,p2,rfl,rfl⟩ s1 H1 hs1 hH1;obtain⟨hs2,hH2⟩:=MwJm.af hs1 hH1;clear hs1 hH1;subst hs2 hH2;repeat(with_reducible apply ai;exact z7)
      iterate 3 (refine z6c z5 ?_)
      refine za (z8 (hK _ _ ?_));clear hK K;refine Cs.nil ?_;refine hN0 _ _ ?_;refine Cs.seq ?_
      obtain⟨f',κ',hfk⟩:∃(f':Nat→Hm) (κ':Nat→Fin 7×Nat),∀q,q<n→SV.wkL ((fun i'=>if i'=v.toNat then [.int .i64 (f v.toNat).nd.id,.str (f v.toNat).nd.key,.int .u32 (f v.toNat).nd.word,.slc true 6 0 0 out.length] else [.int .i64 (f i').nd.id,.str (f i').nd.key,.int .u32 (f i').nd.word,.slc false (κ i').1.val (κ i').2 (f i').off (f i').n]) q) (cellK (f' q) (κ' q))∧QK p l r out b (f' q) (κ' q):=some_cells (by decide) fun q hq=>by
       by_cases e:q=v.toNat
       ·refine⟨⟨(f v.toNat).nd,out,0⟩,(6,0),?_,.inr (.inr ⟨rfl,rfl⟩),Nat.zero_le _,by dsimp only;omega⟩;rw[if_pos e];exact⟨rfl,rfl,rfl,⟨rfl,rfl,rfl,rfl⟩,trivial⟩
       ·exact⟨_,_,cellUp (f q).nd _ (by rw[if_neg e]),(hP q hq).up out _⟩
      refine Cs.wkRow 5 (fun i=>[.int .i64 (f' i).nd.id,.str (f' i).nd.key,.int .u32 (f' i).nd.word,.slc false (κ' i).1.val (κ' i).2 (f' i).off (f' i).n]) rfl rfl (fun q hq=>⟨(hfk q hq).1,cellK_wk (Nat.le_of_ble_eq_true rfl) _ _⟩) ?_;simp only[z44,↓reduceIte,Sk.one,Nat.reduceEqDiff];refine MwJm.rg [4] ?_;refine Cs.ret ?_;refine hQ _ _ ?_;refine zm.mk (H':=⟨7,[(5,Sk.one (.row ⟨true,false,43,4,n,fun i=>[.int .i64 (f' i).nd.id,.str (f' i).nd.key,.int .u32 (f' i).nd.word,.slc false (κ' i).1.val (κ' i).2 (f' i).off (f' i).n]⟩)),(6,Sk.one (.row ⟨true,false,45,2,out.length,rws out⟩)),(0,zj 1 m at3)]⟩) (.inl rfl) ?_;refine z26 ?_;refine⟨z6x,(MwJm.g id),z6x,?_⟩;exact⟨n,f',κ',out,at3,p1,by omega,fun i hi=>(hfk i hi).2,by trivial,by trivial⟩
     ·skip
      refine Cs.reg [1] rfl ?_;intro K hK;iterate 6 (refine z6c z5 ?_)
      refine z6c z5 ?_;rw[show(κ v.toNat).1.val=4 by rw[e2];rfl,show(κ v.toNat).2=0 by rw[e2]];have hle:(f v.toNat).full.length≤r.length:=by rw[e3,List.length_take];exact Nat.min_le_right _ _
      refine MwJm.ca (oddRows0_spec ls m at2 hx hmm g1 r (f v.toNat).off (f v.toNat).n (by omega) (by omega)) (fun i=>if i=2 then 4 else i) ?_;rintro s0 H0 ⟨out,at3,p1,p2,rfl,rfl⟩ s1 H1 hs1 hH1;obtain⟨hs2,hH2⟩:=MwJm.af hs1 hH1;clear hs1 hH1;subst hs2 hH2;repeat(with_reducible apply ai;exact z7)
      iterate 3 (refine z6c z5 ?_)
      refine za (z8 (hK _ _ ?_));clear hK K;refine Cs.nil ?_;refine hN0 _ _ ?_;refine Cs.seq ?_
      obtain⟨f',κ',hfk⟩:∃(f':Nat→Hm) (κ':Nat→Fin 7×Nat),∀q,q<n→SV.wkL ((fun i'=>if i'=v.toNat then [.int .i64 (f v.toNat).nd.id,.str (f v.toNat).nd.key,.int .u32 (f v.toNat).nd.word,.slc true 6 0 0 out.length] else [.int .i64 (f i').nd.id,.str (f i').nd.key,.int .u32 (f i').nd.word,.slc false (κ i').1.val (κ i').2 (f i').off (f i').n]) q) (cellK (f' q) (κ' q))∧QK p l r out b (f' q) (κ' q):=some_cells (by decide) fun q hq=>by
       by_cases e:q=v.toNat
       ·refine⟨⟨(f v.toNat).nd,out,0⟩,(6,0),?_,.inr (.inr ⟨rfl,rfl⟩),Nat.zero_le _,by dsimp only;omega⟩;rw[if_pos e];exact⟨rfl,rfl,rfl,⟨rfl,rfl,rfl,rfl⟩,trivial⟩
       ·exact⟨_,_,cellUp (f q).nd _ (by rw[if_neg e]),(hP q hq).up out _⟩
      refine Cs.wkRow 5 (fun i=>[.int .i64 (f' i).nd.id,.str (f' i).nd.key,.int .u32 (f' i).nd.word,.slc false (κ' i).1.val (κ' i).2 (f' i).off (f' i).n]) rfl rfl (fun q hq=>⟨(hfk q hq).1,cellK_wk (Nat.le_of_ble_eq_true rfl) _ _⟩) ?_;simp only[z44,↓reduceIte,Sk.one,Nat.reduceEqDiff];refine MwJm.rg [4] ?_;refine Cs.ret ?_;refine hQ _ _ ?_;refine zm.mk (H':=⟨7,[(5,Sk.one (.row ⟨true,false,43,4,n,fun i=>[.int .i64 (f' i).nd.id,.str (f' i).nd.key,.int .u32 (f' i).nd.word,.slc false (κ' i).1.val (κ' i).2 (f' i).off (f' i).n]⟩)),(6,Sk.one (.row ⟨true,false,45,2,out.length,rws out⟩)),(0,zj 1 m at3)]⟩) (.inl rfl) ?_;refine z26 ?_;refine⟨z6x,(MwJm.g id),z6x,?_⟩;exact⟨n,f',κ',out,at3,p1,by omega,fun i hi=>(hfk i hi).2,by trivial,by trivial⟩
    ·intro h37
     try replace h37:=z6 h37
     refine MwJm.rs [1,5,19,48] ?_;refine Cs.cond _ rfl ?_ ?_
     ·intro h48
      try replace h48:=z6 h48
      refine MwJm.rg [1] ?_;refine Cs.nil ?_;refine hN0 _ _ ?_;refine Cs.seq ?_
      obtain⟨f',κ',hfk⟩:=odd_gen hP (n':=n) (F:=fun i'=>if i'=v.toNat then [.int .i64 (f v.toNat).nd.id,.str (f v.toNat).nd.key,.int .u32 2147483648,.slc false (κ v.toNat).1.val (κ v.toNat).2 (f v.toNat).off (f v.toNat).n] else [.int .i64 (f i').nd.id,.str (f i').nd.key,.int .u32 (f i').nd.word,.slc false (κ i').1.val (κ i').2 (f i').off (f i').n]) (fun q hq=>by
       by_cases e:q=v.toNat
       ·exact⟨v.toNat,⟨(f v.toNat).nd.id,(f v.toNat).nd.key,2147483648⟩,by omega,by rw[if_pos e]⟩
       ·exact⟨q,(f q).nd,hq,by rw[if_neg e]⟩) []
      refine Cs.fam0 45 2 (hmF true []) ?_;dsimp only;refine Cs.wkRow 5 (fun i=>[.int .i64 (f' i).nd.id,.str (f' i).nd.key,.int .u32 (f' i).nd.word,.slc false (κ' i).1.val (κ' i).2 (f' i).off (f' i).n]) rfl rfl (fun q hq=>⟨(hfk q hq).1,cellK_wk (Nat.le_of_ble_eq_true rfl) _ _⟩) ?_;simp only[z44,↓reduceIte,Sk.one,Nat.reduceEqDiff];refine MwJm.rg [4] ?_;refine Cs.ret ?_;refine hQ _ _ ?_;refine zm.mk (H':=⟨7,[(5,Sk.one (.row ⟨true,false,43,4,n,fun i=>[.int .i64 (f' i).nd.id,.str (f' i).nd.key,.int .u32 (f' i).nd.word,.slc false (κ' i).1.val (κ' i).2 (f' i).off (f' i).n]⟩)),(6,Sk.one (.row ⟨true,false,45,2,0,rws []⟩)),(0,zj 1 m at2)]⟩) (.inl rfl) ?_;refine z26 ?_;refine⟨z6x,(MwJm.g id),z6x,?_⟩;exact⟨n,f',κ',[],at2,g1,by omega,fun i hi=>(hfk i hi).2,by trivial,by trivial⟩
     ·intro h48
      try replace h48:=z6 h48
      refine MwJm.rs [1,5,19,54] ?_;refine Cs.cond _ rfl ?_ ?_
      ·intro h54
       try replace h54:=z6 h54
       refine Cs.regDraw [1] [0,1,2,3,4,5,6,7,8,9,10,11,12,13,14,15,16,17] [[],[],[],[2],[2,3],[],[],[6],[6,7],[5,6,7,8],[5,6,7,8,9],[],[11],[11,12],[0,5,6,7,8,9,10,11,12,13],[0,5,6,7,8,9,10,11,12,13,14],[0,1,2,3,4,5,6,7,8,9,10,11,12,13,14,15],[0,1,2,3,4,5,6,7,8,9,10,11,12,13,14,15,16]] [[],[],[],[],[],[],[],[],[],[],[],[],[],[],[],[5],[],[5]] [[],[5],[5],[5],[5],[],[],[],[],[],[],[],[],[],[],[5],[5],[5]] Tryz.mo rfl rfl rfl (by kernel_rfl) (by kernel_rfl) (by kernel_rfl) rfl (by kernel_rfl) ?_;intro K hK;refine z6c (zf _ [] [] rfl rfl rfl) ?_;iterate 4 (refine z6c (zf _ [] [5] rfl rfl rfl) ?_)
       iterate 5 (refine z6c (zf _ [] [] rfl rfl rfl) ?_)
       rw[show((n:Int)-1).toNat=n-1 by omega];repeat(with_reducible apply ai;exact z7)
       iterate 5 (refine z6c (zf _ [] [] rfl rfl rfl) ?_)
       refine z6c (zf _ [5] [5] rfl rfl rfl) ?_;refine z6c (zf _ [] [5] rfl rfl rfl) ?_;rw[show((n:Int)-1).toNat=n-1 by omega];repeat(with_reducible apply ai;exact z7)
       refine z6c (zf _ [5] [5] rfl rfl rfl) ?_;refine z2n (z8 (hK _ _ ?_));clear hK K;refine Cs.nil ?_;refine hN0 _ _ ?_;refine Cs.seq ?_
       obtain⟨f',κ',hfk⟩:=odd_gen hP (n':=n) (F:=fun i'=>if i'=n-1 then [.int .i64 (f 0).nd.id,.str (f 0).nd.key,.int .u32 (f 0).nd.word,.slc false (κ 0).1.val (κ 0).2 (f 0).off (f 0).n] else if i'=0 then [.int .i64 (f (n-1)).nd.id,.str (f (n-1)).nd.key,.int .u32 (f (n-1)).nd.word,.slc false (κ (n-1)).1.val (κ (n-1)).2 (f (n-1)).off (f (n-1)).n] else [.int .i64 (f i').nd.id,.str (f i').nd.key,.int .u32 (f i').nd.word,.slc false (κ i').1.val (κ i').2 (f i').off (f i').n]) (fun q hq=>by
        by_cases e:q=n-1
        ·exact⟨0,(f 0).nd,by omega,by rw[if_pos e]⟩
        ·by_cases e2:q=0
         ·exact⟨n-1,(f (n-1)).nd,by omega,by rw[if_neg e,if_pos e2]⟩
         ·exact⟨q,(f q).nd,hq,by rw[if_neg e,if_neg e2]⟩) []
       refine Cs.fam0 45 2 (hmF true []) ?_;dsimp only;refine Cs.wkRow 5 (fun i=>[.int .i64 (f' i).nd.id,.str (f' i).nd.key,.int .u32 (f' i).nd.word,.slc false (κ' i).1.val (κ' i).2 (f' i).off (f' i).n]) rfl rfl (fun q hq=>⟨(hfk q hq).1,cellK_wk (Nat.le_of_ble_eq_true rfl) _ _⟩) ?_;simp only[z44,↓reduceIte,Sk.one,Nat.reduceEqDiff];refine MwJm.rg [4] ?_;refine Cs.ret ?_;refine hQ _ _ ?_;refine zm.mk (H':=⟨7,[(5,Sk.one (.row ⟨true,false,43,4,n,fun i=>[.int .i64 (f' i).nd.id,.str (f' i).nd.key,.int .u32 (f' i).nd.word,.slc false (κ' i).1.val (κ' i).2 (f' i).off (f' i).n]⟩)),(6,Sk.one (.row ⟨true,false,45,2,0,rws []⟩)),(0,zj 1 m at2)]⟩) (.inl rfl) ?_;refine z26 ?_;refine⟨z6x,(MwJm.g id),z6x,?_⟩;exact⟨n,f',κ',[],at2,g1,by omega,fun i hi=>(hfk i hi).2,by trivial,by trivial⟩
      ·intro h54
       try replace h54:=z6 h54
       refine MwJm.rs [1,5,72] ?_;refine Cs.cond _ rfl ?_ ?_
       ·intro h72
        try replace h72:=z6 h72
        refine MwJm.rg [1] ?_;refine Cs.nil ?_;refine hN0 _ _ ?_;refine Cs.seq ?_;refine Cs.give (H':=⟨6,[(5,Sk.one (.row ⟨true,false,43,4,n+1,fun i'=>if i'<n then [.int .i64 (f i').nd.id,.str (f i').nd.key,.int .u32 (f i').nd.word,.slc false (κ i').1.val (κ i').2 (f i').off (f i').n] else [.int .i64 (f v.toNat).nd.id,.str (f v.toNat).nd.key,.int .u32 (f v.toNat).nd.word,.slc false (κ v.toNat).1.val (κ v.toNat).2 (f v.toNat).off (f v.toNat).n]⟩)),(0,zj 1 m at2),(1,z1t ls),(3,(l.length+1,fam false 45 2 (hmF false l))),(4,Sk.one (.row ⟨false,false,45,2,r.length,rws r⟩))]⟩) (fr':=[(1,.slc true 5 0 0 (n+1))]) (fun q=>if q=5 then 7 else q) (gvS (fun q=>if q=5 then 7 else q) ⟨z6x,(by simp[z1b,Sk.find,Sk.one,zb.eq_1,zb.eq_2,zb.eq_3,zo,SV.renL,SV.ren,Obj.lt_row,SV.ltL,SV.lt,z1e,zn,zr,z1w,nds,Nd.sv,z19,z2h,Rg.sv,Rw.sv,zj,z1t,z43,z7x,z33,z14,zx,z3a,z3b,z28,fin5_n,fin5_if5,Fin.is_lt,z4j,z4m,z15,z1h,z18,z1g];exact fun i hi=>app_one hi),z6x,z6x,z6x⟩ ⟨rfl,rfl,Nat.le_of_ble_eq_true rfl,rfl⟩) ?_
        obtain⟨f',κ',hfk⟩:=odd_gen hP (n':=(n+1)) (F:=fun i'=>if i'<n then [.int .i64 (f i').nd.id,.str (f i').nd.key,.int .u32 (f i').nd.word,.slc false (κ i').1.val (κ i').2 (f i').off (f i').n] else [.int .i64 (f v.toNat).nd.id,.str (f v.toNat).nd.key,.int .u32 (f v.toNat).nd.word,.slc false (κ v.toNat).1.val (κ v.toNat).2 (f v.toNat).off (f v.toNat).n]) (fun q hq=>by
         by_cases e:q<n
         ·exact⟨q,(f q).nd,e,by rw[if_pos e]⟩
         ·exact⟨v.toNat,(f v.toNat).nd,by omega,by rw[if_neg e]⟩) []
        refine Cs.fam0 45 2 (hmF true []) ?_;dsimp only;refine Cs.wkRow 5 (fun i=>[.int .i64 (f' i).nd.id,.str (f' i).nd.key,.int .u32 (f' i).nd.word,.slc false (κ' i).1.val (κ' i).2 (f' i).off (f' i).n]) rfl rfl (fun q hq=>⟨(hfk q hq).1,cellK_wk (Nat.le_of_ble_eq_true rfl) _ _⟩) ?_;simp only[z44,↓reduceIte,Sk.one,Nat.reduceEqDiff];refine MwJm.rg [4] ?_;refine Cs.ret ?_;refine hQ _ _ ?_;refine zm.mk (H':=⟨7,[(5,Sk.one (.row ⟨true,false,43,4,(n+1),fun i=>[.int .i64 (f' i).nd.id,.str (f' i).nd.key,.int .u32 (f' i).nd.word,.slc false (κ' i).1.val (κ' i).2 (f' i).off (f' i).n]⟩)),(6,Sk.one (.row ⟨true,false,45,2,0,rws []⟩)),(0,zj 1 m at2)]⟩) (.inl rfl) ?_;refine z26 ?_;refine⟨z6x,(MwJm.g id),z6x,?_⟩;exact⟨(n+1),f',κ',[],at2,g1,by omega,fun i hi=>(hfk i hi).2,by trivial,by trivial⟩
       ·intro h72
        try replace h72:=z6 h72
        refine Cs.skip ?_;refine Cs.nil ?_;refine hN0 _ _ ?_;refine Cs.seq ?_;obtain⟨f',κ',hfk⟩:=odd_gen hP (n':=n) (F:=fun i'=>[.int .i64 (f i').nd.id,.str (f i').nd.key,.int .u32 (f i').nd.word,.slc false (κ i').1.val (κ i').2 (f i').off (f i').n]) (fun q hq=>⟨q,(f q).nd,hq,rfl⟩) [];refine Cs.fam0 45 2 (hmF true []) ?_;dsimp only;refine Cs.wkRow 5 (fun i=>[.int .i64 (f' i).nd.id,.str (f' i).nd.key,.int .u32 (f' i).nd.word,.slc false (κ' i).1.val (κ' i).2 (f' i).off (f' i).n]) rfl rfl (fun q hq=>⟨(hfk q hq).1,cellK_wk (Nat.le_of_ble_eq_true rfl) _ _⟩) ?_;simp only[z44,↓reduceIte,Sk.one,Nat.reduceEqDiff];refine MwJm.rg [4] ?_;refine Cs.ret ?_;refine hQ _ _ ?_;refine zm.mk (H':=⟨7,[(5,Sk.one (.row ⟨true,false,43,4,n,fun i=>[.int .i64 (f' i).nd.id,.str (f' i).nd.key,.int .u32 (f' i).nd.word,.slc false (κ' i).1.val (κ' i).2 (f' i).off (f' i).n]⟩)),(6,Sk.one (.row ⟨true,false,45,2,0,rws []⟩)),(0,zj 1 m at2)]⟩) (.inl rfl) ?_;refine z26 ?_;refine⟨z6x,(MwJm.g id),z6x,?_⟩;exact⟨n,f',κ',[],at2,g1,by omega,fun i hi=>(hfk i hi).2,by trivial,by trivial⟩
end Go.Proofs

namespace Go.Sk
open Go.RowKit
theorem St.alias {X:Cx}{β:Env}{H:AH}{w:World}(hS:St X β H w){c:Nat}{F:Nat→Obj}{q:Nat→Option Loc}(hown:∀k,k<c→(F k).own=false)
  (hq:∀k L,k<c→q k=some L→∀id k' o L',look H.os id k'=some o→o.own=true→β id k'=some L'→L'.blk≠L.blk)
  (ho:∀k,k<c→(F k).holds (β.set H.nxt q) w (q k)) (hl:∀k,k<c→(F k).lt (H.nxt+1)):
  St X (β.set H.nxt q) ⟨H.nxt+1,(H.nxt,c,F)::H.os⟩ w:=by
 have hag:=Env.agree_set β H.nxt q
 have hlk:∀id k o,look ((H.nxt,c,F)::H.os) id k=some o→(id=H.nxt∧k<c∧o=F k)∨(id<H.nxt∧look H.os id k=some o):=fun id k o h=>by
  rw[z2r] at h
  split at h
  ·rename_i he
   split at h
   ·exact .inl ⟨he.symm,by assumption,(Obj.opt_some h).1⟩
   ·cases h
  ·exact .inr ⟨(hS.lt _ _ _ h).1,h⟩
 have hold:∀id k,id<H.nxt→(β.set H.nxt q) id k=β id k:=fun id k h=>hag id k h;have hnew:∀k,(β.set H.nxt q) H.nxt k=q k:=fun k=>by unfold Env.set;rw[if_pos rfl]
 refine⟨hS.os,hS.tape,hS.output,hS.size,fun id k h=> ?_,fun id k o h=> ?_,fun id k id' k' o o' L L' h h' how hb hb' he=> ?_,fun b hb hn=> ?_,fun id k o L h how hb=> ?_,fun id k hb=> ?_,?_,fun id k o h=> ?_,hS.tabs,hS.drawn⟩
 ·rw[hold id k (Nat.lt_of_lt_of_le h hS.m0)];exact hS.fix id k h
 ·rcases hlk _ _ _ h with⟨rfl,hk,rfl⟩|⟨hlt,h0⟩
  ·rw[hnew];exact ho k hk
  ·rw[hold id k hlt];exact(hS.holds _ _ _ h0).agree hag (hS.lt _ _ _ h0).2
 ·rcases hlk _ _ _ h with⟨rfl,hk,rfl⟩|⟨hlt,h0⟩
  ·rw[hown k hk] at how;cases how
  ·rw[hold _ _ hlt] at hb;rcases hlk _ _ _ h' with⟨rfl,hk',rfl⟩|⟨hlt',h0'⟩
   ·rw[hnew] at hb';exact absurd he (hq k' L' hk' hb' _ _ _ _ h0 how hb)
   ·rw[hold _ _ hlt'] at hb';exact hS.sep _ _ _ _ _ _ _ _ h0 h0' how hb hb' he
 ·refine hS.old b hb fun id k o L h how hbb=> ?_;have hlt:=(hS.lt _ _ _ h).1;exact hn id k o L (by rw[z2r,if_neg (by omega)];exact h) how (by rw[hold _ _ hlt];exact hbb)
 ·rcases hlk _ _ _ h with⟨rfl,hk,rfl⟩|⟨hlt,h0⟩
  ·rw[hown k hk] at how;cases how
  ·rw[hold _ _ hlt] at hb;exact hS.mine _ _ _ _ h0 how hb
 ·obtain⟨hlt,o,h,how⟩:=hS.keep id k hb;have hlt':=Nat.lt_of_lt_of_le hlt hS.m0;exact⟨hlt,o,by rw[z2r,if_neg (by omega)];exact h,how⟩
 ·exact Nat.le_succ_of_le hS.m0
 ·rcases hlk _ _ _ h with⟨rfl,hk,rfl⟩|⟨hlt,h0⟩
  ·exact⟨Nat.lt_succ_self _,hl k hk⟩
  ·refine⟨Nat.lt_succ_of_lt hlt,?_⟩;have:=(hS.lt _ _ _ h0).2
   cases o with
   |row r=>exact fun i j s hi hs=>SV.lt_mono (Nat.le_succ _) s (this i j s hi hs)
   |blk _ _=>trivial
   |mapo _ M=>exact⟨SV.lt_mono (Nat.le_succ _) _ this.1,fun v=>SV.lt_mono (Nat.le_succ _) _ (this.2 v)⟩
   |gone=>trivial
section
variable {X:Cx} {Q:Exit→Fr→AH→Prop} {fr:Fr} {H:AH} {l:List Code}
theorem Cs.canon {c:Code}(rid:Nat){r:Row}(f':Nat→List SV)(cnt:Nat)(e:TypeId)(sz:Nat)(G:Nat→Obj)(κ:Nat→Nat×Nat)
  (hf:find H.os rid=some (1,fun _=> .row r))
  (hsrc:∀i,i<cnt→∃c0 F0,find H.os (κ i).1=some (c0,F0)∧(κ i).2<c0∧(F0 (κ i).2).own=false∧F0 (κ i).2≠ .gone∧(G i).own=false∧(∀β w q,(F0 (κ i).2).holds β w q→(G i).holds β w q)∧∀m,(G i).lt m)
  (hrow:∀i,i<r.n→∃a b d g o n j,j<cnt∧r.f i=[a,b,d,.slc g (κ j).1 (κ j).2 o n]∧f' i=[a,b,d,.slc false H.nxt (j+1) o n]∧(a.lt 0∧b.lt 0∧d.lt 0))
  (h:Cs X (c::l) Q fr ⟨H.nxt+1,z44 ((H.nxt,cnt+1,fam false e sz G)::H.os) rid 0 (.row {r with f:=f'})⟩):Cs X (c::l) Q fr H:=fun β a w hF hS=>by
 let q:Nat→Option Loc:=fun k=>match k with|0=>none|i+1=>β (κ i).1 (κ i).2
 have hrl0:look H.os rid 0=some (.row r):=(zp hf Nat.zero_lt_one).trans rfl;have hrlt:rid<H.nxt:=(hS.lt _ _ _ hrl0).1
 have hlook:∀i,i<cnt→∃o,look H.os (κ i).1 (κ i).2=some o∧o.own=false∧(G i).own=false∧(∀β w q,o.holds β w q→(G i).holds β w q)∧∀m,(G i).lt m:=fun i hi=>by
  obtain⟨c0,F0,h1,h2,h3,h4,h5,h6,h7⟩:=hsrc i hi;exact⟨_,(zp h1 h2).trans (Obj.opt_of h4),h3,h5,h6,h7⟩
 have hS1:St X (β.set H.nxt q) ⟨H.nxt+1,(H.nxt,cnt+1,fam false e sz G)::H.os⟩ w:=by
  refine hS.alias (fun k hk=> ?_) (fun k L hk hL id k' o L' ho how hb' he=> ?_) (fun k hk=> ?_) (fun k hk=> ?_)
  ·cases k with
   |zero=>rfl
   |succ i=>obtain⟨_,_,_,h3,_,_⟩:=hlook i (by omega);exact h3
  ·cases k with
   |zero=>cases hL
   |succ i=>
    obtain⟨o0,h1,h2,_,_,_⟩:=hlook i (by omega);obtain⟨e1,e2⟩:=hS.sep _ _ _ _ _ _ _ _ ho h1 how hb' hL he;rw[e1,e2,h1] at ho
    cases ho
    rw[h2] at how;cases how
  ·cases k with
   |zero=>exact .inl ⟨rfl,rfl⟩
   |succ i=>
    obtain⟨o0,h1,_,_,h4,_⟩:=hlook i (by omega);have hh:=hS.holds _ _ _ h1;exact h4 _ _ _ (hh.agree (Env.agree_set β H.nxt q) (hS.lt _ _ _ h1).2)
  ·cases k with
   |zero=>exact fun i j s hi _=>absurd hi (Nat.not_lt_zero _)
   |succ i=>obtain⟨_,_,_,_,_,h5⟩:=hlook i (by omega);exact h5 _
 have hag:=Env.agree_set β H.nxt q;have hnew:∀k,(β.set H.nxt q) H.nxt k=q k:=fun k=>by unfold Env.set;rw[if_pos rfl]
 refine h (β.set H.nxt q) a w (hF.agree (Nat.le_succ H.nxt) hag) ?_;have hl0:look ((H.nxt,cnt+1,fam false e sz G)::H.os) rid 0=some (.row r):=by rw[z2r,if_neg (by omega)];exact hrl0
 have hlk:∀id' k',look (z44 ((H.nxt,cnt+1,fam false e sz G)::H.os) rid 0 (.row {r with f:=f'})) id' k'=if id'=rid∧k'=0 then some (.row {r with f:=f'}) else look ((H.nxt,cnt+1,fam false e sz G)::H.os) id' k':=fun id' k'=>by
  rw[z4r _ _ _ _ _ hl0];rfl
 have hcp:∀{id' k' u},look (z44 ((H.nxt,cnt+1,fam false e sz G)::H.os) rid 0 (.row {r with f:=f'})) id' k'=some u→∃u0,look ((H.nxt,cnt+1,fam false e sz G)::H.os) id' k'=some u0∧u0.own=u.own:=fun {id' k' u} hg=>by
  rw[hlk] at hg
  split at hg
  ·rename_i e;obtain⟨rfl,rfl⟩:=e;cases hg;exact⟨_,hl0,rfl⟩
  ·exact⟨u,hg,rfl⟩
 have hpc:∀{id' k' u},look ((H.nxt,cnt+1,fam false e sz G)::H.os) id' k'=some u→∃u0,look (z44 ((H.nxt,cnt+1,fam false e sz G)::H.os) rid 0 (.row {r with f:=f'})) id' k'=some u0∧u0.own=u.own:=fun {id' k' u} h=>by
  by_cases e:id'=rid∧k'=0
  ·obtain⟨rfl,rfl⟩:=e;rw[hl0] at h;cases h
   exact⟨.row {r with f:=f'},by rw[hlk];simp,rfl⟩
  ·exact⟨u,by rw[hlk,if_neg e];exact h,rfl⟩
 refine⟨hS1.os,hS1.tape,hS1.output,hS1.size,hS1.fix,fun id' k' u hg=> ?_,fun id1 k1 id2 k2 u1 u2 L1 L2 g1 g2 go e1 e2 e3=> ?_,fun b hb hn=> ?_,fun id' k' u L h ho hb=> ?_,fun id' k' ho=> ?_,hS1.m0,fun id' k' u hg=> ?_,hS1.tabs,hS1.drawn⟩
 ·rw[hlk] at hg
  split at hg
  ·rename_i e;obtain⟨rfl,rfl⟩:=e;cases hg
   rcases hS1.holds _ _ _ hl0 with hh|⟨L,q1,q2,q3,q4,q5⟩
   ·exact .inl hh
   ·refine .inr ⟨L,q1,q2,q3,fun i hi=> ?_,q5⟩;obtain⟨x,y,z,g,o,n,j,hj,e1,e2,hx,hy,hz⟩:=hrow i hi;obtain⟨z1,z2⟩:=q4 i hi;rw[e1] at z1 z2;have hkj:(κ j).1<H.nxt:=by obtain⟨_,h1,_⟩:=hlook j hj;exact(hS.lt _ _ _ h1).1
    have hkb:(β.set H.nxt q) (κ j).1 (κ j).2=β (κ j).1 (κ j).2:=hag _ _ hkj;refine⟨by show(f' i).length=r.sz;rw[e2];exact z1,fun u s hs=> ?_⟩;have hs:(f' i)[u]? =some s:=hs;rw[e2] at hs
    match u with
    |0=>exact z2 0 s hs
    |1=>exact z2 1 s hs
    |2=>exact z2 2 s hs
    |3=>
     cases hs
     obtain⟨_,v,y1,y2⟩:=z2 3 (.slc g (κ j).1 (κ j).2 o n) rfl;refine⟨rfl,v,y1,?_⟩
     have y3:den (β.set H.nxt q) (.slc false (κ j).1 (κ j).2 o n) v:=by
      cases g with
      |false=>exact y2
      |true=>
       have ho:o=0:=by
        simp only[den,z6p,if_true] at y2;rcases y2 with⟨_,_,h,_⟩|⟨_,_,_,h,_⟩<;>exact h
       exact SV.wk_den (a:= .slc true (κ j).1 (κ j).2 o n) (by unfold SV.wk;exact⟨rfl,rfl,rfl,rfl⟩) y2
     simp only[den,z6p,Bool.false_eq_true,if_false] at y3 ⊢;obtain⟨a',c',d1,d2,d3⟩:=y3;refine⟨a',c',d1,d2,fun hp=> ?_⟩;obtain⟨L',d4,d5⟩:=d3 hp;rw[hkb] at d4;exact⟨L',by rw[hnew];exact d4,d5⟩
    |u+4=>simp at hs
  ·exact hS1.holds _ _ _ hg
 ·obtain⟨v1,p1,o1⟩:=hcp g1;obtain⟨v2,p2,_⟩:=hcp g2;exact hS1.sep _ _ _ _ _ _ _ _ p1 p2 (o1.trans go) e1 e2 e3
 ·refine hS1.old b hb fun id' k' u L h ho hbb=> ?_;obtain⟨u0,p,o⟩:=hpc h;exact hn id' k' u0 L p (o.trans ho) hbb
 ·obtain⟨u0,p,o⟩:=hcp h;exact hS1.mine _ _ _ _ p (o.trans ho) hb
 ·obtain⟨h0,u,p,o⟩:=hS1.keep id' k' ho;obtain⟨u0,p0,o0⟩:=hpc p;exact⟨h0,u0,p0,o0.trans o⟩
 ·rw[hlk] at hg
  split at hg
  ·rename_i e;obtain⟨rfl,rfl⟩:=e;cases hg
   refine⟨(hS1.lt _ _ _ hl0).1,fun i j s hi hs=> ?_⟩;obtain⟨x,y,z,g,o,n,j',hj,e1,e2,hx,hy,hz⟩:=hrow i hi;have hs:(f' i)[j]? =some s:=hs;rw[e2] at hs
   match j with
   |0=>cases hs;exact SV.lt_mono (Nat.zero_le _) _ hx
   |1=>cases hs;exact SV.lt_mono (Nat.zero_le _) _ hy
   |2=>cases hs;exact SV.lt_mono (Nat.zero_le _) _ hz
   |3=>cases hs;exact Nat.lt_succ_self _
   |j+4=>simp at hs
  ·exact hS1.lt _ _ _ hg
end
end Go.Sk
