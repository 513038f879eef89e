/- The vault: chain.New, Load. A juror's bytes, unpacked: what the walk wants. The ref's judge: a trial more, one less; when a batch was committed. The document's Unpack. The ref's vault: Load. The document's Unpack of a juror. The program's Unpack of a juror. The document's Cut. JurorPacks: the walk. JurorPacks: the law's walk. No condition. -/
import Derived.Test.YtjlgabojhnnbaaaGreatDoorPk11
set_option linter.unusedVariables false
set_option linter.unusedSimpArgs false
set_option linter.unusedSectionVars false
set_option maxHeartbeats 16000000
namespace Go.Proofs.YtjlgabojhnnbaaaGreatDoor
open Go Go.SX
attribute [local irreducible] swp opsS thenS blockS retS CallsS St Ent YieldS anyS drawS
theorem drop_at' {α:Type}{l:List α}{k:Nat}{x:α}(h:l[k]? =some x):l.drop k=x::l.drop (k+1):=by
 obtain ⟨hlt,e⟩:=List.getElem?_eq_some_iff.1 h;rw[List.drop_eq_getElem_cons hlt,e]
theorem IdxV_spec (f:FuncId)(fs cs:List Value)[he:Enters Tryz.prog f](p:OV→Bool)(a:OA)(c:Nat)(xs:List OV)(A:HL)(h:RdS A a xs.length 2 (xs.flatMap OV.cells))(hn:xs.length≤4611686018427387904)
  (hf:∀x∈xs,CallsS Tryz.prog f (fs++[OV.val x]++cs) A (λv L'=>v=.bool (p x)∧L'=A)):
  CallsS Tryz.prog 141 [.slice a xs.length c,.func (.func f) fs.toArray cs.toArray] A (λv L'=>(∃i:Int,v=.int .i64 i∧decide (0≤i)=xs.any p)∧L'=A):=by
 refine CallsS.of_body Tryz.func141 rfl rfl rfl ?_;refine Q.r ?_;refine swp_loop (σ:=Nat) (λk=> [(0,.slice a xs.length c),(1,.func (.func f) fs.toArray cs.toArray),(7,.int .i64 xs.length),(8,.int .i64 k)]) (λ_=>A)
  (λk=>k≤xs.length∧(xs.take k).any p=false) (λk=>xs.length - k) 0 zt (Ent.refl _) ⟨by omega,by simp⟩ ?_
 rintro k ⟨hk,hany⟩
 by_cases hlt:k<xs.length
 ·obtain ⟨x,hx⟩:=mem_get hlt
  obtain ⟨b,o,rfl,hr⟩:=RdS.elem (g:=OV.cells) (λ_=>rfl) h hx rfl;have hmx:x∈xs:=List.mem_of_getElem? hx;refine Q.r ?_;refine S.crF (fs:=fs) (cs:=cs) rfl rfl (hf x hmx) ?_;rintro _ _ ⟨rfl,rfl⟩
  cases hp:p x with
  |true=>
   refine Q.r ?_;exact N.t rfl (Ent.refl _) ⟨⟨_,rfl,by rw[show xs.any p=true from List.any_eq_true.2 ⟨x,hmx,hp⟩];simp⟩,rfl⟩
  |false=>
   refine Q.r ?_;refine ⟨k+1,zt,Ent.refl _,⟨by omega,?_⟩,by omega⟩;rw[take_snoc hx,List.any_append,hany]<;>simp[hp]
 ·have hke:k=xs.length:=by omega
  subst hke;rw[List.take_length] at hany;refine Q.r ?_;exact N.t rfl (Ent.refl _) ⟨⟨_,rfl,by rw[hany]<;>rfl⟩,rfl⟩
theorem HasV_spec (f:FuncId)(fs cs:List Value)[he:Enters Tryz.prog f](p:OV→Bool)(a:OA)(c:Nat)(xs:List OV)(A:HL)(h:RdS A a xs.length 2 (xs.flatMap OV.cells))(hn:xs.length≤4611686018427387904)
  (hf:∀x∈xs,CallsS Tryz.prog f (fs++[OV.val x]++cs) A (λv L'=>v=.bool (p x)∧L'=A)):
  CallsS Tryz.prog 98 [.slice a xs.length c,.func (.func f) fs.toArray cs.toArray] A (λv L'=>v=.bool (xs.any p)∧L'=A):=by
 refine CallsS.of_body Tryz.func98 rfl rfl rfl ?_;refine Q.r ?_;refine S.cr rfl (IdxV_spec f fs cs p a c xs A h hn hf) ?_;rintro _ _ ⟨⟨i,rfl,hi⟩,rfl⟩;refine Q.r ?_;exact N.t rfl (Ent.refl _) ⟨by rw[←hi],rfl⟩
theorem puts_step {p:VL}{v:Int×List Int}{q:VL}:putsE p (v::q)=if putE p v.1 v.2≠0 then putE p v.1 v.2 else putsE (p++[v]) q:=rfl
theorem ChNew_spec (M:OM)(a:OA)(c:Nat)(ovs:List OV)(A:HL)(h:RdS A a ovs.length 2 (ovs.flatMap OV.cells)∧∀o∈ovs,RdS A o.a o.vec.length 1 (o.vec.map I32))(hn:ovs.length≤1000000)(hv:∀o∈ovs,o.vec.length≤1000000):
  CallsS Tryz.prog 97 [.slice a ovs.length c] (roM M :: A) (fun r L' => (putsE [] (ovs.map OV.abs) ≠ 0 → r = .tuple #[.pointer none,.int .i64 (putsE [] (ovs.map OV.abs))] ∧ ∃ M',leM M M' ∧ L' = roM M' :: A) ∧
   (putsE [] (ovs.map OV.abs)=0→∃p M',r=.tuple #[.pointer (some ⟨p,0,none⟩),.int .i64 0]∧leM M M'∧L'=chainH M' p (ovs.map OV.abs)::roM M'::A)):=by
 refine CallsS.of_body Tryz.func97 rfl rfl rfl ?_;refine Q.r ?_;(repeat (intro b1;refine Q.r ?_));refine swp_loop (σ:=Nat×(OM)) (λu=> [(4,.pointer (some ⟨b1,0,none⟩)),(10,.slice a ovs.length c),(11,.int .i64 ovs.length),(12,.int .i64 u.1)]) (λu=>chainH u.2 b1 ((ovs.take u.1).map OV.abs)::roM u.2::A)
  (λu=>u.1≤ovs.length∧leM M u.2∧putsE [] (ovs.map OV.abs)=putsE ((ovs.take u.1).map OV.abs) ((ovs.drop u.1).map OV.abs)) (λu=>ovs.length - u.1) (0,M) zt ?_ ⟨by omega,leM.refl M,rfl⟩ ?_
 ·refine Ent.trans (Ent.cons (slO_nil (t:=116) (sz:=2))) ?_
  exact chain_shut (M:=M) (p:=b1) (a:=none) (c:=0) (ovs:=[]) (L:=roM M::A) (by intro o ho;cases ho)
 rintro ⟨k,M1⟩ ⟨hk,hl1,hE⟩;dsimp only at hk hl1 hE ⊢
 by_cases hlt:k<ovs.length
 ·obtain ⟨o,ho⟩:=mem_get hlt
  have hmo:o∈ovs:=List.mem_of_getElem? ho;rw[drop_at' ho,List.map_cons,puts_step] at hE;have hrs:RdS (chainH M1 b1 ((ovs.take k).map OV.abs)::roM M1::A) a ovs.length 2 (ovs.flatMap OV.cells):=h.1.sub;obtain ⟨b,oo,hia,hr⟩:=RdS.elem (g:=OV.cells) (λ_=>rfl) hrs ho rfl;clear hrs;rw[hia];refine Q.r ?_;(repeat (intro b1;refine Q.r ?_));rename_i bp;refine opsS_ent (L':=chainH M1 bp ((ovs.take k).map OV.abs)::roM M1::pt b1 (cl o.cells 116)::A) eG ?_;refine S.cr rfl (Put_spec M1 bp ((ovs.take k).map OV.abs) o _ (h.2 o hmo).sub (hv o hmo) (by rw[List.length_map,List.length_take];omega)) ?_;rintro _ _ ⟨rfl,h1,h2⟩
  by_cases hp:putE ((ovs.take k).map OV.abs) o.id o.vec=0
  ·obtain ⟨M2,hl2,rfl⟩:=h2 hp
   rw[if_neg (by rw[hp];simp)] at hE;rw[hp];refine Q.r ?_;refine ⟨(k+1,M2),zt,?_,⟨by dsimp only;omega,hl1.trans hl2,by dsimp only;rw[hE,take_snoc ho,List.map_append];rfl⟩,by dsimp only;omega⟩;dsimp only;rw[take_snoc ho,List.map_append]
   show Ent _ (chainH M2 bp ((ovs.take k).map OV.abs++[o.abs])::_)
   exact eG
  ·obtain rfl:=h1 hp
   rw[if_pos hp] at hE;rw[hE];refine Q.r ?_;refine N.u rfl rfl ?_ ⟨λ_=>⟨rfl,M1,hl1,rfl⟩,λh0=>absurd h0 hp⟩;exact eG
 ·have hke:k=ovs.length:=by omega
  subst hke;rw[List.take_length,List.drop_length] at hE;have hE0:putsE [] (ovs.map OV.abs)=0:=hE;rw[List.take_length];refine Q.r ?_;exact N.u rfl rfl (Ent.refl _) ⟨λh0=>absurd hE0 h0,λ_=>⟨b1,M1,rfl,hl1,rfl⟩⟩
instance : Enters Tryz.prog 99:=en99
theorem Load1_spec (b v mc mi:Nat)(dim mark:Int)(o:OV)(A:HL):CallsS Tryz.prog 99 ([]++[o.val]++[.pointer (some ⟨b,0,none⟩)]) (pt b (cl [ptrV v] 57)::vP v mc mi dim mark::A) (λr L'=>r=.bool (badD dim o.abs)∧L'=pt b (cl [ptrV v] 57)::vP v mc mi dim mark::A):=by
 unfold badD;refine CallsS.of_body Tryz.func99 rfl rfl rfl ?_
 by_cases h0:0<o.vec.length
 ·refine Q.r ?_;(repeat (intro b1;refine Q.r ?_))
  refine Q.dgo [true,true,true] [] [] [0,1,2,3,4,5,6,7,8,9,10,11,12,13,14] ?_;refine Q.rd ?_;refine Q.r ?_;exact N.t rfl eG ⟨by simp[h0],rfl⟩
 ·refine Q.r ?_;(repeat (intro b1;refine Q.r ?_))
  refine Q.dgo [true,true,true] [] [] [0,1,2,3,4,5,6,7,8,9,10,11,12,13,14] ?_;refine Q.rd ?_;refine Q.r ?_;exact N.t rfl eG ⟨by simp[h0],rfl⟩
theorem VOK.mono {M M':OM}{st:VS}{cs:List CR}{is:List IV}(h:VOK M st cs is)(hl:leM M M'):VOK M' st cs is:=⟨h.ch,h.its,λi hi=>(h.ok i hi).mono hl,h.k1,h.k2⟩
theorem vault_shutM {v mc mi:Nat}{M M':OM}{st:VS}{cs:List CR}{is:List IV}{L:HL}(h:VOK M st cs is)(hl:leM M M'):Ent (chsH M cs::roM M'::vP v mc mi st.dim st.mark::vC mc cs::vI mi is::L) (vaultH v st::L):=by
 refine Ent.trans (chs_mono hl) (Ent.trans ?_ (vault_shut (mc:=mc) (mi:=mi) (h.mono hl)));exact eG
theorem Load_spec (v:Nat)(st:VS)(mark:Int)(a:OA)(c:Nat)(es:List EV)(M:OM)(L:HL)(h:SlM M a es.length 2 (es.flatMap EV.cells)∧∀e∈es,okE M e)(hn:es.length≤1000)(hv:∀e∈es,e.vs.length≤1000∧∀o∈e.vs,o.vec.length≤1000)(hw:WFK st 10000):
  CallsS Tryz.prog 32 [ptrV v,.int .u64 mark,.slice a es.length c] (vaultH v st::roM M::L) (λr L'=>r=.int .i64 (loadE st mark (es.map EV.abs))∧L'=vaultH v (loadS st mark (es.map EV.abs))::roM M::L):=by
 refine CallsS.of_body Tryz.func32 rfl rfl rfl ?_;refine Q.r ?_;(repeat (intro b1;refine Q.r ?_))
 by_cases hm:1099511627776<mark
 ·have hE:loadE st mark (es.map EV.abs)=1:=by unfold loadE;rw[if_pos hm]
  have hS:loadS st mark (es.map EV.abs)=st:=by unfold loadS;rw[if_neg (by rw[hE];simp)]
  rw[hE,hS];refine Q.r ?_;exact N.t rfl eG ⟨rfl,rfl⟩
 have hE1:loadE st mark (es.map EV.abs)=if (ldF st.dim [] (es.map EV.abs)).isNone then 4 else if 0<st.ch.length∨0<st.its.length∨0<st.mark then 10 else 0:=by unfold loadE;rw[if_neg hm]
 have hbadE:ldF st.dim [] (es.map EV.abs)=none→loadE st mark (es.map EV.abs)=4∧loadS st mark (es.map EV.abs)=st:=λhb=>by
  have e:loadE st mark (es.map EV.abs)=4:=by rw[hE1,hb];rfl
  exact ⟨e,by unfold loadS;rw[if_neg (by rw[e];simp)]⟩
 refine swp_vault v (λmc mi Mv cs is hok=> ?_);refine Q.r ?_;refine S.mkm U64 ptrV (λbm=> ?_);refine Q.r ?_;generalize b1=b3;refine swp_cutB (σ:=List CR×(OM)) (λu=> [(1,.int .u64 mark),(3,.pointer (some ⟨b3,0,none⟩)),(7,.map (some bm))]) (λu=>mpO U64 ptrV bm (u.1.map λc=>(c.1,c.2.1))::chsH u.2 u.1::roM u.2::chsH Mv cs::pt b3 (cl [ptrV v] 57)::vP v mc mi st.dim st.mark::vC mc cs::vI mi is::roM M::L)
  (λu=>u.1.map (λc=>(c.1,c.2.2))=es.map EV.abs∧ldF st.dim [] (es.map EV.abs)=some (es.map EV.abs)∧leM Mv u.2) ?_ ?_
 ·refine swp_loop (σ:=Nat×List CR×(OM)) (λu=> [(1,.int .u64 mark),(3,.pointer (some ⟨b3,0,none⟩)),(7,.map (some bm)),(20,.slice a es.length c),(21,.int .i64 es.length),(22,.int .i64 u.1)])
   (λu=>mpO U64 ptrV bm (u.2.1.map λc=>(c.1,c.2.1))::chsH u.2.2 u.2.1::roM u.2.2::chsH Mv cs::pt b3 (cl [ptrV v] 57)::vP v mc mi st.dim st.mark::vC mc cs::vI mi is::roM M::L)
   (λu=>u.1≤es.length∧u.2.1.map (λc=>(c.1,c.2.2))=(es.take u.1).map EV.abs∧keysOK ((es.take u.1).map EV.abs)∧ldF st.dim [] (es.map EV.abs)=ldF st.dim ((es.take u.1).map EV.abs) ((es.drop u.1).map EV.abs)∧leM Mv u.2.2) (λu=>es.length - u.1) (0,[],Mv) zt ?_ ⟨by omega,rfl,by simp[keysOK],rfl,leM.refl Mv⟩ ?_
  ·refine Ent.cons ?_
   refine Ent.trans ?_ (Ent.shut_all (L:=[]));exact eG
  rintro ⟨k,cs2,M2⟩ ⟨hk,hcs,hkk,hld,hl2⟩;dsimp only at hk hcs hkk hld hl2 ⊢
  by_cases hlt:k<es.length
  ·obtain ⟨e,he⟩:=mem_get hlt
   have hme:e∈es:=List.mem_of_getElem? he;have hve:=hv e hme;have hoe:=h.2 e hme;rw[drop_at' he,List.map_cons] at hld;have hstep:ldF st.dim ((es.take k).map EV.abs) (e.abs::(es.drop (k+1)).map EV.abs)=if badE st.dim ((es.take k).map EV.abs) e.abs then none else ldF st.dim ((es.take k).map EV.abs++[e.abs]) ((es.drop (k+1)).map EV.abs):=rfl
   rw[hstep] at hld;clear hstep;have hbad:badE st.dim ((es.take k).map EV.abs) e.abs=true→loadE st mark (es.map EV.abs)=4∧loadS st mark (es.map EV.abs)=st:=λhb=>hbadE (by rw[hld,hb];rfl)
   have hkc:keysOK (cs2.map λc=>(c.1,c.2.2)):=by rw[hcs];exact hkk
   have hrs:RdS (mpO U64 ptrV bm (cs2.map λc=>(c.1,c.2.1))::chsH M2 cs2::roM M2::chsH Mv cs::pt b3 (cl [ptrV v] 57)::vP v mc mi st.dim st.mark::vC mc cs::vI mi is::roM M::L) a es.length 2 (es.flatMap EV.cells):=h.1.rd;obtain ⟨b,oo,hia,hr⟩:=RdS.elem (g:=EV.cells) (λ_=>rfl) hrs he rfl;clear hrs;rw[hia];refine Q.r ?_;(repeat (intro b1;refine Q.r ?_));refine opsS_ent (L':=roM M2::pt b1 (cl e.cells 94)::mpO U64 ptrV bm (cs2.map λc=>(c.1,c.2.1))::chsH M2 cs2::chsH Mv cs::pt b3 (cl [ptrV v] 57)::vP v mc mi st.dim st.mark::vC mc cs::vI mi is::roM M::L) eG ?_;refine S.cr rfl (ChNew_spec M2 e.a e.c e.vs _ ⟨hoe.1.rd,λo ho=>(hoe.2 o ho).rd⟩ zo (λo ho=>by have:=hve.2 o ho;omega)) ?_;rintro _ _ ⟨hq1,hq2⟩;have fin:∀M3,leM Mv M3→Ent (chsH Mv cs::roM M3::vP v mc mi st.dim st.mark::vC mc cs::vI mi is::roM M::L) (vaultH v st::roM M::L):=λM3 hl=>vault_shutM hok hl
   by_cases hp:putsE [] (e.vs.map OV.abs)=0
   ·obtain ⟨pc,M3,rfl,hl3,rfl⟩:=hq2 hp
    clear hq1 hq2;refine Q.r ?_;refine S.y (Y.mf rfl rfl) ?_;refine opsS_ent (L':=pt b3 (cl [ptrV v] 57)::vP v mc mi st.dim st.mark::chainH M3 pc (e.vs.map OV.abs)::roM M3::pt b1 (cl e.cells 94)::mpO U64 ptrV bm (cs2.map λc=>(c.1,c.2.1))::chsH M2 cs2::chsH Mv cs::vC mc cs::vI mi is::roM M::L) eG ?_;refine S.cr rfl (HasV_spec 99 [] [.pointer (some ⟨b3,0,none⟩)] (λo=>badD st.dim o.abs) e.a e.c e.vs _ hoe.1.rd zo (λo ho=>Load1_spec b3 v mc mi st.dim st.mark o _)) ?_;rintro _ _ ⟨rfl,rfl⟩;obtain ⟨anyb,hany⟩:∃q,q=e.vs.any λo=>badD st.dim o.abs:=⟨_,rfl⟩
    rw[←hany];have hany2:e.abs.2.any (badD st.dim)=anyb:=by rw[hany];show (e.vs.map OV.abs).any _=_;rw[List.any_map];rfl
    have hl3':=hl2.trans hl3
    by_cases hA:1099511627776<e.id
    ·obtain ⟨e1,e2⟩:=hbad (by unfold badE;simp[hA])
     rw[e1,e2];refine Q.r ?_;exact N.t rfl (Ent.trans eG (fin M3 hl3')) ⟨rfl,rfl⟩
    refine Q.r ?_;refine S.y (Y.lk false rfl rfl (λw=>Tryz.zeroValue197 w)) ?_
    rcases cr_case cs2 hkc e.id with ⟨p',q',b2,vs',f0,f1,f2,f3,f4⟩|⟨f1,f2,f3⟩
    ·obtain ⟨e1,e2⟩:=hbad (by rw[hcs] at f2;unfold badE;rw[f2];simp)
     rw[e1,e2,f1];dsimp only;refine Q.r ?_;exact N.t rfl (Ent.trans eG (fin M3 hl3')) ⟨rfl,rfl⟩
    rw[f1];dsimp only
    by_cases hC:e.vs.length=0
    ·obtain ⟨e1,e2⟩:=hbad (by unfold badE;simp[hC])
     rw[e1,e2];refine Q.r ?_;exact N.t rfl (Ent.trans eG (fin M3 hl3')) ⟨rfl,rfl⟩
    cases anyb with
    |true=>
     obtain ⟨e1,e2⟩:=hbad (by unfold badE;rw[hany2];simp);rw[e1,e2];refine Q.r ?_;exact N.t rfl (Ent.trans eG (fin M3 hl3')) ⟨rfl,rfl⟩
    |false=>
     have hgb:badE st.dim ((es.take k).map EV.abs) e.abs=false:=by
      rw[hcs] at f2;unfold badE;rw[hany2,f2]
      simp[hp,hC,hA]
     rw[hgb] at hld;refine Q.r ?_;refine S.mu (u:=pc) rfl rfl rfl ?_;refine Q.r ?_;have hpm:putL (cs2.map λc=>(c.1,c.2.1)) e.id pc=(cs2++[(e.id,pc,e.vs.map OV.abs)]).map λc=>(c.1,c.2.1):=by
      rw[putL_none (λu hu=>by obtain ⟨w,hw2,rfl⟩:=List.mem_map.1 hu;exact f3 w hw2),List.map_append];rfl
     refine ⟨(k+1,cs2++[(e.id,pc,e.vs.map OV.abs)],M3),zt,?_,⟨by dsimp only;omega,by dsimp only;rw[List.map_append,hcs,take_snoc he,List.map_append];rfl,?_,?_,hl3'⟩,by dsimp only;omega⟩
     ·dsimp only
      rw[←hpm];refine Ent.trans (?_:Ent _ (chsH M2 cs2::chainH M3 pc (e.vs.map OV.abs)::mpO U64 ptrV bm (putL (cs2.map λc=>(c.1,c.2.1)) e.id pc)::roM M3::chsH Mv cs::pt b3 (cl [ptrV v] 57)::vP v mc mi st.dim st.mark::vC mc cs::vI mi is::roM M::L)) ?_
      ·exact eG
      refine Ent.trans (chs_mono hl3) ?_;refine Ent.trans (Ent.perm (.swap _ _ _)) ?_;have hin:=chs_in (M:=M3) (p:=cs2) (q:=[]) (x:=(e.id,pc,e.vs.map OV.abs)) (L:=mpO U64 ptrV bm (putL (cs2.map λc=>(c.1,c.2.1)) e.id pc)::roM M3::chsH Mv cs::pt b3 (cl [ptrV v] 57)::vP v mc mi st.dim st.mark::vC mc cs::vI mi is::roM M::L);rw[List.append_nil] at hin;refine Ent.trans hin ?_;exact eG
     ·dsimp only
      rw[take_snoc he,List.map_append];rw[hcs] at f2;exact keys_snoc hkk _ f2
     ·dsimp only
      rw[hld,take_snoc he,List.map_append]
      simp
   ·obtain ⟨rfl,M3,hl3,rfl⟩:=hq1 hp
    clear hq1 hq2;obtain ⟨pe,hpe⟩:∃q,q=putsE [] (e.vs.map OV.abs):=⟨_,rfl⟩;rw[←hpe] at hp ⊢;refine Q.r ?_;refine S.y (Y.mf rfl rfl) ?_;refine opsS_ent (L':=pt b3 (cl [ptrV v] 57)::vP v mc mi st.dim st.mark::roM M3::pt b1 (cl e.cells 94)::mpO U64 ptrV bm (cs2.map λc=>(c.1,c.2.1))::chsH M2 cs2::chsH Mv cs::vC mc cs::vI mi is::roM M::L) eG ?_;refine S.cr rfl (HasV_spec 99 [] [.pointer (some ⟨b3,0,none⟩)] (λo=>badD st.dim o.abs) e.a e.c e.vs _ hoe.1.rd zo (λo ho=>Load1_spec b3 v mc mi st.dim st.mark o _)) ?_;rintro _ _ ⟨rfl,rfl⟩;obtain ⟨anyb,hany⟩:∃q,q=e.vs.any λo=>badD st.dim o.abs:=⟨_,rfl⟩
    rw[←hany];have hany2:e.abs.2.any (badD st.dim)=anyb:=by rw[hany];show (e.vs.map OV.abs).any _=_;rw[List.any_map];rfl
    have hl3':=hl2.trans hl3
    by_cases hA:1099511627776<e.id
    ·obtain ⟨e1,e2⟩:=hbad (by unfold badE;simp[hA])
     rw[e1,e2];refine Q.r ?_;exact N.t rfl (Ent.trans eG (fin M3 hl3')) ⟨rfl,rfl⟩
    refine Q.r ?_;refine S.y (Y.lk false rfl rfl (λw=>Tryz.zeroValue197 w)) ?_
    rcases cr_case cs2 hkc e.id with ⟨p',q',b2,vs',f0,f1,f2,f3,f4⟩|⟨f1,f2,f3⟩
    ·obtain ⟨e1,e2⟩:=hbad (by rw[hcs] at f2;unfold badE;rw[f2];simp)
     rw[e1,e2,f1];dsimp only;refine Q.r ?_;exact N.t rfl (Ent.trans eG (fin M3 hl3')) ⟨rfl,rfl⟩
    rw[f1];dsimp only
    by_cases hC:e.vs.length=0
    ·obtain ⟨e1,e2⟩:=hbad (by unfold badE;simp[hC])
     rw[e1,e2];refine Q.r ?_;exact N.t rfl (Ent.trans eG (fin M3 hl3')) ⟨rfl,rfl⟩
    obtain ⟨e1,e2⟩:=hbad (by unfold badE;rw[show putsE [] e.abs.2=pe from hpe.symm];simp[hp]);rw[e1,e2];refine Q.r ?_;exact N.t rfl (Ent.trans eG (fin M3 hl3')) ⟨rfl,rfl⟩
  ·have hke:k=es.length:=by omega
   subst hke;rw[List.take_length] at hcs hkk hld;rw[List.drop_length] at hld;refine Q.r ?_;exact ⟨(cs2,M2),zt,by exact eG,hcs,hld,hl2⟩
 rintro ⟨cs2,M2⟩ ⟨hcs,hld,hl2⟩;dsimp only at hcs hld hl2 ⊢;rw[hld] at hE1;simp only[Option.isNone_some,Bool.false_eq_true,if_false] at hE1;have hcl:cs.length=st.ch.length:=by rw[←hok.ch];simp
 have hil:is.length=st.its.length:=by rw[←hok.its];simp
 have hcm:(cs.map λc=>(c.1,c.2.1)).length=st.ch.length:=by rw[List.length_map,hcl]
 have him:(is.map λi=>(i.txn,i)).length=st.its.length:=by rw[List.length_map,hil]
 have fin:Ent (chsH Mv cs::roM M2::vP v mc mi st.dim st.mark::vC mc cs::vI mi is::roM M::L) (vaultH v st::roM M::L):=vault_shutM hok hl2;have hS:loadE st mark (es.map EV.abs)≠0→loadS st mark (es.map EV.abs)=st:=λh0=>by unfold loadS;rw[if_neg h0]
 by_cases k1:0<st.ch.length
 ·have e1:loadE st mark (es.map EV.abs)=10:=by rw[hE1,if_pos (.inl k1)]
  rw[hS (by rw[e1];simp),e1];refine Q.r ?_;exact N.t rfl (Ent.trans eG fin) ⟨rfl,rfl⟩
 by_cases k2:0<st.its.length
 ·have e1:loadE st mark (es.map EV.abs)=10:=by rw[hE1,if_pos (.inr (.inl k2))]
  rw[hS (by rw[e1];simp),e1];refine Q.r ?_;exact N.t rfl (Ent.trans eG fin) ⟨rfl,rfl⟩
 by_cases k3:0<st.mark
 ·have e1:loadE st mark (es.map EV.abs)=10:=by rw[hE1,if_pos (.inr (.inr k3))]
  rw[hS (by rw[e1];simp),e1];refine Q.r ?_;exact N.t rfl (Ent.trans eG fin) ⟨rfl,rfl⟩
 have e1:loadE st mark (es.map EV.abs)=0:=by rw[hE1,if_neg zo]
 have e2:loadS st mark (es.map EV.abs)={st with ch:=es.map EV.abs,mark:=mark}:=by unfold loadS;rw[if_pos e1]
 rw[e1,e2];refine Q.r ?_;refine swp_ent (L':=pt b3 (cl [ptrV v] 57)::vP v mc mi st.dim st.mark::mpO U64 ptrV bm (cs2.map λc=>(c.1,c.2.1))::chsH M2 cs2::roM M2::vI mi is::roM M::L) eG ?_;refine Q.dgo [true,false,false,false,false,false,false] [6,9] [] [0,1,2,3,4,5,6,7,8,9] ?_;refine Q.rd ?_;refine Q.r ?_;have hok2:VOK M2 {st with ch:=es.map EV.abs,mark:=mark} cs2 is:=⟨hcs,hok.its,λi hi=>(hok.ok i hi).mono hl2,(load_ok e1).1,hok.k2⟩;refine N.t rfl (Ent.trans ?_ (vault_shut (mc:=bm) (mi:=mi) hok2)) ⟨rfl,rfl⟩;exact eG
theorem IndexU_spec (a:OA)(c:Nat)(xs:List Int)(x:Int)(A:HL)(h:RdS A a xs.length 1 (xs.map U64))(hn:xs.length≤100000000):
  CallsS Tryz.prog 96 [.slice a xs.length c,.int .u64 x] A (λr L'=>((∃k:Nat,k<xs.length∧xs[k]? =some x∧r=.int .i64 k)∨(x∉xs∧r=.int .i64 (-1)))∧L'=A):=by
 refine CallsS.of_body Tryz.func96 rfl rfl rfl ?_;refine Q.r ?_;refine swp_loop (σ:=Nat) (λk=> [(0,.slice a xs.length c),(1,.int .u64 x),(7,.int .i64 xs.length),(8,.int .i64 k)])
  (λ_=>A) (λk=>k≤xs.length∧x∉xs.take k) (λk=>xs.length - k) 0 zt (Ent.refl _) ⟨Nat.zero_le _,by simp⟩ ?_
 rintro k ⟨hk,hx⟩
 by_cases hlt:k<xs.length
 ·obtain ⟨q,hq⟩:=mem_get hlt
  obtain ⟨b,oo,hia,hr⟩:=RdS.elem (g:=cU) (λ_=>rfl) (by rw[flat_U];exact h) hq rfl;rw[hia]
  by_cases he:x=q
  ·subst he
   refine Q.r ?_;exact N.t rfl (Ent.refl _) ⟨.inl ⟨k,hlt,hq,rfl⟩,rfl⟩
  ·refine Q.r ?_
   refine ⟨k+1,zt,Ent.refl _,⟨by omega,?_⟩,by omega⟩;rw[take_snoc hq,List.mem_append,List.mem_singleton];exact λh=>h.elim hx he
 ·have hke:k=xs.length:=by omega
  subst hke;rw[List.take_length] at hx;refine Q.r ?_;exact N.t rfl (Ent.refl _) ⟨.inr ⟨hx,rfl⟩,rfl⟩
theorem ContainsU_spec (a:OA)(c:Nat)(xs:List Int)(x:Int)(A:HL)(h:RdS A a xs.length 1 (xs.map U64))(hn:xs.length≤100000000):
  CallsS Tryz.prog 31 [.slice a xs.length c,.int .u64 x] A (λr L'=>r=.bool (decide (x∈xs))∧L'=A):=by
 refine CallsS.of_body Tryz.func31 rfl rfl rfl ?_;refine Q.r ?_;refine S.cr rfl (IndexU_spec a c xs x _ h hn) ?_;rintro _ _ ⟨⟨k,hk,hx,rfl⟩|⟨hx,rfl⟩,rfl⟩
 ·have hm:x∈xs:=List.mem_of_getElem? hx
  refine Q.r ?_;refine N.t rfl (Ent.refl _) ⟨congrArg Value.bool ?_,rfl⟩;rw[decide_eq_true hm];exact decide_eq_true zo
 ·refine Q.r ?_
  refine N.t rfl (Ent.refl _) ⟨congrArg Value.bool ?_,rfl⟩;rw[decide_eq_false hx];rfl
theorem brkF_len {α:Type}(d:RS→α×RS):∀(k:Nat) (s:RS×List α),(brkF d k s).2.length≤s.2.length+k
 |0,s=>Nat.le_refl _
 |k+1,s=>by
  rw[brkF_succ]
  split
  ·dsimp only
   rw[len_snoc];omega
  ·have:=brkF_len d k ((d s.1).2,s.2++[(d s.1).1])
   dsimp only at this;rw[len_snoc] at this;omega
theorem decB_len {α:Type}(most:Nat)(d:RS→α×RS)(s:RS):(decB most d s).1.length≤most:=by
 unfold decB;dsimp only;have:=brkF_len d (rdF most s).1 ((rdF most s).2,[]);have h2:=(rdF_le most s).1;dsimp only[List.length_nil] at this;omega
def fullJ (j:JS):Bool:=decide (0<j.done.length+j.v.ch.length+j.v.its.length∨0<j.v.mark)
def unJE (j:JS)(bs:List UInt8):Int:=if (unJ4 j.v.dim bs).isSome=true then (if fullJ j=true then 10 else 0) else 4
def unJS (j:JS)(bs:List UInt8):JS:=if fullJ j=true then j else (unJ4 j.v.dim bs).getD j
theorem unJ_none {j:JS}{bs:List UInt8}(h:unJ4 j.v.dim bs=none):unJE j bs=4∧unJS j bs=j:=by
 unfold unJE unJS;rw[h];exact ⟨rfl,by split<;>rfl⟩
theorem unJ_full {j F:JS}{bs:List UInt8}(h:unJ4 j.v.dim bs=some F)(hf:fullJ j=true):unJE j bs=10∧unJS j bs=j:=by
 unfold unJE unJS;rw[h,if_pos hf,if_pos hf];exact ⟨rfl,rfl⟩
theorem unJ_some {j F:JS}{bs:List UInt8}(h:unJ4 j.v.dim bs=some F)(hf:fullJ j=false):unJE j bs=0∧unJS j bs=F:=by
 unfold unJE unJS;rw[h,hf];exact ⟨rfl,rfl⟩
abbrev unC0 (dim:Int)(bs:List UInt8):Prop:=endF (unR bs).s.bs (unR bs).s.bad=0∧riseB ((unR bs).D.map (·.1))=true∧riseB ((unR bs).E.map (·.1))=true∧(unR bs).D.all (λd=>decide (d.2≠0))=true∧loadE (VS0 dim) (unR bs).m (unR bs).E=0
theorem un4_c0 {dim:Int}{bs:List UInt8}(h:¬unC0 dim bs):unJ4 dim bs=none:=by
 unfold unJ4;exact if_neg h
theorem un4_fo {dim:Int}{bs:List UInt8}(hf:foldI dim (unR bs).I ⟨loadS (VS0 dim) (unR bs).m (unR bs).E,[],[]⟩=none):unJ4 dim bs=none:=by
 unfold unJ4;rw[hf]
 split<;>rfl
abbrev jDn (bs:List UInt8)(r:JS):JS:={r with done:=(unR bs).D.foldl (λm d=>putL m d.1 d.2) []}
theorem un4_end {dim:Int}{bs:List UInt8}{r:JS}(h:unC0 dim bs)(hf:foldI dim (unR bs).I ⟨loadS (VS0 dim) (unR bs).m (unR bs).E,[],[]⟩=some r):
  unJ4 dim bs=if riseB ((unR bs).I.map (·.1))=true∧packV (jDn bs r)=bs then some (jDn bs r) else none:=by
 unfold unJ4;rw[if_pos h,hf]
theorem end_bad {bs:List UInt8}{n:Int}(h:endF bs n=0):n=0:=by
 unfold endF at h
 by_cases h1:n≠0
 ·rw[if_pos h1] at h;exact h
 ·exact Decidable.not_not.1 h1
theorem un4_okj {dim:Int}{bs:List UInt8}{r:JS}(h:unC0 dim bs)(hf:foldI dim (unR bs).I ⟨loadS (VS0 dim) (unR bs).m (unR bs).E,[],[]⟩=some r)(p1:riseB ((unR bs).I.map (·.1))=true):
  OKJ dim (unR bs).m (unR bs).E (unR bs).I (unR bs).D∧jDn bs r=JF dim (unR bs).m (unR bs).E (unR bs).I (unR bs).D:=by
 obtain ⟨c1,c2,c3,c4,c5⟩:=h;have hb:=end_bad c1;obtain ⟨i1,i2,i3,i4⟩:=unR_inv hb;have kP:(((unR bs).I.map ptA).map (·.1))=(unR bs).I.map (·.1):=List.map_map;have hr:=foldI_res _ _ _ hf (by dsimp only;rw[List.nil_append,kP];exact riseB_iff.1 p1);dsimp only at hr;rw[loadS_eq c5,List.nil_append] at hr;dsimp only at hr;rw[List.nil_append] at hr;have hd:=put_fold (unR bs).D [] (by rw[List.nil_append];exact riseB_iff.1 c2);rw[List.nil_append] at hd;have ho:OKJ dim (unR bs).m (unR bs).E (unR bs).I (unR bs).D:=⟨i1,i2,⟨i3.1,λi hi=>⟨(i3.2 i hi).1,(i3.2 i hi).2.1,⟨(i3.2 i hi).2.2.1.1,parts_15 (foldI_check _ _ _ hf i hi).1⟩,(i3.2 i hi).2.2.2⟩⟩,⟨i4.1,λd hd=>⟨i4.2 d hd,by simpa using List.all_eq_true.1 c4 d hd⟩⟩,riseB_iff.1 c3,riseB_iff.1 p1,riseB_iff.1 c2,c5,by rw[hf,hr]⟩;refine ⟨ho,?_⟩;unfold jDn;rw[hd,hr]
structure UBd (bs:List UInt8):Prop where
 E:(unR bs).E.length≤1000
 c:∀e∈(unR bs).E,e.2.length≤1000
 I:(unR bs).I.length≤1000
 D:(unR bs).D.length≤1000
theorem lastLt_get {α:Type}{f:α→Int}{ds:List α}{d:α}(h:ds[ds.length - 1]? =some d)(x:Int):lastLt (ds.map f) x=decide (f d<x):=by
 unfold lastLt;rw[List.getLast?_map,List.getLast?_eq_getElem?,h];rfl
theorem lastLt_nil {α:Type}{f:α→Int}{ds:List α}(h:ds.length=0)(x:Int):lastLt (ds.map f) x=true:=by
 rw[List.eq_nil_of_length_eq_zero h];rfl
theorem RPutE_spec (a:OA)(c:Nat)(ovs:List OV)(o:OV)(L:HL)(h:RdS L a ovs.length 2 (ovs.flatMap OV.cells))(ho:RdS L o.a o.vec.length 1 (o.vec.map I32))(hov:o.vec.length≤10)(hn:ovs.length≤1000000)
  (hE:putE (ovs.map OV.abs) o.id o.vec≠0) (hp:okCh (ovs.map OV.abs)):
  CallsS Tryz.prog 119 [.slice a ovs.length c,o.val] L (λr L'=>(∃e:Int,e≠0∧r=.tuple #[.slice a ovs.length c,.int .i64 e])∧L'=L):=by
 refine CallsS.of_body Tryz.func119 rfl rfl rfl ?_
 by_cases h1:o.id<1
 ·refine Q.r ?_;(repeat (intro b1;refine Q.r ?_))
  exact N.u rfl rfl eG ⟨⟨1,by simp,rfl⟩,rfl⟩
 by_cases h2:1099511627776<o.id
 ·refine Q.r ?_;(repeat (intro b1;refine Q.r ?_))
  exact N.u rfl rfl eG ⟨⟨1,by simp,rfl⟩,rfl⟩
 by_cases h3:0<o.vec.length∧rightV o.vec=false
 ·obtain ⟨h3a,h3b⟩:=h3
  refine Q.r ?_;(repeat (intro b1;refine Q.r ?_));refine S.cr rfl (RRight_spec o.a o.c o.vec _ ho.sub zo) ?_;rintro _ _ ⟨rfl,rfl⟩;rw[h3b];refine Q.r ?_;exact N.u rfl rfl eG ⟨⟨4,by simp,rfl⟩,rfl⟩
 have h4:¬lastS (ovs.map OV.abs)<o.id:=λhl=>by
  apply hE;unfold putE;rw[if_neg zo,if_neg h3,if_neg zo]
 have h5:∃u∈ovs,o.id≤u.id:=by
  unfold lastS at h4
  cases hg:(ovs.map OV.abs).getLast? with
  |none=>rw[hg] at h4;simp at h4;omega
  |some l=>
   rw[hg] at h4;obtain ⟨u,hu,e⟩:=List.mem_map.1 (List.mem_of_getLast? hg);refine ⟨u,hu,?_⟩;have:u.id=l.1:=congrArg Prod.fst e
   simp at h4
   omega
 refine Q.r ?_;(repeat (intro b1;refine Q.r ?_));refine opsS_cutT (σ:=Unit) (λ_=> [(0,.slice a ovs.length c),(3,.pointer (some ⟨b1,0,none⟩)),(26,.bool false)]) (λ_=>pt b1 (cl o.cells 149)::L) (λ_=>True) ?_ ?_
 ·by_cases h0:0<o.vec.length
  ·have h3:rightV o.vec=true:=by
    cases hr:rightV o.vec with
    |true=>rfl
    |false=>exact absurd ⟨h0,hr⟩ h3
   refine Q.r ?_;refine S.cr rfl (RRight_spec o.a o.c o.vec _ ho.sub zo) ?_;rintro _ _ ⟨rfl,rfl⟩;rw[h3];refine Q.r ?_;exact ⟨(),zt,Ent.refl _,trivial⟩
  ·refine Q.r ?_
   exact ⟨(),⟨rfl,rfl,by rw[decide_eq_false zo];rfl,trivial⟩,Ent.refl _,trivial⟩
 intro _ _;clear hE hp h4 h3 h1 h2;refine Q.r ?_;refine swp_loop (σ:=Nat) (λk=> [(0,.slice a ovs.length c),(3,.pointer (some ⟨b1,0,none⟩)),(28,.slice a ovs.length c),(29,.int .i64 ovs.length),(30,.int .i64 k)]) (λ_=>pt b1 (cl o.cells 149)::L)
  (λk=>k≤ovs.length∧∀u∈ovs.take k,u.id<o.id) (λk=>ovs.length - k) 0 zt (Ent.refl _) ⟨by omega,by simp⟩ ?_
 rintro k ⟨hk,hall⟩
 by_cases hlt:k<ovs.length
 ·obtain ⟨x,hx⟩:=mem_get hlt
  have hrs:RdS (pt b1 (cl o.cells 149)::L) a ovs.length 2 (ovs.flatMap OV.cells):=h.sub;obtain ⟨b,oo,hia,hr⟩:=RdS.elem (g:=OV.cells) (λ_=>rfl) hrs hx rfl;clear hrs;rw[hia];clear h5
  by_cases h6:o.id≤x.id
  ·refine Q.r ?_;(repeat (intro b1;refine Q.r ?_))
   exact N.u rfl rfl eG ⟨⟨7,by simp,rfl⟩,rfl⟩
  ·refine Q.r ?_;(repeat (intro b1;refine Q.r ?_))
   refine ⟨k+1,zt,by exact eG,⟨by omega,λu hu=> ?_⟩,by omega⟩;rw[take_snoc hx] at hu
   rcases List.mem_append.1 hu with hu|hu
   ·exact hall u hu
   ·obtain rfl:=List.mem_singleton.1 hu
    omega
 ·have hke:k=ovs.length:=by omega
  subst hke;rw[List.take_length] at hall;obtain ⟨u,hu,hh⟩:=h5;have:=hall u hu;omega
theorem RPutO_spec (a:OA)(c:Nat)(ovs:List OV)(o:OV)(L:HL)(h:RdS L a ovs.length 2 (ovs.flatMap OV.cells))(ho:RdS L o.a o.vec.length 1 (o.vec.map I32))(hoc:o.vec.length≤o.c)(hov:o.vec.length≤10)(hn:ovs.length≤1000000)
  (hE:putE (ovs.map OV.abs) o.id o.vec=0) (hp:okCh (ovs.map OV.abs)):
  CallsS Tryz.prog 119 [.slice a ovs.length c,o.val] L (λr L'=>∃a2 c2 a' c',r=.tuple #[.slice a2 (ovs.length+1) c2,.int .i64 0]∧L'=slO 149 2 a2 (ovs.length+1) c2 (ovs.flatMap OV.cells++OV.cells ⟨o.id,a',c',o.vec⟩)::slO 21 1 a' o.vec.length c' (o.vec.map I32)::L):=by
 obtain ⟨h1,h2,h3,h4⟩:=putE_0 hE;have h5:=hp.last;refine RPut_spec a c ovs o L h ho hoc hov hn zo h2 h3 (λu hu=> ?_);have:=sorted_last hp.s u.abs (List.mem_map_of_mem hu);dsimp only at this;omega
theorem ldF_bad {dim:Int}{ch l:List (Int×VL)}{e:Int×VL}(h:badE dim ch e=true):ldF dim ch (e::l)=none:=by
 show (if badE dim ch e then none else ldF dim (ch++[e]) l)=none
 rw[h];rfl
theorem ldF_good {dim:Int}{ch l:List (Int×VL)}{e:Int×VL}(h:badE dim ch e=false):ldF dim ch (e::l)=ldF dim (ch++[e]) l:=by
 show (if badE dim ch e then none else ldF dim (ch++[e]) l)=_
 rw[h];rfl
theorem RLoad_spec (p:Nat)(st:VS)(n:Nat)(mark:Int)(a:OA)(c:Nat)(es:List EV)(M:OM)(L:HL)(hw:WF st n)(hnn:n≤10000)(h:SlM M a es.length 2 (es.flatMap EV.cells)∧∀e∈es,okE M e)(hn:es.length≤1000)(hv:∀e∈es,e.vs.length≤1000∧∀o∈e.vs,o.vec.length≤10∧o.vec.length≤o.c):
  CallsS Tryz.prog 63 [ptrV p,.int .u64 mark,.slice a es.length c] (refH p st::roM M::L) (λr L'=>r=.int .i64 (loadE st mark (es.map EV.abs))∧L'=refH p (loadS st mark (es.map EV.abs))::roM M::L):=by
 refine calls_ref λMr ra rc re ra' rc' ri hok=> ?_
 refine CallsS.of_body Tryz.func63 rfl rfl rfl ?_;have fin:Ent (rP p st.dim ra re rc ra' ri rc' st.mark::roM Mr::roM M::L) (refH p st::roM M::L):=ref_shut hok
 by_cases hm:1099511627776<mark
 ·have hE:loadE st mark (es.map EV.abs)=1:=by unfold loadE;rw[if_pos hm]
  have hS:loadS st mark (es.map EV.abs)=st:=by unfold loadS;rw[if_neg (by rw[hE];simp)]
  rw[hE,hS];refine Q.r ?_;exact N.t rfl fin ⟨rfl,rfl⟩
 have hE1:loadE st mark (es.map EV.abs)=if (ldF st.dim [] (es.map EV.abs)).isNone then 4 else if 0<st.ch.length∨0<st.its.length∨0<st.mark then 10 else 0:=by unfold loadE;rw[if_neg hm]
 have hbadE:ldF st.dim [] (es.map EV.abs)=none→loadE st mark (es.map EV.abs)=4∧loadS st mark (es.map EV.abs)=st:=λhb=>by
  have e:loadE st mark (es.map EV.abs)=4:=by rw[hE1,hb];rfl
  exact ⟨e,by unfold loadS;rw[if_neg (by rw[e];simp)]⟩
 refine Q.r ?_;(repeat (intro b1;refine Q.r ?_));generalize b1=bw;refine swp_cutB (σ:=(OM)×OA×Nat×List EV) (λu=> [(0,ptrV p),(7,ptrV bw)]) (λu=>rP bw st.dim u.2.1 u.2.2.2 u.2.2.1 none [] 0 mark::roM u.1::rP p st.dim ra re rc ra' ri rc' st.mark::roM Mr::roM M::L)
  (λu=>ROK u.1 ⟨st.dim,es.map EV.abs,[],mark⟩ u.2.1 u.2.2.1 u.2.2.2 none 0 []∧ldF st.dim [] (es.map EV.abs)=some (es.map EV.abs)) ?_ ?_
 ·refine swp_loop (σ:=Nat×(OM)×OA×Nat×List EV) (λu=> [(0,ptrV p),(7,ptrV bw),(25,.slice a es.length c),(26,.int .i64 es.length),(27,.int .i64 u.1)])
   (λu=>rP bw st.dim u.2.2.1 u.2.2.2.2 u.2.2.2.1 none [] 0 mark::roM u.2.1::rP p st.dim ra re rc ra' ri rc' st.mark::roM Mr::roM M::L)
   (λu=>u.1≤es.length∧ROK u.2.1 ⟨st.dim,(es.take u.1).map EV.abs,[],mark⟩ u.2.2.1 u.2.2.2.1 u.2.2.2.2 none 0 []∧(∀e∈u.2.2.2.2,0<e.vs.length)∧ldF st.dim [] (es.map EV.abs)=ldF st.dim ((es.take u.1).map EV.abs) ((es.drop u.1).map EV.abs)) (λu=>es.length - u.1) (0,(λ_=>none),none,0,[]) zt ?_ ⟨by omega,?_,by simp,rfl⟩ ?_
  ·dsimp only
   refine Ent.cons (Ent.nilM ?_);exact eG
  ·exact ⟨by simp,by simp,by simp,by simp,by simp,by simp,⟨rfl,.inl rfl⟩,⟨rfl,.inl rfl⟩,by simp,by simp,by simp[keysOK],by simp[keysOK],by simp⟩
  rintro ⟨k,Mw,wa,wc,we⟩ ⟨hk,hokw,hne,hld⟩;dsimp only at hk hokw hne hld ⊢
  by_cases hlt:k<es.length
  ·obtain ⟨e,he⟩:=mem_get hlt
   have hme:e∈es:=List.mem_of_getElem? he;have hve:=hv e hme;have hoe:=h.2 e hme;rw[drop_at' he,List.map_cons] at hld;have hbad:badE st.dim ((es.take k).map EV.abs) e.abs=true→loadE st mark (es.map EV.abs)=4∧loadS st mark (es.map EV.abs)=st:=λhb=>hbadE (by rw[hld,ldF_bad hb])
   have hrs:RdS (rP bw st.dim wa we wc none [] 0 mark::roM Mw::rP p st.dim ra re rc ra' ri rc' st.mark::roM Mr::roM M::L) a es.length 2 (es.flatMap EV.cells):=h.1.rd;obtain ⟨b,oo,hia,hr⟩:=RdS.elem (g:=EV.cells) (λ_=>rfl) hrs he rfl;clear hrs;rw[hia];refine Q.r ?_;(repeat (intro b1;refine Q.r ?_));refine swp_cutB (σ:=(OM)×OA×Nat×List OV) (λu=> [(0,ptrV p),(7,ptrV bw),(9,.pointer (some ⟨b1,0,none⟩)),(10,.slice u.2.1 u.2.2.2.length u.2.2.1),(25,.slice (some ⟨b,oo,none⟩) es.length c),(26,.int .i64 es.length),(27,.int .i64 k)])
    (λu=>slO 149 2 u.2.1 u.2.2.2.length u.2.2.1 (u.2.2.2.flatMap OV.cells)::roM u.1::rP bw st.dim wa we wc none [] 0 mark::pt b1 (cl e.cells 147)::rP p st.dim ra re rc ra' ri rc' st.mark::roM Mr::roM M::L)
    (λu=>leM Mw u.1∧okR u.1 u.2.2.2∧u.2.2.2.map OV.abs=e.vs.map OV.abs∧putsE [] (e.vs.map OV.abs)=0∧(e.vs.map OV.abs).any (badD st.dim)=false) ?_ ?_
   ·refine swp_loop (σ:=Nat×(OM)×OA×Nat×List OV) (λu=> [(0,ptrV p),(7,ptrV bw),(9,.pointer (some ⟨b1,0,none⟩)),(25,.slice (some ⟨b,oo,none⟩) es.length c),(26,.int .i64 es.length),(27,.int .i64 k),(32,.slice e.a e.vs.length e.c),(33,.int .i64 e.vs.length),(10,.slice u.2.2.1 u.2.2.2.2.length u.2.2.2.1),(34,.int .i64 u.1)])
     (λu=>slO 149 2 u.2.2.1 u.2.2.2.2.length u.2.2.2.1 (u.2.2.2.2.flatMap OV.cells)::roM u.2.1::rP bw st.dim wa we wc none [] 0 mark::pt b1 (cl e.cells 147)::rP p st.dim ra re rc ra' ri rc' st.mark::roM Mr::roM M::L)
     (λu=>u.1≤e.vs.length∧leM Mw u.2.1∧okR u.2.1 u.2.2.2.2∧u.2.2.2.2.map OV.abs=(e.vs.take u.1).map OV.abs∧okCh ((e.vs.take u.1).map OV.abs)∧putsE [] (e.vs.map OV.abs)=putsE ((e.vs.take u.1).map OV.abs) ((e.vs.drop u.1).map OV.abs)∧((e.vs.take u.1).map OV.abs).any (badD st.dim)=false) (λu=>e.vs.length - u.1) (0,Mw,none,0,[]) zt (Ent.trans eG slO_nil) ⟨by omega,leM.refl Mw,λo ho=>(by cases ho),rfl,⟨List.Pairwise.nil,by simp⟩,rfl,rfl⟩ ?_
    rintro ⟨j,M2,a2,c2,ws⟩ ⟨hj,hl2,hwo,hwa,hwp,hpu,hda⟩;dsimp only at hj hl2 hwo hwa hwp hpu hda ⊢;have hwl:ws.length=j:=by
     have:=congrArg List.length hwa
     simp at this;omega
    by_cases hjl:j<e.vs.length
    ·obtain ⟨o,ho⟩:=mem_get hjl
     have hmo:o∈e.vs:=List.mem_of_getElem? ho;obtain ⟨ho10,hoc⟩:=hve.2 o hmo;rw[drop_at' ho,List.map_cons,puts_step] at hpu;have hrs:RdS (slO 149 2 a2 ws.length c2 (ws.flatMap OV.cells)::roM M2::rP bw st.dim wa we wc none [] 0 mark::pt b1 (cl e.cells 147)::rP p st.dim ra re rc ra' ri rc' st.mark::roM Mr::roM M::L) e.a e.vs.length 2 (e.vs.flatMap OV.cells):=hoe.1.rd;obtain ⟨b5,o5,hia5,hr5⟩:=RdS.elem (g:=OV.cells) (λ_=>rfl) hrs ho rfl;clear hrs;rw[hia5];refine swp_addr a2 (λha2=> ?_);have hst:((e.vs.take (j+1)).map OV.abs).any (badD st.dim)=badD st.dim o.abs:=by rw[take_snoc ho,List.map_append,List.any_append,hda];simp
     have hall:badD st.dim o.abs=true→badE st.dim ((es.take k).map EV.abs) e.abs=true:=λhb=>by
      unfold badE;have:e.abs.2.any (badD st.dim)=true:=List.any_eq_true.2 ⟨o.abs,List.mem_map_of_mem hmo,hb⟩;rw[this];simp
     refine Q.r ?_;(repeat (intro b1;refine Q.r ?_));rename_i be
     by_cases hp:putE ((e.vs.take j).map OV.abs) o.id o.vec=0
     ·rw[if_neg (by rw[show putE ((e.vs.take j).map OV.abs) o.abs.1 o.abs.2=0 from hp];simp)] at hpu
      refine S.cr rfl (RPutO_spec a2 c2 ws o _ (RdS.ofS (flat_len2 _) ha2) (hoe.2 o hmo).rd hoc ho10 zo (by rw[hwa];exact hp) (by rw[hwa];exact hwp)) ?_;rintro _ _ ⟨a6,c6,a7,c7,rfl,rfl⟩;refine opsS_abs a7 (λM3 hl3 hs7=> ?_);have hnx:okCh (((e.vs.take (j+1)).map OV.abs)):=by rw[take_snoc ho,List.map_append];exact hwp.snoc hp
      by_cases h0:0<o.vec.length
      ·by_cases hd:(o.vec.length:Int)=st.dim
       ·refine Q.r ?_
        refine Q.dgo [false,false,true,false,false,false,true,false,false] [] [] [0,1,2,3,4,5,6,7,8,9,10,11,12,13,14,15,16,17] ?_;refine Q.rd ?_;refine Q.r ?_;refine ⟨(j+1,M3,a6,c6,ws++[⟨o.id,a7,c7,o.vec⟩]),⟨rfl,rfl,rfl,rfl,rfl,rfl,rfl,rfl,congrArg some (by simp),rfl,trivial⟩,?_,⟨by dsimp only;omega,hl2.trans hl3,λw hw2=> ?_,by dsimp only;rw[List.map_append,hwa,take_snoc ho,List.map_append];rfl,hnx,by dsimp only;rw[hpu,take_snoc ho,List.map_append];rfl,by dsimp only;rw[hst];unfold badD;simp;omega⟩,by dsimp only;omega⟩
        ·dsimp only
         rw[len_snoc,flat_snoc];exact eG
        ·rcases List.mem_append.1 hw2 with hw2|hw2
         ·exact (hwo w hw2).mono hl3
         ·obtain rfl:=List.mem_singleton.1 hw2
          exact hs7
       ·obtain ⟨e1,e2⟩:=hbad (hall (by unfold badD;simp[h0,hd]))
        rw[e1,e2];refine Q.r ?_;refine Q.dgo [false,false,true,false,false,false,true,false,false] [] [] [0,1,2,3,4,5,6,7,8,9,10,11,12,13,14,15,16,17] ?_;refine Q.rd ?_;refine Q.r ?_;exact N.t rfl (Ent.trans eG fin) ⟨rfl,rfl⟩
      ·refine Q.r ?_
       refine Q.dgo [false,false,true,false,false,false,true,false,false] [] [] [0,1,2,3,4,5,6,7,8,9,10,11,12,13,14,15,16,17] ?_;refine Q.rd ?_;refine Q.r ?_;refine ⟨(j+1,M3,a6,c6,ws++[⟨o.id,a7,c7,o.vec⟩]),⟨rfl,rfl,rfl,rfl,rfl,rfl,rfl,rfl,congrArg some (by simp),rfl,trivial⟩,?_,⟨by dsimp only;omega,hl2.trans hl3,λw hw2=> ?_,by dsimp only;rw[List.map_append,hwa,take_snoc ho,List.map_append];rfl,hnx,by dsimp only;rw[hpu,take_snoc ho,List.map_append];rfl,by dsimp only;rw[hst];unfold badD;simp;omega⟩,by dsimp only;omega⟩
       ·dsimp only
        rw[len_snoc,flat_snoc];exact eG
       ·rcases List.mem_append.1 hw2 with hw2|hw2
        ·exact (hwo w hw2).mono hl3
        ·obtain rfl:=List.mem_singleton.1 hw2
         exact hs7
     ·rw[if_pos hp] at hpu
      have hb:badE st.dim ((es.take k).map EV.abs) e.abs=true:=by
       unfold badE;have h8:decide (putsE [] e.abs.2≠0)=true:=decide_eq_true (by rw[show putsE [] e.abs.2=putE ((e.vs.take j).map OV.abs) o.abs.1 o.abs.2 from hpu];exact hp);rw[h8]
       simp
      refine S.cr rfl (RPutE_spec a2 c2 ws o _ (RdS.ofS (flat_len2 _) ha2) (hoe.2 o hmo).rd ho10 zo (by rw[hwa];exact hp) (by rw[hwa];exact hwp)) ?_;rintro _ _ ⟨⟨pe,hpe,rfl⟩,rfl⟩;obtain ⟨e1,e2⟩:=hbad hb;rw[e1,e2];refine Q.r ?_;refine Q.dgo [true,false,false,false,true,false,false,false] [] [] [0,1,2,3,4,5,6,7,8,9,10,11,12,13,14,15,16,17] ?_;refine Q.rd ?_;refine Q.r ?_;exact N.t rfl (Ent.trans eG fin) ⟨rfl,rfl⟩
    ·have hje:j=e.vs.length:=by omega
     subst hje;rw[List.take_length] at hwa hwp hpu hda;rw[List.drop_length] at hpu;refine Q.r ?_;exact ⟨(M2,a2,c2,ws),zt,by exact eG,hl2,hwo,hwa,hpu,hda⟩
   rintro ⟨M2,a2,c2,ws⟩ ⟨hl2,hwo,hwa,hpu,hda⟩;dsimp only at hl2 hwo hwa hpu hda ⊢;have hwl:ws.length=e.vs.length:=by
    have:=congrArg List.length hwa
    simpa using this
   by_cases hA:1099511627776<e.id
   ·obtain ⟨e1,e2⟩:=hbad (by unfold badE;simp[hA])
    rw[e1,e2];refine Q.r ?_;exact N.t rfl (Ent.trans eG fin) ⟨rfl,rfl⟩
   by_cases hC:ws.length=0
   ·obtain ⟨e1,e2⟩ := hbad (by
     have h8:decide (e.abs.2.length=0)=true:=decide_eq_true (by rw[←hwl.symm.trans hC,List.length_map]);unfold badE;rw[h8];simp)
    rw[e1,e2];refine Q.r ?_;exact N.t rfl (Ent.trans eG fin) ⟨rfl,rfl⟩
   have hwel:we.length≤1000:=by
    have h8:=hokw.len.2;dsimp only at h8;rw[List.length_map,List.length_take] at h8;omega
   refine Q.r ?_;refine opsS_ent (L':=rP bw st.dim wa we wc none [] 0 mark::roM M2::slO 149 2 a2 ws.length c2 (ws.flatMap OV.cells)::pt b1 (cl e.cells 147)::rP p st.dim ra re rc ra' ri rc' st.mark::roM Mr::roM M::L) eG ?_;refine S.cr rfl (RChain_spec bw st.dim wa we wc none [] 0 mark e.id M2 _ (hokw.sE.mono hl2) zo) ?_;rintro _ _ ⟨⟨f,hf,hfi,rfl⟩|⟨rfl,hno⟩,rfl⟩
   ·have hfl:=hne f hf
    obtain ⟨e1,e2⟩ := hbad (by
     have h8:=hokw.chain hf;rw[hfi] at h8;unfold badE;rw[show lkL ((es.take k).map EV.abs) e.abs.1=some (f.vs.map OV.abs) from h8]
     simp)
    rw[e1,e2];refine Q.r ?_;exact N.t rfl (Ent.trans eG fin) ⟨rfl,rfl⟩
   have hnoc:=hokw.noC hno;have hgb:badE st.dim ((es.take k).map EV.abs) e.abs=false:=by
    have h8:decide (e.abs.2.length=0)=false:=decide_eq_false (by rw[List.length_map,←hwl];exact hC);have h9:decide (putsE [] e.abs.2≠0)=false:=decide_eq_false (by rw[show putsE [] e.abs.2=0 from hpu];simp);unfold badE;rw[h8,h9,show e.abs.2.any (badD st.dim)=false from hda,show lkL ((es.take k).map EV.abs) e.abs.1=none from hnoc]
    simp[hA]
   rw[ldF_good hgb] at hld;refine Q.r ?_;refine opsS_cap a2 λhc2=>opsS_abs a2 (λM3 hl3 hs3=> ?_)
   refine opsS_ent (L':=rP bw st.dim wa we wc none [] 0 mark::roM M3::pt b1 (cl e.cells 147)::rP p st.dim ra re rc ra' ri rc' st.mark::roM Mr::roM M::L) eG ?_;refine S.cr rfl (RSet_spec bw st.dim wa we wc none [] 0 mark ⟨e.id,a2,c2,ws⟩ M3 _ (hokw.sE.mono (hl2.trans hl3)) zo hokw.cs (by dsimp only;omega)) ?_;rintro _ _ ⟨a7,c7,rfl,rfl⟩;refine opsS_cap a7 λhc7=>opsS_abs a7 (λM4 hl4 hs7=> ?_)
   have hokn:=hokw.put (hl2.trans (hl3.trans hl4)) (nw:=⟨e.id,a2,c2,ws⟩) ⟨hs3.mono hl4,λo ho=>(hwo o ho).mono (hl3.trans hl4)⟩ hs7 hc7;dsimp only at hokn;rw[putL_none (lk_none' hnoc),hwa,show ((es.take k).map EV.abs++[(e.id,e.vs.map OV.abs)])=(es.take (k+1)).map EV.abs by rw[take_snoc he,List.map_append];rfl] at hokn;refine Q.r ?_;refine ⟨(k+1,M4,a7,c7,insE we ⟨e.id,a2,c2,ws⟩),zt,by exact eG,⟨by dsimp only;omega,hokn,λf hf=> ?_,by dsimp only;rw[hld,take_snoc he,List.map_append];rfl⟩,by dsimp only;omega⟩
   rcases insE_mem hf with rfl|⟨hf,_⟩
   ·dsimp only;omega
   ·exact hne f hf
  ·have hke:k=es.length:=by omega
   subst hke;rw[List.take_length] at hokw hld;rw[List.drop_length] at hld;refine Q.r ?_;exact ⟨(Mw,wa,wc,we),zt,by exact eG,hokw,hld⟩
 rintro ⟨Mw,wa,wc,we⟩ ⟨hokw,hld⟩;dsimp only at hokw hld ⊢;rw[hld] at hE1;simp only[Option.isNone_some,Bool.false_eq_true,if_false] at hE1;have hcl:re.length=st.ch.length:=hok.len.2;have hil:ri.length=st.its.length:=hok.len.1;have hS:loadE st mark (es.map EV.abs)≠0→loadS st mark (es.map EV.abs)=st:=λh0=>by unfold loadS;rw[if_neg h0]
 by_cases k1:0<st.ch.length
 ·have e1:loadE st mark (es.map EV.abs)=10:=by rw[hE1,if_pos (.inl k1)]
  rw[hS (by rw[e1];simp),e1];refine Q.r ?_;exact N.t rfl (Ent.trans eG fin) ⟨rfl,rfl⟩
 by_cases k2:0<st.its.length
 ·have e1:loadE st mark (es.map EV.abs)=10:=by rw[hE1,if_pos (.inr (.inl k2))]
  rw[hS (by rw[e1];simp),e1];refine Q.r ?_;exact N.t rfl (Ent.trans eG fin) ⟨rfl,rfl⟩
 by_cases k3:0<st.mark
 ·have e1:loadE st mark (es.map EV.abs)=10:=by rw[hE1,if_pos (.inr (.inr k3))]
  rw[hS (by rw[e1];simp),e1];refine Q.r ?_;exact N.t rfl (Ent.trans eG fin) ⟨rfl,rfl⟩
 have e1:loadE st mark (es.map EV.abs)=0:=by rw[hE1,if_neg zo]
 have e2:loadS st mark (es.map EV.abs)=⟨st.dim,es.map EV.abs,[],mark⟩:=by
  unfold loadS;rw[if_pos e1,(load_ok e1).2.2.2]
 rw[e1,e2];refine Q.r ?_;refine N.t rfl (Ent.trans ?_ (ref_shut hokw)) ⟨rfl,rfl⟩;exact eG
theorem chF_s (k:Nat)(s:RS×List (Int×VL)):chF (k+1) s=chF k (if lastLt (s.2.map (·.1)) (entC s.1).1.1=true then (entC s.1).2 else {(entC s.1).2 with bad:=1},s.2++[(entC s.1).1]):=rfl
theorem cntF_le (s:RS):(cntF s).1≤(cntF s).2.bs.length∧(cntF s).1≤1048576∧(cntF s).2.bs.length≤s.bs.length:=by
 have h1:=(rdF_le 1048576 s).1;have h2:=rdF_len 1048576 s;unfold cntF
 split
 ·dsimp only;omega
 ·omega
theorem vecD_le (s:RS):(vecD 8 s).1.length≤8∧(vecD 8 s).2.bs.length≤s.bs.length:=by
 have key:∀(k:Nat) (bs:List UInt8) (acc:List Int),(vgo k bs acc).1.length≤acc.length+k:=λk=>by
  induction k with
  |zero=>exact λbs acc=>Nat.le_refl _
  |succ k ih=>
   intro bs acc;rw[vgo_succ]
   split
   ·simp
   ·split
    ·simp
    ·have:=ih (bs.drop (takeF bs 18446744073709551615).2.1) (acc++[zzD (takeF bs 18446744073709551615).1])
     rw[len_snoc] at this;omega
 rw[vecD_vt]
 split
 ·exact ⟨Nat.zero_le _,Nat.le_refl _⟩
 ·split
  ·exact ⟨Nat.zero_le _,Nat.le_refl _⟩
  ·unfold vtF
   split
   ·exact ⟨Nat.zero_le _,Nat.zero_le _⟩
   ·rename_i h1 h2 h3
    have hn:=(takeF_inv (Decidable.not_not.1 h3)).2;have h4:=key (takeF s.bs 8).1 (s.bs.drop (takeF s.bs 8).2.1) [];have h5:=vtF_sz (takeF s.bs 8).1 (s.bs.drop (takeF s.bs 8).2.1) [];rw[List.length_drop] at h5;exact ⟨by dsimp only;simpa using Nat.le_trans h4 (by simpa using hn),by dsimp only;omega⟩
theorem entC_eq {s z1 z2 z3:RS}{id m:Nat}{vs:VL}(h1:rdF 1099511627776 s=(id,z1))(h2:cntF z1=(m,z2))(hm:m≤1048576)(h3:listF verD m (z2,[])=(z3,vs)):entC s=(((id:Int),vs),z3):=by
 unfold entC pairD numD decN;simp only[h1,h2];rw[Nat.min_eq_left hm,h3]
abbrev qlV (a:OA)(c:Nat)(vs:List OV):HP:=slO 149 2 a vs.length c (vs.flatMap OV.cells)
abbrev qlE (a:OA)(c:Nat)(es:List EV):HP:=slO 147 2 a es.length c (es.flatMap EV.cells)
theorem intC_eq {s z1 z2 z3 z4 z5 z6:RS}{id af m q:Nat}{ps:List Int}{vs:VL}(h1:rdF 18446744073709551615 s=(id,z1))(h2:rdF 1099511627776 z1=(af,z2))(h3:cntF z2=(m,z3))(h4:listF (numD 15) (min m 5) (z3,[])=(z4,ps))(h5:cntF z4=(q,z5))(h6:listF verD (min q 17) (z5,[])=(z6,vs)):intC s=(((id:Int),(af:Int),ps,vs),z6):=by
 unfold intC pairD decN;dsimp only;rw[show numD 18446744073709551615 s=((id:Int),z1) from numD_eq h1];dsimp only;rw[show numD 1099511627776 z1=((af:Int),z2) from numD_eq h2];dsimp only;rw[h3];dsimp only;rw[h4];dsimp only;rw[h5];dsimp only;rw[h6]
theorem refI_rise :∀(k:Nat) (s r:RS×JS),refI k s=some r→Rise (s.2.parts.map (·.1))→Rise (r.2.parts.map (·.1))∧r.2.v.dim=s.2.v.dim
 |0,s,r,h,hr=>by
  unfold refI at h
  cases h
  exact ⟨hr,rfl⟩
 |k+1,s,r,h,hr=>by
  rw[refI_succ] at h
  split at h
  ·rename_i hc
   obtain ⟨q1,q2⟩:=refI_rise k _ r h (by dsimp only;rw[List.map_append];exact rise_snoc hr hc.2.1);exact ⟨q1,q2.trans (lockS_dim _ _ _ _)⟩
  ·cases h
theorem refN_rise :∀(k:Nat) (s r:RS×List (Int×Int)),refN k s=some r→Rise (s.2.map (·.1))→Rise (r.2.map (·.1))
 |0,s,r,h,hr=>by
  unfold refN at h
  cases h
  exact hr
 |k+1,s,r,h,hr=>by
  rw[refN_succ] at h
  split at h
  ·rename_i hc
   exact refN_rise k _ r h (by dsimp only;rw[List.map_append];exact rise_snoc hr hc.2)
  ·cases h
abbrev slDn (a:OA)(c:Nat)(ds:List (Int×Int)):HP:=slO 157 2 a ds.length c (ds.flatMap dC)
abbrev slPa (a:OA)(c:Nat)(us:List QV):HP:=slO 155 2 a us.length c (us.flatMap QV.cells)
abbrev okC1 (e:EV):Prop:=capO e.vs∧e.vs.length≤1000∧∀o∈e.vs,o.vec.length≤8
set_option maxRecDepth 100000 in
theorem JRUnpack_spec (M:OM)(dim:Int)(a:OA)(c:Nat)(bs:List UInt8)(L:HL)(hs:SlM M a bs.length 1 (bs.map B))(hc:bs.length≤c)(hb:bs.length≤600)(d1:1≤dim)(d2:dim≤8):
  CallsS Tryz.prog 12 [.int .i64 dim,.int .i64 dim,.slice a bs.length c] (roM M::L) (λv L'=>∃M',leM M M'∧((refUJ dim bs=none∧v=.pointer none∧L'=roM M'::L)∨∃F x,refUJ dim bs=some F∧v=.pointer (some ⟨x,0,none⟩)∧L'=rjH x F::roM M'::L)):=by
 refine CallsS.of_body Tryz.func12 rfl rfl rfl ?_;refine Q.r ?_;(repeat (intro b1;refine Q.r ?_));revert b1;intro r;have hk0:RK M a c (rs0 bs):=⟨hs,hc,(by show bs.length≤_;omega)⟩;refine opsS_ent (L':=roM M::qrS r a c (rs0 bs)::L) eG ?_;refine S.cr rfl (RNewO_spec dim dim _) ?_;rintro _ _ ⟨jr,vr,rfl,rfl⟩;refine Q.r ?_;refine S.c1 (A:=qrS r a c (rs0 bs)) rfl (Qnum_spec r a c (rs0 bs) 1099511627776 M _ hk0) ?_;rintro _ _ ⟨rfl,a1,c1,hk1,rfl⟩;have hl1:=rdF_len 1099511627776 (rs0 bs);have hU:refUJ dim bs=refA dim ((rdF 1099511627776 (rs0 bs)).1:Int) (chF (cntF (rdF 1099511627776 (rs0 bs)).2).1 ((cntF (rdF 1099511627776 (rs0 bs)).2).2,[])):=rfl;generalize rdF 1099511627776 (rs0 bs)=x1 at*;obtain ⟨m,z1⟩:=x1;dsimp only at*;refine Q.r ?_;refine S.c1 (A:=qrS r a1 c1 z1) rfl (Qcount_spec r a1 c1 z1 M _ hk1) ?_;rintro _ _ ⟨rfl,a2,c2,hk2,rfl⟩;have hl2:=cntF_le z1;generalize cntF z1=x2 at*;obtain ⟨n,z2⟩:=x2;dsimp only at*;have hz2:z2.bs.length≤600:=by omega
 have hn6:n≤600:=by omega
 refine Q.r ?_;refine swp_cutB (σ:=RS×List EV×OA×Nat×OA×Nat×(OM)) (λw=> [(7,.pointer (some ⟨r,0,none⟩)),(8,.pointer (some ⟨jr,0,none⟩)),(9,.int .u64 m),(10,.slice w.2.2.2.2.1 w.2.1.length w.2.2.2.2.2.1)])
  (λw=>qlE w.2.2.2.2.1 w.2.2.2.2.2.1 w.2.1::qrS r w.2.2.1 w.2.2.2.1 w.1::rjP jr dim vr none [] 0 none [] 0::refH vr (VS0 dim)::roM w.2.2.2.2.2.2::L) (λw=>RK w.2.2.2.2.2.2 w.2.2.1 w.2.2.2.1 w.1∧w.1.bs.length≤600∧leM M w.2.2.2.2.2.2∧w.2.1.length≤600∧(∀e∈w.2.1,okE w.2.2.2.2.2.2 e∧okC1 e)∧chF n (z2,[])=(w.1,w.2.1.map EV.abs)) ?_ ?_
 ·refine swp_loop (σ:=Nat×RS×List EV×OA×Nat×OA×Nat×(OM)) (λw=> [(7,.pointer (some ⟨r,0,none⟩)),(8,.pointer (some ⟨jr,0,none⟩)),(9,.int .u64 m),(28,.int .i64 n),(10,.slice w.2.2.2.2.2.1 w.2.2.1.length w.2.2.2.2.2.2.1),(29,.int .i64 w.1)])
   (λw=>qlE w.2.2.2.2.2.1 w.2.2.2.2.2.2.1 w.2.2.1::qrS r w.2.2.2.1 w.2.2.2.2.1 w.2.1::rjP jr dim vr none [] 0 none [] 0::refH vr (VS0 dim)::roM w.2.2.2.2.2.2.2::L)
   (λw=>w.1≤n∧w.2.2.1.length=w.1∧RK w.2.2.2.2.2.2.2 w.2.2.2.1 w.2.2.2.2.1 w.2.1∧w.2.1.bs.length≤600∧leM M w.2.2.2.2.2.2.2∧(∀e∈w.2.2.1,okE w.2.2.2.2.2.2.2 e∧okC1 e)∧chF (n - w.1) (w.2.1,w.2.2.1.map EV.abs)=chF n (z2,[])) (λw=>n - w.1) (0,z2,[],a2,c2,none,0,M) zt eG ⟨Nat.zero_le _,rfl,hk2,hz2,leM.refl M,λ_ h=>(by cases h),rfl⟩ ?_
  rintro ⟨i,s2,es,a3,c3,ea,ec,M2⟩ ⟨hi,hel,hk3,hs3,hl3,hok,hB⟩;dsimp only at hi hel hk3 hs3 hl3 hok hB ⊢
  by_cases hlt:i<n
  ·rw[show n - i=(n - (i+1))+1 by omega,chF_s] at hB
   dsimp only at hB;refine Q.r ?_;refine S.c1 (A:=qrS r a3 c3 s2) rfl (Qnum_spec r a3 c3 s2 1099511627776 M2 _ hk3) ?_;rintro _ _ ⟨rfl,a4,c4,hk4,rfl⟩;have hr4:=rdF_len 1099511627776 s2;generalize e1:rdF 1099511627776 s2=x4 at*;obtain ⟨id,z4⟩:=x4;dsimp only at*;refine Q.r ?_;(repeat (intro b1;refine Q.r ?_));revert b1;intro b4;refine opsS_ent (L':=qrS r a4 c4 z4::pt b4 (cl [.int .u64 id,.slice none 0 0] 147)::qlE ea ec es::rjP jr dim vr none [] 0 none [] 0::refH vr (VS0 dim)::roM M2::L) eG ?_;refine S.c1 (A:=qrS r a4 c4 z4) rfl (Qcount_spec r a4 c4 z4 M2 _ hk4) ?_;rintro _ _ ⟨rfl,a5,c5,hk5,rfl⟩;have hq5:=cntF_le z4;generalize e2:cntF z4=x5 at*;obtain ⟨q,z5⟩:=x5;dsimp only at*;have hz5:z5.bs.length≤600:=by omega
   have hq6:q≤600:=by omega
   refine Q.r ?_;refine swp_cutB (σ:=RS×List OV×OA×Nat×OA×Nat×(OM)) (λw=> [(7,.pointer (some ⟨r,0,none⟩)),(8,.pointer (some ⟨jr,0,none⟩)),(9,.int .u64 m),(10,.slice ea es.length ec),(11,.pointer (some ⟨b4,0,none⟩)),(28,.int .i64 n),(29,.int .i64 i)])
    (λw=>pt b4 (cl [.int .u64 id,.slice w.2.2.2.2.1 w.2.1.length w.2.2.2.2.2.1] 147)::qlV w.2.2.2.2.1 w.2.2.2.2.2.1 w.2.1::qlE ea ec es::qrS r w.2.2.1 w.2.2.2.1 w.1::rjP jr dim vr none [] 0 none [] 0::refH vr (VS0 dim)::roM w.2.2.2.2.2.2::L) (λw=>RK w.2.2.2.2.2.2 w.2.2.1 w.2.2.2.1 w.1∧w.1.bs.length≤600∧leM M2 w.2.2.2.2.2.2∧okR w.2.2.2.2.2.2 w.2.1∧capO w.2.1∧w.2.1.length≤600∧(∀o∈w.2.1,o.vec.length≤8)∧listF verD q (z5,[])=(w.1,w.2.1.map OV.abs)) ?_ ?_
   ·refine swp_loop (σ:=Nat×RS×List OV×OA×Nat×OA×Nat×(OM)) (λw=> [(7,.pointer (some ⟨r,0,none⟩)),(8,.pointer (some ⟨jr,0,none⟩)),(9,.int .u64 m),(10,.slice ea es.length ec),(11,.pointer (some ⟨b4,0,none⟩)),(28,.int .i64 n),(29,.int .i64 i),(35,.int .i64 q),(36,.int .i64 w.1)])
     (λw=>pt b4 (cl [.int .u64 id,.slice w.2.2.2.2.2.1 w.2.2.1.length w.2.2.2.2.2.2.1] 147)::qlV w.2.2.2.2.2.1 w.2.2.2.2.2.2.1 w.2.2.1::qlE ea ec es::qrS r w.2.2.2.1 w.2.2.2.2.1 w.2.1::rjP jr dim vr none [] 0 none [] 0::refH vr (VS0 dim)::roM w.2.2.2.2.2.2.2::L)
     (λw=>w.1≤q∧w.2.2.1.length=w.1∧RK w.2.2.2.2.2.2.2 w.2.2.2.1 w.2.2.2.2.1 w.2.1∧w.2.1.bs.length≤600∧leM M2 w.2.2.2.2.2.2.2∧okR w.2.2.2.2.2.2.2 w.2.2.1∧capO w.2.2.1∧(∀o∈w.2.2.1,o.vec.length≤8)∧listF verD (q - w.1) (w.2.1,w.2.2.1.map OV.abs)=listF verD q (z5,[])) (λw=>q - w.1) (0,z5,[],a5,c5,none,0,M2) zt eG ⟨Nat.zero_le _,rfl,hk5,hz5,leM.refl M2,λ_ h=>(by cases h),λ_ h=>(by cases h),λ_ h=>(by cases h),rfl⟩ ?_
    rintro ⟨k,s5,vs,a6,c6,va,vc,M5⟩ ⟨hk,hvl,hk6,hs6,hl6,hov,hcv,hv8,hV⟩;dsimp only at hk hvl hk6 hs6 hl6 hov hcv hv8 hV ⊢
    by_cases hlt2:k<q
    ·rw[show q - k=(q - (k+1))+1 by omega,listF_succ] at hV
     dsimp only at hV;refine Q.r ?_;refine Q.dgo [true,false,false,false,false,false,false] [3,5,7,8,10] [10] [0,1,2,4,3,5,6,7,8,9,10] ?_;refine Q.rd2 ?_;refine D.e rfl rfl rfl ?_;refine S.c1 (A:=qrS r a6 c6 s5) rfl (Qnum_spec r a6 c6 s5 1099511627776 M5 _ hk6) ?_;rintro _ _ ⟨rfl,a7,c7,hk7,rfl⟩;have hr7:=rdF_len 1099511627776 s5;generalize e3:rdF 1099511627776 s5=x7 at*;obtain ⟨st,z7⟩:=x7;dsimp only at*;refine Q.r ?_;refine Q.rd2 ?_;refine D.e rfl rfl rfl ?_;refine S.c1 (A:=qrS r a7 c7 z7) rfl (Qvec_spec r a7 c7 z7 M5 _ hk7) ?_;rintro _ _ ⟨wa,wc,a8,c8,rfl,hk8,rfl⟩;have hr8:=vecD_le z7;generalize e4:vecD 8 z7=x8 at*;obtain ⟨w,z8⟩:=x8;dsimp only at*;rw[verD_eq e3 e4] at hV;dsimp only at hV;refine Q.r ?_;refine Q.rd2 ?_;refine D.e rfl rfl rfl ?_;refine Q.r ?_;(repeat (intro b1;refine Q.r ?_));refine Q.rd2 ?_;refine D.e rfl rfl rfl ?_;refine S.app rfl rfl (SrcS.sl RdC.row zr zr) zr zo zo (λva2 vc2=> ?_);refine opsS_cap wa λhcap=>opsS_abs wa (λM6 hl7 hs7=> ?_)
     refine Q.r ?_;refine Q.rd2 ?_;refine Q.dc rfl rfl rfl rfl ?_;refine Q.r ?_;refine Q.rd2 ?_;have hk9:RK M6 a8 c8 z8:=hk8.mono hl7;have hov6:okR M6 (vs++[(⟨st,wa,wc,w⟩:OV)]):=λo ho=>by
      rcases List.mem_append.1 ho with ho|ho
      ·exact (hov o ho).mono hl7
      ·rw[List.mem_singleton.1 ho];exact hs7
     have hcv6:capO (vs++[(⟨st,wa,wc,w⟩:OV)]):=λo ho=>by
      rcases List.mem_append.1 ho with ho|ho
      ·exact hcv o ho
      ·rw[List.mem_singleton.1 ho];exact hcap
     have hv86:∀o∈vs++[(⟨st,wa,wc,w⟩:OV)],o.vec.length≤8:=λo ho=>by
      rcases List.mem_append.1 ho with ho|ho
      ·exact hv8 o ho
      ·rw[List.mem_singleton.1 ho];exact hr8.1
     refine Q.r ?_;refine ⟨(k+1,z8,vs++[⟨st,wa,wc,w⟩],a8,c8,va2,vc2,M6),⟨rfl,rfl,rfl,rfl,rfl,rfl,rfl,rfl,congrArg some (by simp[List.filter_append]),trivial⟩,?_,⟨hlt2,by dsimp only;rw[len_snoc,hvl],hk9,by dsimp only;omega,hl6.trans hl7,hov6,hcv6,hv86,?_⟩,Nat.sub_succ_lt_self q k hlt2⟩
     ·dsimp only[qlV]
      rw[len_snoc,flat_snoc];exact eG
     ·dsimp only
      rw[←hV,List.map_append];rfl
    ·have hkm:k=q:=by omega
     subst hkm;rw[Nat.sub_self] at hV;refine Q.r ?_;exact ⟨(s5,vs,a6,c6,va,vc,M5),zt,by exact eG,hk6,hs6,hl6,hov,hcv,by dsimp only;omega,hv8,hV.symm⟩
   rintro ⟨s5,vs,a6,c6,va,vc,M5⟩ ⟨hk6,hs6,hl6,hov,hcv,hv6,hv8,hV⟩;dsimp only at hk6 hs6 hl6 hov hcv hv6 hv8 hV ⊢;have hE:=entC_eq e1 e2 zo hV;rw[hE] at hB;dsimp only at hB;have hmm:(es.map EV.abs).map (·.1)=es.map (·.id):=List.map_map;rw[hmm] at hB;refine swp_abs va (λM6 hl7 hs7=> ?_);have hok6:∀e∈es++[(⟨id,va,vc,vs⟩:EV)],okE M6 e∧okC1 e:=λe he=>by
    rcases List.mem_append.1 he with he|he
    ·exact ⟨(hok e he).1.mono (hl6.trans hl7),(hok e he).2⟩
    ·rw[List.mem_singleton.1 he]
     exact ⟨⟨hs7,λo ho=>(hov o ho).mono hl7⟩,hcv,Nat.le_trans hv6 zo,hv8⟩
   have hk7:RK M6 a6 c6 s5:=hk6.mono hl7;refine Q.r ?_;refine swp_ent (L':=pt b4 (cl [.int .u64 id,.slice va vs.length vc] 147)::qlE ea ec es::qrS r a6 c6 s5::rjP jr dim vr none [] 0 none [] 0::refH vr (VS0 dim)::roM M6::L) eG ?_;refine swp_cutT (σ:=Unit) (λ_=> [(7,.pointer (some ⟨r,0,none⟩)),(8,.pointer (some ⟨jr,0,none⟩)),(9,.int .u64 m),(10,.slice ea es.length ec),(11,.pointer (some ⟨b4,0,none⟩)),(28,.int .i64 n),(29,.int .i64 i),(63,.bool (!lastLt (es.map (·.id)) id))])
    (λ_=>pt b4 (cl [.int .u64 id,.slice va vs.length vc] 147)::qlE ea ec es::qrS r a6 c6 s5::rjP jr dim vr none [] 0 none [] 0::refH vr (VS0 dim)::roM M6::L) (λ_=>True) ?_ ?_
   ·by_cases hz:es.length=0
    ·rw[lastLt_nil hz]
     refine Q.dgo [true,true] [] [] [0,1,2,3,4,5,6,7,8,9,10,11,12] ?_;refine Q.rd ?_;refine Q.r ?_;exact ⟨(),zt,by exact eG,trivial⟩
    ·refine swp_addr ea (λha=> ?_)
     obtain ⟨e0,he0⟩:=mem_get (l:=es) (k:=es.length - 1) zo;obtain ⟨bb,oo,hia,cr⟩:=RdS.elem (g:=EV.cells) (λ_=>rfl) (RdS.own (L:=[pt b4 (cl [.int .u64 id,.slice va vs.length vc] 147),qlE ea ec es]) ha (flat_len (sz:=2) (λ_=>rfl) es)) he0 rfl;have hlt0:=lastLt_get (f:=λe:EV=>e.id) he0 id;have hk1':(es.length:Int) - 1=((es.length - 1:Nat):Int):=by omega
     have hk2':es.length - 1<es.length:=by omega
     subst hia;refine Q.dgo [true,true] [] [] [0,1,2,3,4,5,6,7,8,9,10,11,12] ?_;refine Q.rd ?_;refine D.y rfl rfl rfl zk (Y.guard rfl (Y.ia (k:=es.length - 1) (m:=es.length) rfl rfl hk1' hk2')) ?_;refine Q.rd ?_;refine D.y rfl rfl rfl zk (by first|exact (Y.ldRj rfl (by first|assumption|exact RdC.sub (by assumption)) rfl)|exact Y.guard rfl (Y.ldRj rfl (by first|assumption|exact RdC.sub (by assumption)) rfl)) ?_;refine Q.rd ?_;refine Q.r ?_;exact ⟨(),⟨rfl,rfl,rfl,rfl,rfl,rfl,rfl,congrArg some (congrArg Value.bool (by rw[hlt0,←decide_not,decide_eq_decide];omega)),trivial⟩,by exact eG,trivial⟩
   rintro _ _
   cases hlL:lastLt (es.map (·.id)) id with
   |true=>
    rw[hlL,if_pos rfl] at hB;refine Q.r ?_;(repeat (intro b1;refine Q.r ?_));refine S.app rfl rfl (SrcS.sl RdC.row zr zr) zr zo zo (λea2 ec2=> ?_);refine Q.r ?_;refine ⟨(i+1,s5,es++[⟨id,va,vc,vs⟩],a6,c6,ea2,ec2,M6),⟨rfl,rfl,rfl,rfl,congrArg some (by simp[List.filter_append]),congrArg some (by simp[List.filter_append]),trivial⟩,?_,⟨hlt,by dsimp only;rw[len_snoc,hel],hk7,hs6,hl3.trans (hl6.trans hl7),hok6,?_⟩,Nat.sub_succ_lt_self n i hlt⟩
    ·dsimp only[qlE]
     rw[len_snoc,flat_snoc];exact eG
    ·dsimp only
     rw[←hB,List.map_append];rfl
   |false=>
    rw[hlL,if_neg zd] at hB;refine Q.r ?_;(repeat (intro b1;refine Q.r ?_));refine S.app rfl rfl (SrcS.sl RdC.row zr zr) zr zo zo (λea2 ec2=> ?_);refine Q.r ?_;refine ⟨(i+1,{s5 with bad:=1},es++[⟨id,va,vc,vs⟩],a6,c6,ea2,ec2,M6),⟨rfl,rfl,rfl,rfl,congrArg some (by simp[List.filter_append]),congrArg some (by simp[List.filter_append]),trivial⟩,?_,⟨hlt,by dsimp only;rw[len_snoc,hel],⟨hk7.sl,hk7.c,hk7.b⟩,hs6,hl3.trans (hl6.trans hl7),hok6,?_⟩,Nat.sub_succ_lt_self n i hlt⟩
    ·show Ent _ (qlE ea2 ec2 (es++[⟨id,va,vc,vs⟩])::qrP r a6 s5.bs.length c6 false::_)
     dsimp only[qlE];rw[len_snoc,flat_snoc];exact eG
    ·dsimp only
     rw[←hB,List.map_append];rfl
  ·have hin:i=n:=by omega
   subst hin;rw[Nat.sub_self] at hB;refine Q.r ?_;exact ⟨(s2,es,a3,c3,ea,ec,M2),zt,by exact eG,hk3,hs3,hl3,by dsimp only;omega,hok,hB.symm⟩
 rintro ⟨s2,es,a3,c3,ea,ec,M2⟩ ⟨hk3,hs3,hl3,hel,hok,hB⟩;dsimp only at hk3 hs3 hl3 hel hok hB ⊢;rw[hB] at hU;unfold refA at hU;dsimp only at hU
 by_cases g1:s2.bad=0
 case neg=>
  have out:refUJ dim bs=none:=by rw[hU,if_neg λh=>g1 h.1]
  refine Q.r ?_;exact N.t rfl eG ⟨M2,hl3,.inl ⟨out,rfl,rfl⟩⟩
 refine swp_abs ea (λM3 hl4 hs4=> ?_);have hle3:=hl3.trans hl4;have hw0:WFK (VS0 dim) 0:=(J0.ok d1 d2).w;refine Q.r ?_;refine S.c2 (A:=refH vr (VS0 dim)) (B:=roM M3) rfl (RLoad_spec vr (VS0 dim) 0 m ea ec es M3 _ hw0.wf zo ⟨hs4,λe he=>(hok e he).1.mono hl4⟩ zo (λe he=>⟨(hok e he).2.2.1,λo ho=>⟨Nat.le_trans ((hok e he).2.2.2 o ho) zo,(hok e he).2.1 o ho⟩⟩)) ?_;rintro _ _ ⟨rfl,rfl⟩
 by_cases g2:loadE (VS0 dim) m (es.map EV.abs)=0
 case neg=>
  have out:refUJ dim bs=none:=by rw[hU,if_neg λh=>g2 h.2]
  refine Q.r ?_;exact N.t rfl eG ⟨M3,hle3,.inl ⟨out,rfl,rfl⟩⟩
 rw[if_pos ⟨g1,g2⟩] at hU;rw[g2];have hwL:WFK (loadS (VS0 dim) m (es.map EV.abs)) 1000:=by
  rw[loadS_eq g2];obtain ⟨w1,w2,w3,w4⟩:=load_ok g2;refine ⟨⟨d1,d2,Nat.zero_le _,(λi hi=>by cases hi),by dsimp only;rw[List.length_map];omega,λc hm=> ?_⟩,w1,by simp[keysOK]⟩;obtain ⟨e,he,rfl⟩:=List.mem_map.1 hm;exact ⟨(w2 _ hm).p.s,by rw[List.length_map];exact (hok e he).2.2.1,λv hv=>by
   obtain ⟨o,ho,rfl⟩:=List.mem_map.1 hv;exact (hok e he).2.2.2 o ho⟩
 have hstd:(loadS (VS0 dim) m (es.map EV.abs)).dim=dim:=by rw[loadS_eq g2]
 generalize loadS (VS0 dim) m (es.map EV.abs)=stL at*;have hk4:RK M3 a3 c3 s2:=hk3.mono hl4;clear hB hok hs4 hk3;refine Q.r ?_;refine S.c1 (A:=qrS r a3 c3 s2) rfl (Qcount_spec r a3 c3 s2 M3 _ hk4) ?_;rintro _ _ ⟨rfl,a4,c4,hk5,rfl⟩;have hc5:=cntF_le s2;generalize cntF s2=x5 at*;obtain ⟨n2,z5⟩:=x5;dsimp only at*;have hz5:z5.bs.length≤600:=by omega
 have hn5:n2≤600:=by omega
 refine Q.r ?_;refine swp_cutB (σ:=RS×VS×List QV×OA×Nat×OA×Nat×Int×(OM)) (λw=> [(7,.pointer (some ⟨r,0,none⟩)),(8,.pointer (some ⟨jr,0,none⟩)),(13,.int .u64 w.2.2.2.2.2.2.2.1)])
  (λw=>qrS r w.2.2.2.1 w.2.2.2.2.1 w.1::rjP jr dim vr w.2.2.2.2.2.1 w.2.2.1 w.2.2.2.2.2.2.1 none [] 0::slPa w.2.2.2.2.2.1 w.2.2.2.2.2.2.1 w.2.2.1::refH vr w.2.1::roM w.2.2.2.2.2.2.2.2::L) (λw=>RK w.2.2.2.2.2.2.2.2 w.2.2.2.1 w.2.2.2.2.1 w.1∧w.1.bs.length≤600∧leM M w.2.2.2.2.2.2.2.2∧w.2.2.1.length≤600∧(∀u∈w.2.2.1,SlM w.2.2.2.2.2.2.2.2 u.a u.l.length 1 (u.l.map I64))∧refI n2 (z5,⟨stL,[],[]⟩)=some (w.1,⟨w.2.1,w.2.2.1.map QV.abs,[]⟩)) ?_ ?_
 ·refine swp_loop (σ:=Nat×RS×VS×List QV×OA×Nat×OA×Nat×Int×(OM)) (λw=> [(7,.pointer (some ⟨r,0,none⟩)),(8,.pointer (some ⟨jr,0,none⟩)),(88,.int .i64 n2),(13,.int .u64 w.2.2.2.2.2.2.2.2.1),(89,.int .i64 w.1)])
   (λw=>qrS r w.2.2.2.2.1 w.2.2.2.2.2.1 w.2.1::rjP jr dim vr w.2.2.2.2.2.2.1 w.2.2.2.1 w.2.2.2.2.2.2.2.1 none [] 0::slPa w.2.2.2.2.2.2.1 w.2.2.2.2.2.2.2.1 w.2.2.2.1::refH vr w.2.2.1::roM w.2.2.2.2.2.2.2.2.2::L)
   (λw=>w.1≤n2∧w.2.2.2.1.length=w.1∧RK w.2.2.2.2.2.2.2.2.2 w.2.2.2.2.1 w.2.2.2.2.2.1 w.2.1∧w.2.1.bs.length≤600∧leM M w.2.2.2.2.2.2.2.2.2∧WFK w.2.2.1 (1000+w.1)∧(∀x:Int,lastLt ((w.2.2.2.1.map QV.abs).map (·.1)) x=decide (w.1=0∨w.2.2.2.2.2.2.2.2.1<x))∧(∀u∈w.2.2.2.1,SlM w.2.2.2.2.2.2.2.2.2 u.a u.l.length 1 (u.l.map I64))∧refI (n2 - w.1) (w.2.1,⟨w.2.2.1,w.2.2.2.1.map QV.abs,[]⟩)=refI n2 (z5,⟨stL,[],[]⟩)) (λw=>n2 - w.1) (0,z5,stL,[],a4,c4,none,0,0,M3) zt eG ⟨Nat.zero_le _,rfl,hk5,hz5,hle3,hwL,λx=>rfl,λ_ h=>(by cases h),rfl⟩ ?_
  rintro ⟨i,s,st,us,a5,c5,PA,PC,lst,M4⟩ ⟨hi,hul,hk6,hs6,hl6,hwf,hL,hus,hB⟩;dsimp only at hi hul hk6 hs6 hl6 hwf hL hus hB ⊢
  by_cases hlt:i<n2
  ·rw[show n2 - i=(n2 - (i+1))+1 by omega,refI_succ] at hB
   dsimp only at hB;refine Q.r ?_;refine S.c1 (A:=qrS r a5 c5 s) rfl (Qnum_spec r a5 c5 s 18446744073709551615 M4 _ hk6) ?_;rintro _ _ ⟨rfl,a6,c6,hk7,rfl⟩;have hr7:=rdF_len 18446744073709551615 s;have hid:=(rdF_le 18446744073709551615 s).1;generalize e1:rdF 18446744073709551615 s=x7 at*;obtain ⟨id,z7⟩:=x7;dsimp only at*;refine Q.r ?_;refine S.c1 (A:=qrS r a6 c6 z7) rfl (Qnum_spec r a6 c6 z7 1099511627776 M4 _ hk7) ?_;rintro _ _ ⟨rfl,a7,c7,hk8,rfl⟩;have hr8:=rdF_len 1099511627776 z7;have haf:=(rdF_le 1099511627776 z7).1;generalize e2:rdF 1099511627776 z7=x8 at*;obtain ⟨af,z8⟩:=x8;dsimp only at*;refine Q.r ?_;(repeat (intro b1;refine Q.r ?_));revert b1;intro b4;refine opsS_ent (L':=qrS r a7 c7 z8::pt b4 (cl [.int .u64 id,.int .u64 af,.slice none 0 0] 151)::rjP jr dim vr PA us PC none [] 0::slPa PA PC us::refH vr st::roM M4::L) eG ?_;refine S.c1 (A:=qrS r a7 c7 z8) rfl (Qcount_spec r a7 c7 z8 M4 _ hk8) ?_;rintro _ _ ⟨rfl,a8,c8,hk9,rfl⟩;have hq9:=cntF_le z8;generalize e3:cntF z8=x9 at*;obtain ⟨q,z9⟩:=x9;dsimp only at*;have hz9:z9.bs.length≤600:=by omega
   refine Q.r ?_;rw[show min (q:Int) 5=((min q 5:Nat):Int) by omega];have hK5:min q 5≤5:=by omega
   obtain ⟨K,hKe⟩:∃K,K=min q 5:=⟨_,rfl⟩;rw[←hKe] at hK5 ⊢;refine swp_cutB (σ:=RS×List Int×OA×Nat×OA×Nat) (λw=> [(7,.pointer (some ⟨r,0,none⟩)),(8,.pointer (some ⟨jr,0,none⟩)),(13,.int .u64 lst),(14,.int .i64 i),(15,.pointer (some ⟨b4,0,none⟩)),(88,.int .i64 n2),(89,.int .i64 i),(16,.slice w.2.2.2.2.1 w.2.1.length w.2.2.2.2.2)])
    (λw=>slP w.2.2.2.2.1 w.2.2.2.2.2 w.2.1::pt b4 (cl [.int .u64 id,.int .u64 af,.slice none 0 0] 151)::qrS r w.2.2.1 w.2.2.2.1 w.1::rjP jr dim vr PA us PC none [] 0::slPa PA PC us::refH vr st::roM M4::L) (λw=>RK M4 w.2.2.1 w.2.2.2.1 w.1∧w.1.bs.length≤600∧w.2.1.length≤5∧listF (numD 15) K (z9,[])=(w.1,w.2.1)) ?_ ?_
   ·refine swp_loop (σ:=Nat×RS×List Int×OA×Nat×OA×Nat) (λw=> [(7,.pointer (some ⟨r,0,none⟩)),(8,.pointer (some ⟨jr,0,none⟩)),(13,.int .u64 lst),(14,.int .i64 i),(15,.pointer (some ⟨b4,0,none⟩)),(88,.int .i64 n2),(89,.int .i64 i),(99,.int .i64 K),(16,.slice w.2.2.2.2.2.1 w.2.2.1.length w.2.2.2.2.2.2),(100,.int .i64 w.1)])
     (λw=>slP w.2.2.2.2.2.1 w.2.2.2.2.2.2 w.2.2.1::pt b4 (cl [.int .u64 id,.int .u64 af,.slice none 0 0] 151)::qrS r w.2.2.2.1 w.2.2.2.2.1 w.2.1::rjP jr dim vr PA us PC none [] 0::slPa PA PC us::refH vr st::roM M4::L)
     (λw=>w.1≤K∧w.2.2.1.length=w.1∧RK M4 w.2.2.2.1 w.2.2.2.2.1 w.2.1∧w.2.1.bs.length≤600∧listF (numD 15) (K - w.1) (w.2.1,w.2.2.1)=listF (numD 15) K (z9,[])) (λw=>K - w.1) (0,z9,[],a8,c8,none,0) zt eG ⟨Nat.zero_le _,rfl,hk9,hz9,rfl⟩ ?_
    rintro ⟨k,s6,ps,a9,c9,qa,qc⟩ ⟨hk,hvl,hk10,hs10,hV⟩;dsimp only at hk hvl hk10 hs10 hV ⊢
    by_cases hlt2:k<K
    ·rw[show K - k=(K - (k+1))+1 by omega,listF_succ] at hV
     dsimp only at hV;refine Q.r ?_;refine S.c1 (A:=qrS r a9 c9 s6) rfl (Qnum_spec r a9 c9 s6 15 M4 _ hk10) ?_;rintro _ _ ⟨rfl,a10,c10,hk11,rfl⟩;have hst:=(rdF_le 15 s6).1;have hr11:=rdF_len 15 s6;generalize e4:rdF 15 s6=x11 at*;obtain ⟨pp,z11⟩:=x11;dsimp only at*;rw[numD_eq e4] at hV;dsimp only at hV;refine Q.r ?_;refine S.y (Y.cvi rfl) ?_;rw[show IntKind.i64.wrap ((pp:Nat):Int)=(pp:Int) from wrap_i64 zo zo];refine Q.r ?_;(repeat (intro b1;refine Q.r ?_));refine S.app rfl rfl (SrcS.sl RdC.row zr zr) zr zo zo (λqa2 qc2=> ?_);refine Q.r ?_;refine ⟨(k+1,z11,ps++[(pp:Int)],a10,c10,qa2,qc2),⟨rfl,rfl,rfl,rfl,rfl,rfl,rfl,rfl,congrArg some (by simp[List.filter_append]),congrArg some (by simp[List.filter_append]),trivial⟩,?_,⟨hlt2,by dsimp only;rw[len_snoc,hvl],hk11,by dsimp only;omega,hV⟩,Nat.sub_succ_lt_self K k hlt2⟩;dsimp only[slP];rw[len_snoc,flat_snoc];exact eG
    ·have hkm:k=K:=by omega
     subst hkm;rw[Nat.sub_self] at hV;refine Q.r ?_;exact ⟨(s6,ps,a9,c9,qa,qc),zt,by exact eG,hk10,hs10,by dsimp only;omega,hV.symm⟩
   rintro ⟨s6,ps,a9,c9,qa,qc⟩ ⟨hk10,hs10,hps5,hP⟩;dsimp only at hk10 hs10 hps5 hP ⊢;refine Q.r ?_;refine S.c1 (A:=qrS r a9 c9 s6) rfl (Qcount_spec r a9 c9 s6 M4 _ hk10) ?_;rintro _ _ ⟨rfl,a10,c10,hk11,rfl⟩;have hq11:=cntF_le s6;generalize e5:cntF s6=x11 at*;obtain ⟨q2,z11⟩:=x11;dsimp only at*;have hz11:z11.bs.length≤600:=by omega
   refine Q.r ?_;rw[show min (q2:Int) 17=((min q2 17:Nat):Int) by omega];have hK17:min q2 17≤17:=by omega
   obtain ⟨K2,hKe2⟩:∃K,K=min q2 17:=⟨_,rfl⟩;rw[←hKe2] at hK17 ⊢;refine swp_cutB (σ:=RS×List OV×OA×Nat×OA×Nat×(OM)) (λw=> [(7,.pointer (some ⟨r,0,none⟩)),(8,.pointer (some ⟨jr,0,none⟩)),(13,.int .u64 lst),(14,.int .i64 i),(15,.pointer (some ⟨b4,0,none⟩)),(16,.slice qa ps.length qc),(88,.int .i64 n2),(89,.int .i64 i)])
    (λw=>pt b4 (cl [.int .u64 id,.int .u64 af,.slice w.2.2.2.2.1 w.2.1.length w.2.2.2.2.2.1] 151)::slQ w.2.2.2.2.1 w.2.2.2.2.2.1 w.2.1::slP qa qc ps::qrS r w.2.2.1 w.2.2.2.1 w.1::rjP jr dim vr PA us PC none [] 0::slPa PA PC us::refH vr st::roM w.2.2.2.2.2.2::L) (λw=>RK w.2.2.2.2.2.2 w.2.2.1 w.2.2.2.1 w.1∧w.1.bs.length≤600∧leM M4 w.2.2.2.2.2.2∧okR w.2.2.2.2.2.2 w.2.1∧capO w.2.1∧w.2.1.length≤17∧(∀o∈w.2.1,o.vec.length≤8)∧listF verD K2 (z11,[])=(w.1,w.2.1.map OV.abs)) ?_ ?_
   ·refine swp_loop (σ:=Nat×RS×List OV×OA×Nat×OA×Nat×(OM)) (λw=> [(7,.pointer (some ⟨r,0,none⟩)),(8,.pointer (some ⟨jr,0,none⟩)),(13,.int .u64 lst),(14,.int .i64 i),(15,.pointer (some ⟨b4,0,none⟩)),(16,.slice qa ps.length qc),(88,.int .i64 n2),(89,.int .i64 i),(111,.int .i64 K2),(112,.int .i64 w.1)])
     (λw=>pt b4 (cl [.int .u64 id,.int .u64 af,.slice w.2.2.2.2.2.1 w.2.2.1.length w.2.2.2.2.2.2.1] 151)::slQ w.2.2.2.2.2.1 w.2.2.2.2.2.2.1 w.2.2.1::slP qa qc ps::qrS r w.2.2.2.1 w.2.2.2.2.1 w.2.1::rjP jr dim vr PA us PC none [] 0::slPa PA PC us::refH vr st::roM w.2.2.2.2.2.2.2::L)
     (λw=>w.1≤K2∧w.2.2.1.length=w.1∧RK w.2.2.2.2.2.2.2 w.2.2.2.1 w.2.2.2.2.1 w.2.1∧w.2.1.bs.length≤600∧leM M4 w.2.2.2.2.2.2.2∧okR w.2.2.2.2.2.2.2 w.2.2.1∧capO w.2.2.1∧(∀o∈w.2.2.1,o.vec.length≤8)∧listF verD (K2 - w.1) (w.2.1,w.2.2.1.map OV.abs)=listF verD K2 (z11,[])) (λw=>K2 - w.1) (0,z11,[],a10,c10,none,0,M4) zt eG ⟨Nat.zero_le _,rfl,hk11,hz11,leM.refl M4,λ_ h=>(by cases h),λ_ h=>(by cases h),λ_ h=>(by cases h),rfl⟩ ?_
    rintro ⟨k,s5,vs,a11,c11,va,vc,M5⟩ ⟨hk,hvl,hk12,hs12,hl12,hov,hcv,hv8,hV⟩;dsimp only at hk hvl hk12 hs12 hl12 hov hcv hv8 hV ⊢
    by_cases hlt2:k<K2
    ·rw[show K2 - k=(K2 - (k+1))+1 by omega,listF_succ] at hV
     dsimp only at hV;refine Q.r ?_;refine Q.dgo [true,false,false,false,false,false,false] [3,5,7,8,10] [10] [0,1,2,4,3,5,6,7,8,9,10] ?_;refine Q.rd2 ?_;refine D.e rfl rfl rfl ?_;refine S.c1 (A:=qrS r a11 c11 s5) rfl (Qnum_spec r a11 c11 s5 1099511627776 M5 _ hk12) ?_;rintro _ _ ⟨rfl,a12,c12,hk13,rfl⟩;have hr13:=rdF_len 1099511627776 s5;generalize e6:rdF 1099511627776 s5=x13 at*;obtain ⟨sp,z13⟩:=x13;dsimp only at*;refine Q.r ?_;refine Q.rd2 ?_;refine D.e rfl rfl rfl ?_;refine S.c1 (A:=qrS r a12 c12 z13) rfl (Qvec_spec r a12 c12 z13 M5 _ hk13) ?_;rintro _ _ ⟨wa,wc,a13,c13,rfl,hk14,rfl⟩;have hr14:=vecD_le z13;generalize e7:vecD 8 z13=x14 at*;obtain ⟨w,z14⟩:=x14;dsimp only at*;rw[verD_eq e6 e7] at hV;dsimp only at hV;refine Q.r ?_;refine Q.rd2 ?_;refine D.e rfl rfl rfl ?_;refine Q.r ?_;(repeat (intro b1;refine Q.r ?_));refine Q.rd2 ?_;refine D.e rfl rfl rfl ?_;refine S.app rfl rfl (SrcS.sl RdC.row zr zr) zr zo zo (λva2 vc2=> ?_);refine opsS_cap wa λhcap=>opsS_abs wa (λM6 hl7 hs7=> ?_)
     refine Q.r ?_;refine Q.rd2 ?_;refine Q.dc rfl rfl rfl rfl ?_;refine Q.r ?_;refine Q.rd2 ?_;have hk9:RK M6 a13 c13 z14:=hk14.mono hl7;have hov6:okR M6 (vs++[(⟨sp,wa,wc,w⟩:OV)]):=λo ho=>by
      rcases List.mem_append.1 ho with ho|ho
      ·exact (hov o ho).mono hl7
      ·rw[List.mem_singleton.1 ho];exact hs7
     have hcv6:capO (vs++[(⟨sp,wa,wc,w⟩:OV)]):=λo ho=>by
      rcases List.mem_append.1 ho with ho|ho
      ·exact hcv o ho
      ·rw[List.mem_singleton.1 ho];exact hcap
     have hv86:∀o∈vs++[(⟨sp,wa,wc,w⟩:OV)],o.vec.length≤8:=λo ho=>by
      rcases List.mem_append.1 ho with ho|ho
      ·exact hv8 o ho
      ·rw[List.mem_singleton.1 ho];exact hr14.1
     refine Q.r ?_;refine ⟨(k+1,z14,vs++[⟨sp,wa,wc,w⟩],a13,c13,va2,vc2,M6),⟨rfl,rfl,rfl,rfl,rfl,rfl,rfl,rfl,rfl,congrArg some (by simp[List.filter_append]),trivial⟩,?_,⟨hlt2,by dsimp only;rw[len_snoc,hvl],hk9,by dsimp only;omega,hl12.trans hl7,hov6,hcv6,hv86,?_⟩,Nat.sub_succ_lt_self K2 k hlt2⟩
     ·dsimp only[slQ]
      rw[len_snoc,flat_snoc];exact eG
     ·dsimp only
      rw[←hV,List.map_append];rfl
    ·have hkm:k=K2:=by omega
     subst hkm;rw[Nat.sub_self] at hV;refine Q.r ?_;exact ⟨(s5,vs,a11,c11,va,vc,M5),zt,by exact eG,hk12,hs12,hl12,hov,hcv,by dsimp only;omega,hv8,hV.symm⟩
   rintro ⟨s5,vs,a11,c11,va,vc,M5⟩ ⟨hk12,hs12,hl12,hov,hcv,hv17,hv8,hV⟩;dsimp only at hk12 hs12 hl12 hov hcv hv17 hv8 hV ⊢;subst hKe;subst hKe2;have hI:=intC_eq e1 e2 e3 hP e5 hV;rw[hI] at hB;dsimp only at hB;refine swp_cap va λhvc=>swp_abs va (λM6 hl13 hs13=> ?_)
   refine swp_abs qa (λM7 hl14 hs14=> ?_);have hle7:leM M M7:=hl6.trans (hl12.trans (hl13.trans hl14));have hk15:RK M7 a11 c11 s5:=(hk12.mono hl13).mono hl14;have hov7:okR M7 vs:=λo ho=>((hov o ho).mono hl13).mono hl14
   have hs7:=hs13.mono hl14;have hus7:∀u∈us,SlM M7 u.a u.l.length 1 (u.l.map I64):=λu hu=>(hus u hu).mono (hl12.trans (hl13.trans hl14))
   have out:¬(s5.bad=0∧lastLt ((us.map QV.abs).map (·.1)) (id:Int)=true∧rightN (prN ((id:Int),(af:Int),ps,vs.map OV.abs))=true∧lockE st id af (vs.map OV.abs)=0)→refUJ dim bs=none:=λh=>by
    rw[if_neg h] at hB;rw[hU,←hB];rfl
   have hLi:=hL (id:Int);rw[hLi] at hB out;clear hL hLi;refine Q.r ?_;refine swp_ent (L':=pt b4 (cl [.int .u64 id,.int .u64 af,.slice va vs.length vc] 151)::qrS r a11 c11 s5::rjP jr dim vr PA us PC none [] 0::slPa PA PC us::refH vr st::roM M7::L) eG ?_;have hRight:∀(A:HL) [HasM M7 A],CallsS Tryz.prog 64 [NV.val ⟨12,id,0,0,af,0,0,0,0,0,0,0,qa,qc,ps,va,vc,vs,none,0,[],none,0,[]⟩] A (λr L'=>r=.bool (rightN (prN ((id:Int),(af:Int),ps,vs.map OV.abs)))∧L'=A):=λA hA=>
    Right12_spec ⟨12,id,0,0,af,0,0,0,0,0,0,0,qa,qc,ps,va,vc,vs,none,0,[],none,0,[]⟩ A ⟨by rw[←flat_I64];exact hs14.rd,⟨hs7.rd,λo ho=>(hov7 o ho).rd⟩,⟨rfl,.inl rfl⟩,⟨rfl,.inl rfl⟩,λh hh=>by cases hh⟩
     ⟨show ps.length≤1000000 by omega,show vs.length≤1000000 by omega,λo ho=>Nat.le_trans (hv8 o ho) zo,Nat.zero_le _,Nat.zero_le _,λh hh=>by cases hh⟩
     ⟨show (0:Int)≤12∧(12:Int)≤255 by decide,⟨Int.natCast_nonneg _,show (id:Int)≤18446744073709551615 by omega⟩,show (0:Int)≤0∧(0:Int)≤18446744073709551615 by decide,show (0:Int)≤0∧(0:Int)≤18446744073709551615 by decide,⟨Int.natCast_nonneg _,show (af:Int)≤18446744073709551615 by omega⟩,show (0:Int)≤0∧(0:Int)≤18446744073709551615 by decide,show (0:Int)≤0∧(0:Int)≤18446744073709551615 by decide,show (0:Int)≤0∧(0:Int)≤18446744073709551615 by decide,show (0:Int)≤9223372036854775807 by decide,show (0:Int)≤9223372036854775807 by decide,show (0:Int)≤9223372036854775807 by decide,show (0:Int)≤9223372036854775807 by decide⟩
   by_cases t1:s5.bad=0
   case neg=>
    refine Q.dgo [true,true,true] [24,33] [] [0,1,2,3,4,5,6,7,8,9,10,11,12,13,14,15,16,17,18,19,20,21,22,23,24,25,26,27,28,29,30,31,32,33,34,35] ?_;refine Q.rd4 ?_;refine Q.r ?_;exact N.t rfl eG ⟨M7,hle7,.inl ⟨out (λh=>t1 h.1),rfl,rfl⟩⟩
   by_cases t2:i=0∨lst<(id:Int)
   case neg=>
    have t2a:0<i:=by omega
    have t2b:(id:Int)≤lst:=by omega
    refine Q.dgo [true,true,true] [24,33] [] [0,1,2,3,4,5,6,7,8,9,10,11,12,13,14,15,16,17,18,19,20,21,22,23,24,25,26,27,28,29,30,31,32,33,34,35] ?_;refine Q.rd4 ?_;refine Q.r ?_;exact N.t rfl eG ⟨M7,hle7,.inl ⟨out (λh=>t2 (of_decide_eq_true h.2.1)),rfl,rfl⟩⟩
   refine swp_cutT (σ:=Unit) (λ_=> [(7,.pointer (some ⟨r,0,none⟩)),(8,.pointer (some ⟨jr,0,none⟩)),(13,.int .u64 lst),(14,.int .i64 i),(15,.pointer (some ⟨b4,0,none⟩)),(16,.slice qa ps.length qc),(88,.int .i64 n2),(89,.int .i64 i),(160,.bool (!decide (rightN (prN ((id:Int),(af:Int),ps,vs.map OV.abs))=true∧lockE st id af (vs.map OV.abs)=0)))])
    (λ_=>pt b4 (cl [.int .u64 id,.int .u64 af,.slice va vs.length vc] 151)::qrS r a11 c11 s5::rjP jr dim vr PA us PC none [] 0::slPa PA PC us::refH vr (if rightN (prN ((id:Int),(af:Int),ps,vs.map OV.abs))=true then lockS st id af (vs.map OV.abs) else st)::roM M7::L) (λ_=>True) ?_ ?_
   ·by_cases t3:i=0
    ·refine Q.dgo [true,true,true] [24,33] [] [0,1,2,3,4,5,6,7,8,9,10,11,12,13,14,15,16,17,18,19,20,21,22,23,24,25,26,27,28,29,30,31,32,33,34,35] ?_
     refine Q.rd4 ?_;refine D.e rfl rfl rfl ?_
     (refine GQ.g ?_;refine Q.gq ?_)
     refine S.cr rfl (hRight _) ?_;rintro _ _ ⟨rfl,rfl⟩
     cases k3:rightN (prN ((id:Int),(af:Int),ps,vs.map OV.abs)) with
     |false=>
      refine Q.r ?_;refine Q.rd4 ?_;refine Q.r ?_;exact ⟨(),⟨rfl,rfl,rfl,rfl,rfl,rfl,rfl,rfl,congrArg some (congrArg Value.bool (by rw[decide_eq_false λh=>(by cases h.1)];rfl)),trivial⟩,by rw[if_neg zd];exact eG,trivial⟩
     |true=>
      refine Q.r ?_;refine Q.rd4 ?_;refine D.e rfl rfl rfl ?_
      (refine GQ.g ?_;refine Q.gq ?_)
      refine S.c1 (A:=refH vr st) rfl (RLock_spec vr st (1000+i) ⟨id,af,va,vc,vs⟩ _ hwf.wf zo ⟨hs7.rd,λo ho=>(hov7 o ho).rd⟩ hvc hcv (show vs.length≤1000000 by omega) (λo ho=>Nat.le_trans (hv8 o ho) zo)) ?_;rintro _ _ ⟨rfl,rfl⟩;dsimp only;refine Q.r ?_;refine Q.rd4 ?_;refine Q.r ?_;exact ⟨(),⟨rfl,rfl,rfl,rfl,rfl,rfl,rfl,rfl,congrArg some (congrArg Value.bool (by simp)),trivial⟩,by rw[if_pos rfl];exact eG,trivial⟩
    ·have t3a:0<i:=by omega
     have t3b:¬(id:Int)≤lst:=by omega
     refine Q.dgo [true,true,true] [24,33] [] [0,1,2,3,4,5,6,7,8,9,10,11,12,13,14,15,16,17,18,19,20,21,22,23,24,25,26,27,28,29,30,31,32,33,34,35] ?_;refine Q.rd4 ?_;refine D.e rfl rfl rfl ?_
     (refine GQ.g ?_;refine Q.gq ?_)
     refine S.cr rfl (hRight _) ?_;rintro _ _ ⟨rfl,rfl⟩
     cases k3:rightN (prN ((id:Int),(af:Int),ps,vs.map OV.abs)) with
     |false=>
      refine Q.r ?_;refine Q.rd4 ?_;refine Q.r ?_;exact ⟨(),⟨rfl,rfl,rfl,rfl,rfl,rfl,rfl,rfl,congrArg some (congrArg Value.bool (by rw[decide_eq_false λh=>(by cases h.1)];rfl)),trivial⟩,by rw[if_neg zd];exact eG,trivial⟩
     |true=>
      refine Q.r ?_;refine Q.rd4 ?_;refine D.e rfl rfl rfl ?_
      (refine GQ.g ?_;refine Q.gq ?_)
      refine S.c1 (A:=refH vr st) rfl (RLock_spec vr st (1000+i) ⟨id,af,va,vc,vs⟩ _ hwf.wf zo ⟨hs7.rd,λo ho=>(hov7 o ho).rd⟩ hvc hcv (show vs.length≤1000000 by omega) (λo ho=>Nat.le_trans (hv8 o ho) zo)) ?_;rintro _ _ ⟨rfl,rfl⟩;dsimp only;refine Q.r ?_;refine Q.rd4 ?_;refine Q.r ?_;exact ⟨(),⟨rfl,rfl,rfl,rfl,rfl,rfl,rfl,rfl,congrArg some (congrArg Value.bool (by simp)),trivial⟩,by rw[if_pos rfl];exact eG,trivial⟩
   rintro _ _
   by_cases t4:rightN (prN ((id:Int),(af:Int),ps,vs.map OV.abs))=true∧lockE st id af (vs.map OV.abs)=0
   case neg=>
    rw[decide_eq_false t4];refine Q.r ?_;exact N.t rfl eG ⟨M7,hle7,.inl ⟨out (λh=>t4 ⟨h.2.2.1,h.2.2.2⟩),rfl,rfl⟩⟩
   rw[decide_eq_true t4,if_pos t4.1];rw[if_pos ⟨t1,decide_eq_true t2,t4.1,t4.2⟩] at hB;refine Q.r ?_;refine Q.dgo [true,false,true,false,false,false] [9,10,13] [13] [0,1,2,3,4,5,6,7,8,9,10,11,12,13] ?_;refine Q.rd2 ?_;refine D.e rfl rfl rfl ?_;refine Q.r ?_;(repeat (intro b1;refine Q.r ?_));refine Q.rd2 ?_;refine D.e rfl rfl rfl ?_;refine S.app rfl rfl (SrcS.sl RdC.row zr zr) zr zo zo (λPA2 PC2=> ?_);refine Q.r ?_;refine Q.rd2 ?_;refine Q.dc rfl rfl rfl rfl ?_;refine Q.r ?_;refine Q.rd2 ?_;refine Q.r ?_;refine ⟨(i+1,s5,lockS st id af (vs.map OV.abs),us++[⟨id,qa,qc,ps⟩],a11,c11,PA2,PC2,id,M7),⟨rfl,rfl,rfl,rfl,congrArg some (by simp[List.filter_append]),trivial⟩,?_,⟨hlt,by dsimp only;rw[len_snoc,hul],hk15,hs12,hle7,(hwf.lock id af (vs.map OV.abs)).mono zo,λx=> ?_,λu hu=> ?_,?_⟩,Nat.sub_succ_lt_self n2 i hlt⟩
   ·dsimp only[slPa,rjP]
    rw[len_snoc,flat_snoc];exact eG
   ·dsimp only
    rw[List.map_append,List.map_append]
    show lastLt (_++[(id:Int)]) x=_
    rw[lastLt_snoc];exact decide_eq_decide.2 ⟨λh=>.inr h,λh=>h.elim (λh=>by omega) λh=>h⟩
   ·rcases List.mem_append.1 hu with hu|hu
    ·exact hus7 u hu
    ·rw[List.mem_singleton.1 hu]
     dsimp only;rw[←flat_I64];exact hs14
   ·dsimp only
    rw[←hB,List.map_append];rfl
  ·have hin:i=n2:=by omega
   subst hin;rw[Nat.sub_self] at hB;refine Q.r ?_;exact ⟨(s,st,us,a5,c5,PA,PC,lst,M4),zt,by exact eG,hk6,hs6,hl6,by dsimp only;omega,hus,hB.symm⟩
 rintro ⟨s,st,us,a5,c5,PA,PC,lst,M4⟩ ⟨hk6,hs6,hl6,hul,hus,hB⟩;dsimp only at hk6 hs6 hl6 hul hus hB ⊢;rw[hB] at hU;unfold refX at hU;dsimp only at hU;obtain ⟨hrP,hdm⟩:=refI_rise _ _ _ hB List.Pairwise.nil;dsimp only at hrP hdm;have hdimL:stL.dim=dim:=hstd;clear hB;refine Q.r ?_;refine S.c1 (A:=qrS r a5 c5 s) rfl (Qcount_spec r a5 c5 s M4 _ hk6) ?_;rintro _ _ ⟨rfl,a6,c6,hk7,rfl⟩;have hq7:=cntF_le s;generalize cntF s=x7 at*;obtain ⟨n3,z7⟩:=x7;dsimp only at*;have hn7:n3≤600:=by omega
 refine Q.r ?_;refine swp_abs PA (λM5 hl8 hs8=> ?_);have hle5:leM M M5:=hl6.trans hl8;have hk8:RK M5 a6 c6 z7:=hk7.mono hl8;refine swp_cutB (σ:=RS×List (Int×Int)×OA×Nat×OA×Nat) (λw=> [(7,.pointer (some ⟨r,0,none⟩)),(8,.pointer (some ⟨jr,0,none⟩))])
  (λw=>qrS r w.2.2.1 w.2.2.2.1 w.1::rjP jr dim vr PA us PC w.2.2.2.2.1 w.2.1 w.2.2.2.2.2::slDn w.2.2.2.2.1 w.2.2.2.2.2 w.2.1::refH vr st::roM M5::L) (λw=>RK M5 w.2.2.1 w.2.2.2.1 w.1∧refN n3 (z7,[])=some (w.1,w.2.1)) ?_ ?_
 ·refine swp_loop (σ:=Nat×RS×List (Int×Int)×OA×Nat×OA×Nat×Int) (λw=> [(7,.pointer (some ⟨r,0,none⟩)),(8,.pointer (some ⟨jr,0,none⟩)),(178,.int .i64 n3),(13,.int .u64 w.2.2.2.2.2.2.2),(179,.int .i64 w.1)])
   (λw=>qrS r w.2.2.2.1 w.2.2.2.2.1 w.2.1::rjP jr dim vr PA us PC w.2.2.2.2.2.1 w.2.2.1 w.2.2.2.2.2.2.1::slDn w.2.2.2.2.2.1 w.2.2.2.2.2.2.1 w.2.2.1::refH vr st::roM M5::L)
   (λw=>w.1≤n3∧w.2.2.1.length=w.1∧RK M5 w.2.2.2.1 w.2.2.2.2.1 w.2.1∧(∀x:Int,lastLt (w.2.2.1.map (·.1)) x=decide (w.1=0∨w.2.2.2.2.2.2.2<x))∧refN (n3 - w.1) (w.2.1,w.2.2.1)=refN n3 (z7,[])) (λw=>n3 - w.1) (0,z7,[],a6,c6,none,0,lst) zt eG ⟨Nat.zero_le _,rfl,hk8,λx=>(by simp[lastLt]),rfl⟩ ?_
  rintro ⟨i,s9,ds,a7,c7,da,dc,lst2⟩ ⟨hi,hdl,hk9,hL,hB⟩;dsimp only at hi hdl hk9 hL hB ⊢
  by_cases hlt:i<n3
  ·rw[show n3 - i=(n3 - (i+1))+1 by omega,refN_succ] at hB
   unfold dnB pairD numD at hB;dsimp only at hB;refine Q.r ?_;refine S.c1 (A:=qrS r a7 c7 s9) rfl (Qnum_spec r a7 c7 s9 18446744073709551615 M5 _ hk9) ?_;rintro _ _ ⟨rfl,a8,c8,hk10,rfl⟩;generalize rdF 18446744073709551615 s9=x10 at*;obtain ⟨t,z10⟩:=x10;dsimp only at*;refine Q.r ?_;refine S.c1 (A:=qrS r a8 c8 z10) rfl (Qnum_spec r a8 c8 z10 1099511627776 M5 _ hk10) ?_;rintro _ _ ⟨rfl,a9,c9,hk11,rfl⟩;generalize rdF 1099511627776 z10=x11 at*;obtain ⟨sp,z11⟩:=x11;dsimp only at*;have hLt:=hL (t:Int);rw[hLt] at hB;have out:¬((sp:Int)≠0∧decide (i=0∨lst2<(t:Int))=true)→refUJ dim bs=none:=λh=>by
    rw[if_neg h] at hB;rw[hU,←hB];rfl
   by_cases t1:(sp:Int)=0
   ·refine Q.r ?_;(repeat (intro b1;refine Q.r ?_))
    exact N.t rfl eG ⟨M5,hle5,.inl ⟨out λh=>h.1 t1,rfl,rfl⟩⟩
   by_cases t2:i=0∨lst2<(t:Int)
   case neg=>
    have t2a:0<i:=by omega
    have t2b:(t:Int)≤lst2:=by omega
    refine Q.r ?_;(repeat (intro b1;refine Q.r ?_));exact N.t rfl eG ⟨M5,hle5,.inl ⟨out λh=>t2 (of_decide_eq_true h.2),rfl,rfl⟩⟩
   rw[if_pos ⟨t1,decide_eq_true t2⟩] at hB
   by_cases t3:i=0
   ·refine Q.r ?_;(repeat (intro b1;refine Q.r ?_))
    refine Q.dgo [true,false,true,false,false,false] [6,7,10] [10] [0,1,2,3,4,5,6,7,8,9,10] ?_;refine Q.rd2 ?_;refine D.e rfl rfl rfl ?_;refine Q.r ?_;(repeat (intro b1;refine Q.r ?_));refine Q.rd2 ?_;refine D.e rfl rfl rfl ?_;refine S.app rfl rfl (SrcS.sl RdC.row zr zr) zr zo zo (λda2 dc2=> ?_);refine Q.r ?_;refine Q.rd2 ?_;refine Q.dc rfl rfl rfl rfl ?_;refine Q.r ?_;refine Q.rd2 ?_;refine Q.r ?_;refine ⟨(i+1,z11,ds++[((t:Int),(sp:Int))],a9,c9,da2,dc2,t),⟨rfl,rfl,rfl,rfl,congrArg some (by simp[List.filter_append]),trivial⟩,?_,⟨hlt,by dsimp only;rw[len_snoc,hdl],hk11,λx=> ?_,hB⟩,Nat.sub_succ_lt_self n3 i hlt⟩
    ·dsimp only[slDn,rjP]
     rw[len_snoc,flat_snoc];exact eG
    ·dsimp only
     rw[List.map_append]
     show lastLt (_++[(t:Int)]) x=_
     rw[lastLt_snoc];exact decide_eq_decide.2 ⟨λh=>.inr h,λh=>h.elim (λh=>by omega) λh=>h⟩
   ·have t3a:0<i:=by omega
    have t3b:¬(t:Int)≤lst2:=by omega
    refine Q.r ?_;(repeat (intro b1;refine Q.r ?_));refine Q.dgo [true,false,true,false,false,false] [6,7,10] [10] [0,1,2,3,4,5,6,7,8,9,10] ?_;refine Q.rd2 ?_;refine D.e rfl rfl rfl ?_;refine Q.r ?_;(repeat (intro b1;refine Q.r ?_));refine Q.rd2 ?_;refine D.e rfl rfl rfl ?_;refine S.app rfl rfl (SrcS.sl RdC.row zr zr) zr zo zo (λda2 dc2=> ?_);refine Q.r ?_;refine Q.rd2 ?_;refine Q.dc rfl rfl rfl rfl ?_;refine Q.r ?_;refine Q.rd2 ?_;refine Q.r ?_;refine ⟨(i+1,z11,ds++[((t:Int),(sp:Int))],a9,c9,da2,dc2,t),⟨rfl,rfl,rfl,rfl,congrArg some (by simp[List.filter_append]),trivial⟩,?_,⟨hlt,by dsimp only;rw[len_snoc,hdl],hk11,λx=> ?_,hB⟩,Nat.sub_succ_lt_self n3 i hlt⟩
    ·dsimp only[slDn,rjP]
     rw[len_snoc,flat_snoc];exact eG
    ·dsimp only
     rw[List.map_append]
     show lastLt (_++[(t:Int)]) x=_
     rw[lastLt_snoc];exact decide_eq_decide.2 ⟨λh=>.inr h,λh=>h.elim (λh=>by omega) λh=>h⟩
  ·have hin:i=n3:=by omega
   subst hin;rw[Nat.sub_self] at hB;refine Q.r ?_;exact ⟨(s9,ds,a7,c7,da,dc),zt,by exact eG,hk9,hB.symm⟩
 rintro ⟨s9,ds,a7,c7,da,dc⟩ ⟨hk9,hB⟩;dsimp only at hk9 hB ⊢;rw[hB] at hU;unfold refQ at hU;dsimp only at hU;have hrD:=refN_rise _ _ _ hB List.Pairwise.nil;dsimp only at hrD
 by_cases g3:s9.bad=0
 case neg=>
  have out:refUJ dim bs=none:=by rw[hU,if_neg λh=>g3 h.1]
  refine Q.r ?_;exact N.t rfl eG ⟨M5,hle5,.inl ⟨out,rfl,rfl⟩⟩
 by_cases g4:s9.bs.length=0
 case neg=>
  have g4a:0<s9.bs.length:=by omega
  have out:refUJ dim bs=none:=by rw[hU,if_neg λh=>g4 h.2]
  refine Q.r ?_;exact N.t rfl eG ⟨M5,hle5,.inl ⟨out,rfl,rfl⟩⟩
 rw[if_pos ⟨g3,g4⟩] at hU;refine swp_cap da λhdc=>swp_abs da (λM6 hl9 hs9=> ?_)
 have hrj:RJOK M6 ⟨st,us.map QV.abs,ds⟩ dim PA PC us da dc ds:=⟨d1,(hdm.trans hdimL).symm,List.Perm.refl _,λu hu=>(hus u hu).mono (hl8.trans hl9),hs8.mono hl9,List.Perm.refl _,hrD,hs9,hdc,rise_keys hrP,rise_keys hrD⟩;refine Q.r ?_;refine N.t rfl ?_ ⟨M6,hle5.trans hl9,.inr ⟨⟨st,us.map QV.abs,ds⟩,jr,hU,rfl,rfl⟩⟩;exact Ent.trans (M:=roM M6::rjP jr dim vr PA us PC da ds dc::refH vr st::L) eG (Ent.trans Ent.roM_dup (Ent.trans (M:=rjP jr dim vr PA us PC da ds dc::refH vr st::roM M6::roM M6::L) eG (rj_shut hrj)))
abbrev slU (a:OA)(c:Nat)(n:Nat)(cs:List Value):HP:=slO 31 1 a n c cs
abbrev d1c (d:Int×Int):List Value:=[U64 d.1]
abbrev d2c (d:Int×Int):List Value:=[U64 d.2]
abbrev eIc (e:EV):List Value:=[U64 e.id]
abbrev oIc (e:OI):List Value:=[U64 e.id]
theorem flat_d1 (l:List (Int×Int)):l.flatMap d1c=(l.map (·.1)).map U64:=by induction l<;>simp_all[d1c]
theorem flat_d2 (l:List (Int×Int)):l.flatMap d2c=(l.map (·.2)).map U64:=by induction l<;>simp_all[d2c]
theorem flat_eI (l:List EV):l.flatMap eIc=(l.map (·.id)).map U64:=by induction l<;>simp_all[eIc]
theorem flat_oI (l:List OI):l.flatMap oIc=(l.map (·.id)).map U64:=by induction l<;>simp_all[oIc]
theorem risesN_spec (a:OA)(c n:Nat)(xs:List Int)(A:HL)(e:n=xs.length)(h:RdS A a xs.length 1 (xs.map U64))(hn:xs.length≤100000000):
  CallsS Tryz.prog 30 [.slice a n c] A (λv L'=>v=.bool (riseB xs)∧L'=A):=by subst e;exact rises_spec a c xs A h hn
theorem ContainsN_spec (a:OA)(c n:Nat)(xs:List Int)(x:Int)(A:HL)(e:n=xs.length)(h:RdS A a xs.length 1 (xs.map U64))(hn:xs.length≤100000000):
  CallsS Tryz.prog 31 [.slice a n c,.int .u64 x] A (λr L'=>r=.bool (decide (x∈xs))∧L'=A):=by subst e;exact ContainsU_spec a c xs x A h hn
theorem all_ne0 {ds:List (Int×Int)}:ds.all (λd=>decide (d.2≠0))= !decide ((0:Int)∈ds.map (·.2)):=by
 by_cases h:(0:Int)∈ds.map (·.2)
 ·rw[decide_eq_true h]
  obtain ⟨d,hd,e⟩:=List.mem_map.1 h;exact List.all_eq_false.2 ⟨d,hd,by rw[e];decide⟩
 ·rw[decide_eq_false h]
  exact List.all_eq_true.2 λd hd=>decide_eq_true λe=>h (e▸List.mem_map_of_mem hd)
theorem lockS_le {st:VS}{t a:Int}{ops:VL}(h:opsLe st)(hn:ops.length≤1000000):opsLe (lockS st t a ops):=by
 unfold lockS
 split
 ·intro i hi
  rcases List.mem_append.1 hi with hi|hi
  ·exact h i hi
  ·rw[List.mem_singleton.1 hi];exact hn
 ·exact h
abbrev pvA (u:Int×PV):Int×List Int:=(u.1,u.2.l)
theorem foldI_yes {dim:Int}{h:IR}{l:List IR}{j:JS}(c:partsV h.2.2.1=true∧checkV dim h.2.2.2=0∧lockE j.v h.1 h.2.1 h.2.2.2=0):foldI dim (h::l) j=foldI dim l ⟨lockS j.v h.1 h.2.1 h.2.2.2,putL j.parts h.1 h.2.2.1,j.done⟩:=by rw[foldI_cons,if_pos c]
theorem foldI_no {dim:Int}{h:IR}{l:List IR}{j:JS}(c:¬(partsV h.2.2.1=true∧checkV dim h.2.2.2=0∧lockE j.v h.1 h.2.1 h.2.2.2=0)):foldI dim (h::l) j=none:=by rw[foldI_cons,if_neg c]
set_option maxRecDepth 100000 in
theorem JUnpack_spec (M:OM)(p:Nat)(j:JS)(a:OA)(c:Nat)(bs:List UInt8)(L:HL)(hs:SlM M a bs.length 1 (bs.map B))(hb:bs.length≤10000000)(hw:WFK j.v 10000)(hdl:j.done.length≤10000)(hu:(unR bs).s.bad=0→UBd bs):
  CallsS Tryz.prog 8 [ptrJ p,.slice a bs.length c] (jurH M p j::roM M::L) (λr L'=>r=.int .i64 (unJE j bs)∧∃M',leM M M'∧L'=jurH M' p (unJS j bs)::roM M'::L):=by
 refine calls_jur λpv mp md sf ps hq=> ?_
 have hd1:=hw.wf.d1;have hd2:=hw.wf.d2;have s1:=hq.s1;have s2:=hq.s2;refine CallsS.of_body Tryz.func8 rfl rfl rfl ?_;refine Q.r ?_;refine S.cr rfl (rNew_spec a c bs M _ _ hs.rd zo) ?_;rintro _ _ ⟨r,a1,M1,rfl,hl1,hs1,rfl⟩;have hk0:RK M1 a1 bs.length (rs0 bs):=⟨hs1,Nat.le_refl _,(by show bs.length≤_;omega)⟩;refine Q.r ?_;refine S.c1 (A:=rdS r a1 bs.length (rs0 bs)) rfl (rdN_spec r a1 bs.length (rs0 bs) 1099511627776 M1 _ hk0) ?_;rintro _ _ ⟨rfl,a2,c2,hk2,rfl⟩;have hu0:unR bs=⟨((rdF 1099511627776 (rs0 bs)).1:Int),(decB 1048576 entB (rdF 1099511627776 (rs0 bs)).2).1,(decB 1048576 intB (decB 1048576 entB (rdF 1099511627776 (rs0 bs)).2).2).1,(decB 1048576 dnB (decB 1048576 intB (decB 1048576 entB (rdF 1099511627776 (rs0 bs)).2).2).2).1,(decB 1048576 dnB (decB 1048576 intB (decB 1048576 entB (rdF 1099511627776 (rs0 bs)).2).2).2).2⟩:=rfl;generalize rdF 1099511627776 (rs0 bs)=x1 at*;obtain ⟨m,z1⟩:=x1;dsimp only at*;refine Q.r ?_;refine S.cr rfl (chains_spec r a2 c2 z1 M1 _ hk2) ?_;rintro _ _ ⟨ea,ec,es,a3,c3,M2,rfl,hl2,hk3,hE,hsE,hoE,rfl⟩;have hEl:=decB_len 1048576 entB z1;generalize decB 1048576 entB z1=x2 at*;obtain ⟨E,z2⟩:=x2;dsimp only at*;refine Q.r ?_;refine S.cr rfl (pints_spec r a3 c3 z2 M2 _ hk3) ?_;rintro _ _ ⟨ia,ic,is,a4,c4,M3,rfl,hl3,hk4,hI,hsI,hoI,rfl⟩;have hIl:=decB_len 1048576 intB z2;generalize decB 1048576 intB z2=x3 at*;obtain ⟨I,z3⟩:=x3;dsimp only at*;refine Q.r ?_;refine S.c1 (A:=rdS r a4 c4 z3) rfl (rdN_spec r a4 c4 z3 1048576 M3 _ hk4) ?_;rintro _ _ ⟨rfl,a5,c5,hk5,rfl⟩;have hn:=(rdF_le 1048576 z3).1;have hDl:=decB_len 1048576 dnB z3;unfold decB at hu0 hDl;dsimp only at hu0 hDl;generalize rdF 1048576 z3=x4 at*;obtain ⟨n,z4⟩:=x4;dsimp only at*;refine Q.r ?_;refine swp_cutB (σ:=RS×List (Int×Int)×OA×Nat×OA×Nat×OA×Nat) (λw=> [(0,ptrJ p),(1,.slice a bs.length c),(5,.pointer (some ⟨r,0,none⟩)),(6,.int .u64 m),(7,.slice ea es.length ec),(8,.slice ia is.length ic),(11,.slice none 0 0),(9,.slice w.2.2.2.2.1 w.2.1.length w.2.2.2.2.2.1),(10,.slice w.2.2.2.2.2.2.1 w.2.1.length w.2.2.2.2.2.2.2)])
  (λw=>slU w.2.2.2.2.1 w.2.2.2.2.2.1 w.2.1.length (w.2.1.flatMap d1c)::slU w.2.2.2.2.2.2.1 w.2.2.2.2.2.2.2 w.2.1.length (w.2.1.flatMap d2c)::rdS r w.2.2.1 w.2.2.2.1 w.1::jP p pv sf j.v.dim mp md::vaultH pv j.v::jT mp ps::jD md j.done::roM M3::L) (λw=>RK M3 w.2.2.1 w.2.2.2.1 w.1∧brkF dnB n (z4,[])=(w.1,w.2.1)) ?_ ?_
 ·refine swp_loop (σ:=Nat×RS×List (Int×Int)×OA×Nat×OA×Nat×OA×Nat) (λw=> [(0,ptrJ p),(1,.slice a bs.length c),(5,.pointer (some ⟨r,0,none⟩)),(6,.int .u64 m),(7,.slice ea es.length ec),(8,.slice ia is.length ic),(11,.slice none 0 0),(32,.int .u64 n),(9,.slice w.2.2.2.2.2.1 w.2.2.1.length w.2.2.2.2.2.2.1),(10,.slice w.2.2.2.2.2.2.2.1 w.2.2.1.length w.2.2.2.2.2.2.2.2),(33,.int .u64 w.1)])
   (λw=>slU w.2.2.2.2.2.1 w.2.2.2.2.2.2.1 w.2.2.1.length (w.2.2.1.flatMap d1c)::slU w.2.2.2.2.2.2.2.1 w.2.2.2.2.2.2.2.2 w.2.2.1.length (w.2.2.1.flatMap d2c)::rdS r w.2.2.2.1 w.2.2.2.2.1 w.2.1::jP p pv sf j.v.dim mp md::vaultH pv j.v::jT mp ps::jD md j.done::roM M3::L)
   (λw=>w.1≤n∧w.2.2.1.length=w.1∧RK M3 w.2.2.2.1 w.2.2.2.2.1 w.2.1∧brkF dnB (n - w.1) (w.2.1,w.2.2.1)=brkF dnB n (z4,[])) (λw=>n - w.1) (0,z4,[],a5,c5,none,0,none,0) zt eG ⟨Nat.zero_le _,rfl,hk5,rfl⟩ ?_
  rintro ⟨i,s2',ds,a6,c6,ta,tc,ua,uc⟩ ⟨hi,hdl',hk6,hB⟩;dsimp only at hi hdl' hk6 hB ⊢
  by_cases hlt:i<n
  ·rw[show n - i=(n - (i+1))+1 by omega,brkF_succ] at hB
   dsimp only at hB;unfold dnB pairD numD at hB;dsimp only at hB;refine Q.r ?_;refine S.c1 (A:=rdS r a6 c6 s2') rfl (rdN_spec r a6 c6 s2' 18446744073709551615 M3 _ hk6) ?_;rintro _ _ ⟨rfl,a7,c7,hk7,rfl⟩;generalize rdF 18446744073709551615 s2'=x7 at*;obtain ⟨t,z7⟩:=x7;dsimp only at*;refine Q.r ?_;(repeat (intro b1;refine Q.r ?_));refine S.app rfl rfl (SrcS.sl RdC.row zr zr) zr zo zo (λta2 tc2=> ?_);refine Q.r ?_;refine S.c1 (A:=rdS r a7 c7 z7) rfl (rdN_spec r a7 c7 z7 1099511627776 M3 _ hk7) ?_;rintro _ _ ⟨rfl,a8,c8,hk8,rfl⟩;generalize rdF 1099511627776 z7=x8 at*;obtain ⟨st,z8⟩:=x8;dsimp only at*;refine Q.r ?_;(repeat (intro b1;refine Q.r ?_));refine S.app rfl rfl (SrcS.sl RdC.row zr zr) zr zo zo (λua2 uc2=> ?_);refine Q.r ?_;refine S.c1 (A:=rdS r a8 c8 z8) rfl (rLeft_spec r a8 z8.bs.length c8 z8.bad _) ?_;rintro _ _ ⟨rfl,rfl⟩
   by_cases h0:z8.bs.length=0
   ·rw[if_pos h0] at hB
    refine Q.r ?_;refine ⟨(z8,ds++[((t:Int),(st:Int))],a8,c8,ta2,tc2,ua2,uc2),⟨rfl,rfl,rfl,rfl,rfl,rfl,rfl,congrArg some (by simp[List.filter_append]),congrArg some (by simp[List.filter_append]),trivial⟩,?_,hk8,hB.symm⟩;dsimp only[slU];rw[len_snoc,flat_snoc,flat_snoc];exact eG
   ·rw[if_neg h0] at hB
    refine Q.r ?_;refine S.y (Y.add rfl rfl) ?_;rw[wrap_u64 zo zo];refine Q.r ?_;refine ⟨(i+1,z8,ds++[((t:Int),(st:Int))],a8,c8,ta2,tc2,ua2,uc2),⟨rfl,rfl,rfl,rfl,rfl,rfl,rfl,rfl,congrArg some (by simp[List.filter_append]),congrArg some (by simp[List.filter_append]),congrArg some (by simp[List.filter_append]),trivial⟩,?_,⟨hlt,by dsimp only;rw[len_snoc,hdl'],hk8,hB⟩,Nat.sub_succ_lt_self n i hlt⟩;dsimp only[slU];rw[len_snoc,flat_snoc,flat_snoc];exact eG
  ·have hin:i=n:=by omega
   subst hin;rw[Nat.sub_self] at hB;refine Q.r ?_;exact ⟨(s2',ds,a6,c6,ta,tc,ua,uc),zt,by exact eG,hk6,hB.symm⟩
 rintro ⟨z5,ds,a6,c6,ta,tc,ua,uc⟩ ⟨hk6,hB⟩;dsimp only at hk6 hB ⊢;rw[hB] at hu0 hDl;dsimp only at hu0 hDl;refine Q.r ?_;have hel:es.length=E.length:=by rw[←hE,List.length_map]
 refine swp_cutB (σ:=OA×Nat) (λw=> [(0,ptrJ p),(1,.slice a bs.length c),(5,.pointer (some ⟨r,0,none⟩)),(6,.int .u64 m),(7,.slice ea es.length ec),(8,.slice ia is.length ic),(11,.slice w.1 es.length w.2),(9,.slice ta ds.length tc),(10,.slice ua ds.length uc)])
  (λw=>slU w.1 w.2 es.length (es.flatMap eIc)::slU ta tc ds.length (ds.flatMap d1c)::slU ua uc ds.length (ds.flatMap d2c)::rdS r a6 c6 z5::jP p pv sf j.v.dim mp md::vaultH pv j.v::jT mp ps::jD md j.done::roM M3::L) (λ_=>True) ?_ ?_
 ·refine swp_loop (σ:=Nat×OA×Nat×List EV) (λw=> [(0,ptrJ p),(1,.slice a bs.length c),(5,.pointer (some ⟨r,0,none⟩)),(6,.int .u64 m),(7,.slice ea es.length ec),(8,.slice ia is.length ic),(9,.slice ta ds.length tc),(10,.slice ua ds.length uc),(49,.slice ea es.length ec),(50,.int .i64 es.length),(11,.slice w.2.1 w.2.2.2.length w.2.2.1),(51,.int .i64 w.1)])
   (λw=>slU w.2.1 w.2.2.1 w.2.2.2.length (w.2.2.2.flatMap eIc)::slU ta tc ds.length (ds.flatMap d1c)::slU ua uc ds.length (ds.flatMap d2c)::rdS r a6 c6 z5::jP p pv sf j.v.dim mp md::vaultH pv j.v::jT mp ps::jD md j.done::roM M3::L)
   (λw=>w.1≤es.length∧w.2.2.2=es.take w.1) (λw=>es.length - w.1) (0,none,0,[]) zt eG ⟨Nat.zero_le _,rfl⟩ ?_
  rintro ⟨k,va,vc,us⟩ ⟨hk,hus⟩;dsimp only at hk hus ⊢;have hul:us.length=k:=by rw[hus,List.length_take];omega
  by_cases hlt:k<es.length
  ·obtain ⟨e,he⟩:=mem_get hlt
   obtain ⟨b5,o5,hia5,cr5⟩:=SlM.cm (g:=EV.cells) (λ_=>rfl) (hsE.mono hl3) he rfl;rw[hia5];refine Q.r ?_;(repeat (intro b1;refine Q.r ?_));refine S.app rfl rfl (SrcS.sl RdC.row zr zr) zr zo zo (λva2 vc2=> ?_);refine Q.r ?_;refine ⟨(k+1,va2,vc2,us++[e]),⟨rfl,rfl,rfl,rfl,rfl,rfl,rfl,rfl,rfl,rfl,congrArg some (by simp[List.filter_append]),congrArg some (by simp[List.filter_append]),trivial⟩,?_,⟨hlt,by dsimp only;rw[hus,take_snoc he]⟩,Nat.sub_succ_lt_self es.length k hlt⟩;dsimp only[slU];rw[len_snoc,flat_snoc];exact eG
  ·have hke:k=es.length:=by omega
   subst hke;rw[List.take_length] at hus;subst hus;refine Q.r ?_;exact ⟨(va,vc),zt,by exact eG,trivial⟩
 rintro ⟨va,vc⟩ _;dsimp only;refine swp_abs ta (λM4 hl4 hsT=>swp_abs ua (λM5 hl5 hsU=>swp_abs va (λM6 hl6 hsV=> ?_)));rw[flat_d1] at hsT;rw[flat_d2] at hsU;rw[flat_eI] at hsV;have hlM:leM M M6:=hl1.trans (hl2.trans (hl3.trans (hl4.trans (hl5.trans hl6))));have hlE:leM M2 M6:=hl3.trans (hl4.trans (hl5.trans hl6));have hlI:leM M3 M6:=hl4.trans (hl5.trans hl6);have hdsl:ds.length≤1048576:=hDl;have hEid:es.map (·.id)=E.map (·.1):=by rw[←hE,List.map_map];rfl
 have hsT6:=(hsT.mono hl5).mono hl6;have hsU6:=hsU.mono hl6;have hmz:loadE (VS0 j.v.dim) m E=loadE (VS0 j.v.dim) (unR bs).m (unR bs).E:=by rw[hu0]
 have fail:unJ4 j.v.dim bs=none→∀(v:Value),v=.int .i64 4→∀L',L'=jurH M6 p j::roM M6::L→(v=.int .i64 (unJE j bs)∧∃M',leM M M'∧L'=jurH M' p (unJS j bs)::roM M'::L):=by
  rintro h _ rfl _ rfl;have hno:=unJ_none h;rw[hno.1,hno.2];exact ⟨rfl,M6,hlM,rfl⟩
 have fin:∀L1,Ent L1 (jP p pv sf j.v.dim mp md::vaultH pv j.v::jT mp ps::jD md j.done::roM M6::L)→Ent L1 (jurH M6 p j::roM M6::L):=λL1 h=>Ent.trans h (jur_shut (hq.mono hlM) rfl)
 refine Q.r ?_;refine Q.dgo [false,false,true] [8] [] [0,1,2,3,4,5,6,7,8,9,10,11,12,13] ?_;refine Q.rd2 ?_;refine D.e rfl rfl rfl ?_;refine S.cr rfl (JNew_spec M3 sf j.v.dim _ s1 s2 hd1 hd2) ?_;rintro _ _ ⟨q,rfl,rfl⟩;refine Q.r ?_;refine Q.rd2 ?_;refine Q.r ?_;refine S.c1 (A:=rdS r a6 c6 z5) rfl (rEnd_spec r a6 c6 z5.bs z5.bad _) ?_;rintro _ _ ⟨rfl,rfl⟩
 by_cases c1:endF z5.bs z5.bad=0
 case neg=>
  refine Q.r ?_;exact N.t rfl (fin _ eG) (fail (un4_c0 λh=>c1 (by have:=h.1;rw[hu0] at this;exact this)) _ rfl _ rfl)
 rw[c1];refine Q.r ?_;refine S.cr rfl (risesN_spec ta tc ds.length (ds.map (·.1)) _ (by rw[List.length_map]) (by rw[List.length_map];exact hsT6.rd) (by rw[List.length_map];omega)) ?_;rintro _ _ ⟨rfl,rfl⟩
 cases c2:riseB (ds.map (·.1)) with
 |false=>
  refine Q.r ?_;exact N.t rfl (fin _ eG) (fail (un4_c0 λh=>by have:=h.2.1;rw[hu0] at this;dsimp only at this;rw[c2] at this;cases this) _ rfl _ rfl)
 |true=>
 refine Q.r ?_;refine S.cr rfl (risesN_spec va vc es.length (es.map (·.id)) _ (by rw[List.length_map]) (by rw[List.length_map];exact hsV.rd) (by rw[List.length_map];omega)) ?_;rintro _ _ ⟨rfl,rfl⟩;rw[hEid]
 cases c3:riseB (E.map (·.1)) with
 |false=>
  refine Q.r ?_;exact N.t rfl (fin _ eG) (fail (un4_c0 λh=>by have:=h.2.2.1;rw[hu0] at this;dsimp only at this;rw[c3] at this;cases this) _ rfl _ rfl)
 |true=>
 refine Q.r ?_;refine S.cr rfl (ContainsN_spec ua uc ds.length (ds.map (·.2)) 0 _ (by rw[List.length_map]) (by rw[List.length_map];exact hsU6.rd) (by rw[List.length_map];omega)) ?_;rintro _ _ ⟨rfl,rfl⟩;have c4:=all_ne0 (ds:=ds)
 cases c4':decide ((0:Int)∈ds.map (·.2)) with
 |true=>
  refine Q.r ?_;exact N.t rfl (fin _ eG) (fail (un4_c0 λh=>by have:=h.2.2.2.1;rw[hu0] at this;dsimp only at this;rw[c4,c4'] at this;cases this) _ rfl _ rfl)
 |false=>
 rw[c4'] at c4;have hbad:=end_bad c1;have hub:=hu (by rw[hu0];exact hbad);obtain ⟨i1,i2,i3,i4⟩:=unR_inv (bs:=bs) (by rw[hu0];exact hbad);have hubE:=hub.E;have hubc:=hub.c;have hubI:=hub.I;have hubD:=hub.D;rw[hu0] at i1 i2 i3 i4 hubE hubc hubI hubD;dsimp only at i1 i2 i3 i4 hubE hubc hubI hubD;refine opsS_jur q (λv2 mp2 md2 sf2 ps2 hq2=> ?_);have hps2:ps2=[]:=List.map_eq_nil_iff.1 hq2.pt;subst hps2;rw[show (J0 j.v.dim).v=VS0 j.v.dim from rfl,show (J0 j.v.dim).done=[] from rfl,show (VS0 j.v.dim).dim=j.v.dim from rfl];refine Q.r ?_;have heE:∀e∈es,e.abs∈E:=λe he=>by rw[←hE];exact List.mem_map_of_mem he
 refine S.c2 (A:=vaultH v2 (VS0 j.v.dim)) (B:=roM M6) rfl (Load_spec v2 (VS0 j.v.dim) m ea ec es M6 _ ⟨hsE.mono hlE,λe he=>(hoE e he).1.mono hlE⟩ zo (λe he=>⟨by have:=hubc _ (heE e he);rw[List.length_map] at this;exact this,λo ho=>by have:=((i2.2 _ (heE e he)).2.2 o.abs (List.mem_map_of_mem ho)).2.1;exact Nat.le_trans this zo⟩) ((J0.ok hd1 hd2).w.mono zo)) ?_;rintro _ _ ⟨rfl,rfl⟩;rw[hE]
 by_cases c5:loadE (VS0 j.v.dim) m E=0
 case neg=>
  refine Q.r ?_;exact N.t rfl (fin _ eG) (fail (un4_c0 λh=>c5 (by have:=h.2.2.2.2;rw[hu0] at this;exact this)) _ rfl _ rfl)
 rw[c5];have hc0:unC0 j.v.dim bs:=by
  unfold unC0;rw[hu0];exact ⟨c1,c2,c3,c4,c5⟩
 refine Q.r ?_;have hisl:is.length≤1000:=by rw[←hI,List.length_map] at hubI;exact hubI
 have hiI:∀e∈is,okIr 4 16 16 e.abs:=λe he=>i3.2 _ (by rw[←hI];exact List.mem_map_of_mem he)
 have hoO:∀e∈is,okO M6 e:=λe he=>(hoI e he).1.mono hlI
 have hsI6:=hsI.mono hlI;have hR0:foldI j.v.dim (unR bs).I ⟨loadS (VS0 j.v.dim) (unR bs).m (unR bs).E,[],[]⟩=foldI j.v.dim (is.map OI.abs) ⟨loadS (VS0 j.v.dim) m E,[],[]⟩:=by rw[hu0,hI]
 refine swp_cutB (σ:=VS×List (Int×PV)×OA×Nat) (λw=> [(0,ptrJ p),(1,.slice a bs.length c),(9,.slice ta ds.length tc),(10,.slice ua ds.length uc),(14,ptrJ q),(16,.slice w.2.2.1 is.length w.2.2.2)])
  (λw=>slU w.2.2.1 w.2.2.2 is.length (is.flatMap oIc)::jP q v2 sf2 j.v.dim mp2 md2::vaultH v2 w.1::jT mp2 w.2.1::jD md2 []::jP p pv sf j.v.dim mp md::vaultH pv j.v::jT mp ps::jD md j.done::roM M6::L) (λw=>w.1.dim=j.v.dim∧(∀u∈w.2.1,SlM M6 u.2.a u.2.l.length 1 (u.2.l.map I64))∧foldI j.v.dim (is.map OI.abs) ⟨loadS (VS0 j.v.dim) m E,[],[]⟩=some ⟨w.1,w.2.1.map pvA,[]⟩) ?_ ?_
 ·refine swp_loop (σ:=Nat×VS×List (Int×PV)×OA×Nat×List OI) (λw=> [(0,ptrJ p),(1,.slice a bs.length c),(9,.slice ta ds.length tc),(10,.slice ua ds.length uc),(14,ptrJ q),(100,.slice ia is.length ic),(101,.int .i64 is.length),(16,.slice w.2.2.2.1 w.2.2.2.2.2.length w.2.2.2.2.1),(102,.int .i64 w.1)])
   (λw=>slU w.2.2.2.1 w.2.2.2.2.1 w.2.2.2.2.2.length (w.2.2.2.2.2.flatMap oIc)::jP q v2 sf2 j.v.dim mp2 md2::vaultH v2 w.2.1::jT mp2 w.2.2.1::jD md2 []::jP p pv sf j.v.dim mp md::vaultH pv j.v::jT mp ps::jD md j.done::roM M6::L)
   (λw=>w.1≤is.length∧w.2.2.2.2.2=is.take w.1∧w.2.1.dim=j.v.dim∧opsLe w.2.1∧(∀u∈w.2.2.1,SlM M6 u.2.a u.2.l.length 1 (u.2.l.map I64))∧foldI j.v.dim ((is.drop w.1).map OI.abs) ⟨w.2.1,w.2.2.1.map pvA,[]⟩=foldI j.v.dim (is.map OI.abs) ⟨loadS (VS0 j.v.dim) m E,[],[]⟩) (λw=>is.length - w.1) (0,loadS (VS0 j.v.dim) m E,[],none,0,[]) zt eG ⟨Nat.zero_le _,rfl,by dsimp only;rw[loadS_eq c5],by dsimp only;rw[loadS_eq c5];exact λ_ h=>(by cases h),λ_ h=>(by cases h),rfl⟩ ?_
  rintro ⟨k,st,qs,oa,oc,us⟩ ⟨hk,hus,hdm,hle,hqs,hF⟩;dsimp only at hk hus hdm hle hqs hF ⊢;have hul:us.length=k:=by rw[hus,List.length_take];omega
  by_cases hlt:k<is.length
  ·obtain ⟨e,he⟩:=mem_get hlt
   have hme:e∈is:=List.mem_of_getElem? he;obtain ⟨b5,o5,hia5,cr5⟩:=SlM.cm (g:=OI.cells) (λ_=>rfl) hsI6 he rfl;rw[hia5];have heo:=hoO e hme;have hir:=hiI e hme;have hop:RdO (roM M6::([]:HL)) e.oa e.vs:=⟨heo.1.rd,λo ho=>(heo.2.1 o ho).rd⟩;have hvl:e.vs.length≤16:=by have:=hir.2.2.2.1;rw[List.length_map] at this;exact this
   have hvv:∀o∈e.vs,o.vec.length≤1000000:=λo ho=>by have:=(hir.2.2.2.2 o.abs (List.mem_map_of_mem ho)).2.1;exact Nat.le_trans this zo
   have hdrop:is.drop k=e::is.drop (k+1):=by
    obtain ⟨h1,h2⟩:=List.getElem?_eq_some_iff.1 he;rw[List.drop_eq_getElem_cons h1,h2]
   rw[hdrop,List.map_cons] at hF;have nofail:¬(partsV e.ps=true∧checkV j.v.dim (e.vs.map OV.abs)=0∧lockE st e.id e.af (e.vs.map OV.abs)=0)→unJ4 j.v.dim bs=none:=λh=>un4_fo (by rw[hR0,←hF];exact foldI_no h)
   refine Q.r ?_;(repeat (intro b1;refine Q.r ?_));refine S.app rfl rfl (SrcS.sl RdC.row zr zr) zr zo zo (λoa2 oc2=> ?_);refine Q.r ?_;rename_i b4;refine swp_ent (L':=pt b4 (cl [.int .u64 e.id,.int .u64 e.af,.slice e.oa e.vs.length e.oc,.slice e.pa e.ps.length e.pc] 102)::jP q v2 sf2 j.v.dim mp2 md2::jP p pv sf j.v.dim mp md::slU oa2 oc2 (us.length+1) (us.flatMap oIc++oIc e)::vaultH v2 st::jT mp2 qs::jD md2 []::vaultH pv j.v::jT mp ps::jD md j.done::roM M6::L) eG ?_;refine Q.dgo [true,true,true] [2,12,22] [] [0,1,2,3,4,5,6,7,8,9,10,11,12,13,14,15,16,17,18,19,20,21,22,23,24] ?_;refine Q.rd2 ?_;refine D.e rfl rfl rfl ?_;refine S.cr rfl (sound_spec e.pa e.pc e.ps _ (by rw[←flat_I64];exact heo.2.2.rd) (by have h4:e.ps.length≤4:=hir.2.2.1.1;omega) (λx hx=>(hir.2.2.1.2 x hx).1)) ?_;rintro _ _ ⟨rfl,rfl⟩
   cases k1:partsV e.ps with
   |false=>
    refine Q.r ?_;refine Q.rd4 ?_;refine Q.r ?_;exact N.t rfl (fin _ eG) (fail (nofail λh=>by rw[k1] at h;cases h.1) _ rfl _ rfl)
   |true=>
   refine Q.r ?_;refine Q.rd4 ?_;refine D.e rfl rfl rfl ?_
   (refine GQ.g ?_;refine Q.gq ?_)
   refine S.cr rfl (Check_spec j.v.dim e.oa e.oc e.vs _ ⟨heo.1.rd,λo ho=>(heo.2.1 o ho).rd⟩ zo hvv zo) ?_;rintro _ _ ⟨rfl,rfl⟩
   by_cases k2:checkV j.v.dim (e.vs.map OV.abs)=0
   case neg=>
    refine Q.r ?_;refine Q.rd4 ?_;refine Q.r ?_;exact N.t rfl (fin _ eG) (fail (nofail λh=>k2 h.2.1) _ rfl _ rfl)
   rw[k2];refine Q.r ?_;refine Q.rd4 ?_;refine D.e rfl rfl rfl ?_
   (refine GQ.g ?_;refine Q.gq ?_)
   refine S.cv v2 rfl (Lock_spec v2 st ⟨e.id,e.af,e.oa,e.oc,e.vs⟩ _ hle ⟨heo.1.rd,λo ho=>(heo.2.1 o ho).rd⟩ (show e.vs.length≤1000000 by omega) hvv zo) ?_;rintro _ _ ⟨rfl,rfl⟩;dsimp only
   by_cases k3:lockE st e.id e.af (e.vs.map OV.abs)=0
   case neg=>
    refine Q.r ?_;refine Q.rd4 ?_;refine Q.r ?_;exact N.t rfl (fin _ eG) (fail (nofail λh=>k3 h.2.2) _ rfl _ rfl)
   rw[k3];refine Q.r ?_;refine Q.rd4 ?_;refine Q.r ?_;refine Q.dgo [true,true] [9] [] [0,1,2,3,4,5,6,7,8,9] ?_;refine Q.rd2 ?_;refine D.e rfl rfl rfl ?_;refine S.mu (g:=U64) (q:=e.id) (r:=PV.val) (u:=(⟨e.pa,e.pc,e.ps⟩:PV)) rfl rfl rfl ?_;refine Q.r ?_;refine Q.rd2 ?_;refine Q.r ?_;refine ⟨(k+1,lockS st e.id e.af (e.vs.map OV.abs),putL qs e.id ⟨e.pa,e.pc,e.ps⟩,oa2,oc2,us++[e]),⟨rfl,rfl,rfl,rfl,rfl,rfl,rfl,congrArg some (by simp[List.filter_append]),congrArg some (by simp[List.filter_append]),trivial⟩,?_,⟨hlt,by dsimp only;rw[hus,take_snoc he],(lockS_dim _ _ _ _).trans hdm,lockS_le hle (by rw[List.length_map];omega),λu hu=> ?_,?_⟩,Nat.sub_succ_lt_self is.length k hlt⟩
   ·dsimp only[slU]
    rw[len_snoc,flat_snoc];exact eG
   ·rcases putL_memG hu with hu|hu
    ·exact hqs u hu
    ·rw[hu]
     dsimp only;rw[←flat_I64];exact heo.2.2
   ·dsimp only
    rw[←hF,foldI_yes ⟨k1,k2,k3⟩];dsimp only;rw[show pvA=(λu:Int×PV=>(u.1,(λv:PV=>v.l) u.2)) from rfl,putL_map]
  ·have hke:k=is.length:=by omega
   subst hke;rw[List.take_length] at hus;subst hus;rw[List.drop_length] at hF;refine Q.r ?_;exact ⟨(st,qs,oa,oc),zt,by exact eG,hdm,hqs,hF.symm⟩
 rintro ⟨st,qs,oa,oc⟩ ⟨hdm,hqs,hF⟩;dsimp only at hdm hqs hF ⊢;rw[←hR0] at hF;refine Q.r ?_;refine swp_abs oa (λM7 hl7 hsO=> ?_);rw[flat_oI] at hsO;have hsT7:=hsT6.mono hl7;have hsU7:=hsU6.mono hl7;rw[←flat_d1] at hsT7;rw[←flat_d2] at hsU7;refine swp_cutB (σ:=List (Int×Int)) (λw=> [(0,ptrJ p),(1,.slice a bs.length c),(14,ptrJ q),(16,.slice oa is.length oc)])
  (λw=>jP q v2 sf2 j.v.dim mp2 md2::vaultH v2 st::jT mp2 qs::jD md2 w::jP p pv sf j.v.dim mp md::vaultH pv j.v::jT mp ps::jD md j.done::roM M7::L) (λw=>w=ds.foldl (λm d=>putL m d.1 d.2) []) ?_ ?_
 ·refine swp_loop (σ:=Nat×List (Int×Int)) (λw=> [(0,ptrJ p),(1,.slice a bs.length c),(10,.slice ua ds.length uc),(14,ptrJ q),(16,.slice oa is.length oc),(147,.slice ta ds.length tc),(148,.int .i64 ds.length),(149,.int .i64 w.1)])
   (λw=>jP q v2 sf2 j.v.dim mp2 md2::vaultH v2 st::jT mp2 qs::jD md2 w.2::jP p pv sf j.v.dim mp md::vaultH pv j.v::jT mp ps::jD md j.done::roM M7::L)
   (λw=>w.1≤ds.length∧w.2=(ds.take w.1).foldl (λm d=>putL m d.1 d.2) []) (λw=>ds.length - w.1) (0,[]) zt eG ⟨Nat.zero_le _,rfl⟩ ?_
  rintro ⟨k,dm⟩ ⟨hk,hdm'⟩;dsimp only at hk hdm' ⊢
  by_cases hlt:k<ds.length
  ·obtain ⟨d,hd⟩:=mem_get hlt
   obtain ⟨b5,o5,hia5,cr5⟩:=SlM.cm (g:=d1c) (λ_=>rfl) hsT7 hd rfl;obtain ⟨b6,o6,hia6,cr6⟩:=SlM.cm (g:=d2c) (λ_=>rfl) hsU7 hd rfl;rw[hia5,hia6];refine Q.r ?_;refine swp_ent (L':=jP q v2 sf2 j.v.dim mp2 md2::roM M7::vaultH v2 st::jT mp2 qs::jD md2 dm::jP p pv sf j.v.dim mp md::vaultH pv j.v::jT mp ps::jD md j.done::L) eG ?_;refine Q.dgo [true,true] [9] [] [0,1,2,3,4,5,6,7,8,9] ?_;refine Q.rd2 ?_;refine D.e rfl rfl rfl ?_;refine S.mu (g:=U64) (q:=d.1) (r:=U64) (u:=d.2) rfl rfl rfl ?_;refine Q.r ?_;refine Q.rd2 ?_;refine Q.r ?_;refine ⟨(k+1,putL dm d.1 d.2),zt,by exact eG,⟨hlt,?_⟩,Nat.sub_succ_lt_self ds.length k hlt⟩;dsimp only;rw[hdm',take_snoc hd,List.foldl_append];rfl
  ·have hke:k=ds.length:=by omega
   subst hke;rw[List.take_length] at hdm';refine Q.r ?_;exact ⟨dm,zt,by exact eG,hdm'⟩
 rintro dm hdm';have hoid:is.map (·.id)=I.map (·.1):=by rw[←hI,List.map_map];rfl
 have fin7:∀L1,Ent L1 (jP p pv sf j.v.dim mp md::vaultH pv j.v::jT mp ps::jD md j.done::roM M7::L)→Ent L1 (jurH M7 p j::roM M7::L):=λL1 h=>Ent.trans h (jur_shut (hq.mono (hlM.trans hl7)) rfl)
 have fail7:unJ4 j.v.dim bs=none→∀(v:Value),v=.int .i64 4→∀L',L'=jurH M7 p j::roM M7::L→(v=.int .i64 (unJE j bs)∧∃M',leM M M'∧L'=jurH M' p (unJS j bs)::roM M'::L):=by
  rintro h _ rfl _ rfl;have hno:=unJ_none h;rw[hno.1,hno.2];exact ⟨rfl,M7,hlM.trans hl7,rfl⟩
 have hend:=un4_end hc0 hF;refine Q.r ?_;refine S.cr rfl (risesN_spec oa oc is.length (is.map (·.id)) _ (by rw[List.length_map]) (by rw[List.length_map];exact hsO.rd) (by rw[List.length_map];omega)) ?_;rintro _ _ ⟨rfl,rfl⟩;rw[hoid]
 cases c6:riseB (I.map (·.1)) with
 |false=>
  refine Q.r ?_;exact N.t rfl (fin7 _ eG) (fail7 (by rw[hend,if_neg λh=>by have:=h.1;rw[hu0] at this;dsimp only at this;rw[c6] at this;cases this]) _ rfl _ rfl)
 |true=>
 refine Q.r ?_;have hp1:riseB ((unR bs).I.map (·.1))=true:=by rw[hu0];exact c6
 obtain ⟨hok,hJF⟩:=un4_okj hc0 hF hp1;have hjd:jDn bs ⟨st,qs.map pvA,[]⟩=⟨st,qs.map pvA,dm⟩:=by
  unfold jDn;rw[hu0,hdm']
 have hle7:leM M M7:=hlM.trans hl7;obtain ⟨hjw,hjp,hjx⟩:=okj_jow (n:=1000) hok hd1 hd2 (by have:=hub.E;omega) hub.c hub.I hub.D;rw[←hJF,hjd] at hjw hjp;rw[hjd] at hend;have hqF:JQ M7 ⟨st,qs.map pvA,dm⟩ sf2 qs:=⟨hq2.s1,hq2.s2.trans hdm.symm,rfl,λu hu=>(hqs u hu).mono hl7⟩;refine opsS_ent (Ent.trans (M:=jP q v2 sf2 j.v.dim mp2 md2::vaultH v2 st::jT mp2 qs::jD md2 dm::jP p pv sf j.v.dim mp md::vaultH pv j.v::jT mp ps::jD md j.done::roM M7::L) eG (jur_shut (j:=⟨st,qs.map pvA,dm⟩) hqF hdm.symm)) ?_;refine S.cj q rfl (JPack_spec M7 q ⟨st,qs.map pvA,dm⟩ 1000 _ hjw zo hjp) ?_;rintro _ _ ⟨ap,cp,M8,rfl,hl8,rfl⟩;obtain ⟨F,hFe⟩:∃F:JS,F=⟨st,qs.map pvA,dm⟩:=⟨_,rfl⟩;rw[←hFe] at hend hjw hjp ⊢;refine Q.r ?_;refine opsS_abs ap (λM9 hl9 hs9=> ?_);have hle9:leM M M9:=hle7.trans (hl8.trans hl9);refine S.c1 (A:=roM M9) rfl (equalB_spec ap a cp c (packV F) bs M9 _ hs9 (hs.mono hle9) zo) ?_;rintro _ _ ⟨rfl,rfl⟩;have fin9:∀L1,Ent L1 (jP p pv sf j.v.dim mp md::vaultH pv j.v::jT mp ps::jD md j.done::roM M9::L)→Ent L1 (jurH M9 p j::roM M9::L):=λL1 h=>Ent.trans h (jur_shut (hq.mono hle9) rfl)
 by_cases c7:packV F=bs
 case neg=>
  rw[decide_eq_false c7];refine Q.r ?_;have hno:=unJ_none (j:=j) (bs:=bs) (by rw[hend,if_neg λh=>c7 h.2]);rw[hno.1,hno.2];exact N.t rfl (fin9 _ eG) ⟨rfl,M9,hle9,rfl⟩
 rw[decide_eq_true c7];have hsome:unJ4 j.v.dim bs=some F:=by rw[hend,if_pos ⟨hp1,c7⟩]
 refine Q.r ?_;refine opsS_ent (Ent.trans (M:=jP p pv sf j.v.dim mp md::vaultH pv j.v::jT mp ps::jD md j.done::jurH M8 q F::roM M9::L) eG (jur_shut (hq.mono hle9) rfl)) ?_;refine S.cj p rfl (JDump_spec M9 p j 10000 _ hw.wf zo) ?_;rintro _ _ ⟨xa,xc,xs,M10,rfl,hl10,-,-,hpx,rfl⟩;have hxl:xs.length=j.v.ch.length:=by have:=hpx.length_eq;rw[List.length_map] at this;exact this
 have hcl:=hw.wf.cl;have hil:=hw.wf.il;rw[hxl];refine Q.r ?_;refine S.cj p rfl (JIntents_spec M10 p j 10000 _ hw.wf zo) ?_;rintro _ _ ⟨ya,yc,ys,M11,rfl,hl11,-,-,hpy,rfl⟩;have hyl:ys.length=j.v.its.length:=by have:=hpy.length_eq;rw[List.length_map] at this;exact this
 rw[hyl];have hle11:leM M M11:=hle9.trans (hl10.trans hl11)
 by_cases f1:0<j.done.length+j.v.ch.length+j.v.its.length
 ·have hfu:=unJ_full hsome (show fullJ j=true from decide_eq_true (.inl f1))
  refine Q.r ?_;rw[hfu.1,hfu.2];exact N.t rfl eG ⟨rfl,M11,hle11,rfl⟩
 ·refine Q.r ?_
  refine S.cjn p rfl (JMark_spec M11 p j _) ?_;rintro _ _ ⟨rfl,rfl⟩
  by_cases f2:0<j.v.mark
  ·have hfu:=unJ_full hsome (show fullJ j=true from decide_eq_true (.inr f2))
   refine Q.r ?_;rw[hfu.1,hfu.2];exact N.t rfl eG ⟨rfl,M11,hle11,rfl⟩
  ·have hfu:=unJ_some hsome (show fullJ j=false from decide_eq_false λh=>h.elim f1 f2)
   refine opsS_jur p (λv5 mp5 md5 sf5 ps5 hq5=> ?_);refine opsS_jur q (λv6 mp6 md6 sf6 ps6 hq6=> ?_);refine Q.r ?_;rw[hfu.1,hfu.2];exact N.t rfl (Ent.trans (M:=jP p v6 sf6 F.v.dim mp6 md6::vaultH v6 F.v::jT mp6 ps6::jD md6 F.done::roM M11::L) eG (jur_shut (hq6.mono (hl9.trans (hl10.trans hl11))) rfl)) ⟨rfl,M11,hle11,rfl⟩
theorem Bs_take (bs:List UInt8)(k:Nat):(bs.map B).take (k*1)=(bs.take k).map B:=by rw[Nat.mul_one,List.map_take]
theorem RCut_spec (a:OA)(c:Nat)(bs:List UInt8)(n:Nat)(L:HL)(h:RdS L a bs.length 1 (bs.map B))(hc:bs.length≤c)(hn:n≤1000000):
  CallsS Tryz.prog 11 [.slice a bs.length c,.int .i64 n] L (λv L'=>∃a' c',v=.slice a' (bs.take n).length c'∧L'=slO 5 1 a' (bs.take n).length c' ((bs.take n).map B)::L):=by
 refine CallsS.of_body Tryz.func11 rfl rfl rfl ?_
 repeat (first|(refine GQ.y ?_;refine Q.y ?_)|refine Q.go ?_|(refine GQ.g ?_;refine Q.gq ?_)|(refine GQ.s ?_;refine Q.st ?_))
 refine S.bs rfl rfl rfl rfl rfl (λb=> ?_);refine opsS_ent (slO_fold (sz:=1) (m:=0) rfl) ?_
 repeat (first|(refine GQ.y ?_;refine Q.y ?_)|refine Q.go ?_|(refine GQ.g ?_;refine Q.gq ?_)|(refine GQ.s ?_;refine Q.st ?_))
 have hl:(bs.take n).length=min bs.length n:=by rw[List.length_take,Nat.min_comm]
 refine S.y (Y.slT (h:=(bs.take n).length) rfl rfl (by rw[hl];omega) zo) ?_
 repeat (first|(refine GQ.y ?_;refine Q.y ?_)|refine Q.go ?_|(refine GQ.g ?_;refine Q.gq ?_)|(refine GQ.s ?_;refine Q.st ?_))
 have ht:=h.take (k:=(bs.take n).length) zo;rw[Bs_take,show bs.take (bs.take n).length=bs.take n by rw[List.length_take];simp] at ht;refine S.app0 rfl rfl rfl (SrcS.rd ht.sub (B_one _)) zr zo zo (λa' c'=> ?_)
 repeat (first|(refine GQ.y ?_;refine Q.y ?_)|refine Q.go ?_|(refine GQ.g ?_;refine Q.gq ?_)|(refine GQ.s ?_;refine Q.st ?_))
 refine N.t rfl ?_ ⟨a',c',rfl,rfl⟩;exact eG
theorem appS_dim (j:JS)(n:NA):(appS j n).v.dim=j.v.dim:=by
 unfold appS
 split
 ·rfl
 split
 ·exact lockS_dim _ _ _ _
 split
 ·exact applyS_dim _ _ _
 split
 ·rfl
 split
 ·exact sweepS_dim _ _
 ·rfl
theorem fold_dim :∀(l:List NA) (j:JS),(l.foldl appS j).v.dim=j.v.dim
 | [],_=>rfl
 |n::l,j=>by rw[List.foldl_cons,fold_dim l,appS_dim]
theorem stepS_dim (j:JS)(f:Int)(n:NA)(w raw:Bool):(stepS j f n w raw).v.dim=j.v.dim:=by
 unfold stepS
 split
 ·exact appS_dim _ _
 split
 ·exact fold_dim _ _
 ·rfl
theorem int_len {mp:Nat}{i:IR}(h:okIr mp 15 16 i)(hm:mp≤4):(intE i).length≤2000:=by
 obtain ⟨h1,h2,h3,h4⟩:=h;have l1:=numI_len (z:=i.1) (by have:=h1.2;omega);have l2:=numI_len (z:=i.2.1) (by have:=h2.2;omega);have l3:=numI_len (z:=(i.2.2.1.length:Int)) (by have:=h3.1;omega);have l4:(i.2.2.1.flatMap numI).length≤i.2.2.1.length*10:=flat_le λp hp=>numI_len (by have:=(h3.2 p hp).2;omega)
 have l5:=numI_len (z:=(i.2.2.2.length:Int)) (by have:=h4.1;omega);have l6:(i.2.2.2.flatMap verE).length≤i.2.2.2.length*100:=flat_le λv hv=>ver_len (h4.2 v hv)
 have:=h3.1;have:=h4.1
 show (numI i.1++(numI i.2.1++(numI (i.2.2.1.length:Int)++i.2.2.1.flatMap numI++(numI (i.2.2.2.length:Int)++i.2.2.2.flatMap verE)))).length≤2000
 simp only[List.length_append];omega
theorem pack_len {j:JS}(hj:JOW j 30)(hx:JPX j):(packV j).length≤10000000:=by
 have ho:=can_okj zo hj hx;rw[can_pack zo hj hx];have hE1:(srtM j.v.ch).length≤480:=by have:=(srt_mem hj.w.k1).length_eq;have:=hj.w.wf.cl;omega
 have hI1:(canI j).length≤30:=by unfold canI;rw[List.length_map];have:=(srt_mem hj.w.k2).length_eq;have:=hj.w.wf.il;omega
 have hD1:(canD j).length≤30:=by
  have:(canD j).length=j.done.length:=by unfold canD;rw[List.length_map,sortL_len,List.length_map]
  have:=hj.dl;omega
 have lE:((srtM j.v.ch).flatMap entE).length≤(srtM j.v.ch).length*4000:=flat_le λe he=>by
  obtain ⟨h1,h2,h3⟩:=ho.hE.2 e he;have h4:e.2.length≤30:=(hj.w.wf.co e ((srt_mem hj.w.k1).mem_iff.1 he)).2.1;have l1:=numI_len (z:=e.1) (by have:=h1.2;omega);have l2:=numI_len (z:=(e.2.length:Int)) zo;have l3:(e.2.flatMap verE).length≤e.2.length*100:=flat_le λv hv=>ver_len (h3 v hv)
  show (numI e.1++(numI (e.2.length:Int)++e.2.flatMap verE)).length≤4000
  simp only[List.length_append];omega
 have lI:((canI j).flatMap intE).length≤(canI j).length*2000:=flat_le λi hi=>int_len (ho.hI.2 i hi) (Nat.le_refl _)
 have lD:((canD j).flatMap dnE).length≤(canD j).length*20:=flat_le λd hd=>by
  obtain ⟨h1,h2⟩:=(ho.hD.2 d hd).1;have l1:=numI_len (z:=d.1) (by have:=h1.2;omega);have l2:=numI_len (z:=d.2) (by have:=h2.2;omega)
  show (numI d.1++numI d.2).length≤20
  rw[List.length_append];omega
 have l0:=numI_len (z:=j.v.mark) (by have:=ho.hm.2;omega);have l1:=numI_len (z:=((srtM j.v.ch).length:Int)) zo;have l2:=numI_len (z:=((canI j).length:Int)) zo;have l3:=numI_len (z:=((canD j).length:Int)) zo;unfold encJ encL;simp only[List.length_append];omega
theorem can_bd {j:JS}(hj:JOW j 30)(hx:JPX j):UBd (packV j):=by
 have ho:=can_okj zo hj hx;have e:unR (packV j)=⟨j.v.mark,srtM j.v.ch,canI j,canD j,rs0 []⟩:=by
  rw[can_pack zo hj hx];exact unR_fwd ho.hm ho.hE ⟨ho.hI.1,λi hi=>okI_16 (ho.hI.2 i hi)⟩ ⟨ho.hD.1,λd hd=>(ho.hD.2 d hd).1⟩
 refine ⟨?_,?_,?_,?_⟩<;>rw[e]<;>dsimp only
 ·have:=(srt_mem hj.w.k1).length_eq;have:=hj.w.wf.cl;omega
 ·intro e he
  have:=(hj.w.wf.co e ((srt_mem hj.w.k1).mem_iff.1 he)).2.1;omega
 ·unfold canI;rw[List.length_map];have:=(srt_mem hj.w.k2).length_eq;have:=hj.w.wf.il;omega
 ·have:(canD j).length=j.done.length:=by unfold canD;rw[List.length_map,sortL_len,List.length_map]
  have:=hj.dl;omega
theorem un_bd {bs:List UInt8}(h:bs.length≤600)(hb:(unR bs).s.bad=0):UBd bs:=by
 obtain ⟨h1,h2,h3,h4⟩:=unR_size hb;exact ⟨by omega,λe he=>by have:=h2 e he;omega,by omega,by omega⟩
theorem un_jow {bs:List UInt8}{F:JS}{dim:Int}(d1:1≤dim)(d2:dim≤8)(h:unJ4 dim bs=some F)(hl:bs.length≤600):JOW F 1000∧JPK F∧JPX F∧packV F=bs:=by
 obtain ⟨m,E,I,D,ho,rfl,rfl⟩:=un_okj h;have e:unR (encJ m E I D)=⟨m,E,I,D,rs0 []⟩:=unR_fwd ho.hm ho.hE ⟨ho.hI.1,λi hi=>okI_16 (ho.hI.2 i hi)⟩ ⟨ho.hD.1,λd hd=>(ho.hD.2 d hd).1⟩;have hs:=unR_size (bs:=encJ m E I D) (by rw[e]);rw[e] at hs;dsimp only at hs;obtain ⟨h1,h2,h3,h4⟩:=hs;obtain ⟨q1,q2,q3⟩:=okj_jow (n:=1000) ho d1 d2 zo (λe he=>by have:=h2 e he;omega) zo zo;exact ⟨q1,q2,q3,ho.pack⟩
theorem can_jow {j:JS}(hj:JOW j 30)(hx:JPX j):JOW (canJ j) 1000∧JPK (canJ j)∧JPX (canJ j)∧packV (canJ j)=packV j:=by
 have ho:=can_okj zo hj hx;have b:=can_bd hj hx;have e:unR (packV j)=⟨j.v.mark,srtM j.v.ch,canI j,canD j,rs0 []⟩:=by
  rw[can_pack zo hj hx];exact unR_fwd ho.hm ho.hE ⟨ho.hI.1,λi hi=>okI_16 (ho.hI.2 i hi)⟩ ⟨ho.hD.1,λd hd=>(ho.hD.2 d hd).1⟩
 obtain ⟨b1,b2,b3,b4⟩:=b;rw[e] at b1 b2 b3 b4;dsimp only at b1 b2 b3 b4;obtain ⟨q1,q2,q3⟩:=okj_jow (n:=1000) ho hj.w.wf.d1 hj.w.wf.d2 zo b2 b3 b4;exact ⟨q1,q2,q3,by rw[can_pack zo hj hx];exact ho.pack⟩
theorem full_long {j:JS}(hj:JOW j 1000)(h:4<(packV j).length):fullJ j=true:=by
 by_cases hf:0<j.done.length+j.v.ch.length+j.v.its.length∨0<j.v.mark
 ·exact decide_eq_true hf
 ·exfalso
  have h1:j.done=[]:=List.eq_nil_of_length_eq_zero zo;have h2:j.v.ch=[]:=List.eq_nil_of_length_eq_zero zo;have h3:j.v.its=[]:=List.eq_nil_of_length_eq_zero zo;have h4:j.v.mark=0:=by have:=hj.m;omega
  unfold packV at h;rw[h1,h2,h3,h4] at h
  simp[srtM,sortL,numI_lo] at h
abbrev eoZ :EO:=⟨0,NA.zero.nv,false,false,0,0⟩
theorem fewV_mem {n:Nat}{ops:VL}{q:Int×List Int}(h:q∈fewV n ops):∃u∈ops,q.1=u.1:=by
 unfold fewV at h;obtain ⟨u,hu,rfl⟩:=List.mem_map.1 h;exact ⟨u,List.mem_of_mem_take hu,rfl⟩
theorem full0 :fullJ (J0 2)=false:=by decide
set_option maxRecDepth 100000 in
theorem JurorPacks_spec (a:OA)(c:Nat)(xs:List EO)(ba:OA)(bc:Nat)(bs:List UInt8)(M:OM)(h:SlM M a xs.length 21 (xs.flatMap EO.cells))(hx:∀o∈xs,EOK M o∧∀q∈o.n.ops,0≤q.id)(hn:xs.length≤9223372036854775807)(hb:SlM M ba bs.length 1 (bs.map B))(hbc:bs.length≤bc)(hT:TabM M):
  CallsS Tryz.prog 3 [.slice a xs.length c,.slice ba bs.length bc] [roM M] (λr _=>r=.bool true):=by
 refine CallsS.of_body Tryz.func3 rfl rfl rfl ?_;refine Q.r ?_;refine S.c1 rfl (awake14_spec M _ hT) ?_;rintro _ _ ⟨M1,rfl,hl1,rfl⟩;refine Q.r ?_;refine S.cr rfl (JNew_spec M1 2 2 _ zd zd zd zd) ?_;rintro _ _ ⟨p,rfl,rfl⟩;refine Q.r ?_;refine S.cr rfl (RNew_spec 2 2 _ zd zd) ?_;rintro _ _ ⟨x,rfl,rfl⟩;refine Q.r ?_;refine swp_cutB (σ:=JS×(OM)) (λs=> [(1,.slice ba bs.length bc),(5,ptrJ p),(7,.pointer (some ⟨x,0,none⟩))]) (λs=>jurH s.2 p s.1::rjH x s.1::roM s.2::[]) (λs=>JOW s.1 30∧JPK s.1∧JPX s.1∧s.1.v.dim=2∧leM M1 s.2) ?_ ?_
 ·refine swp_loop (σ:=Nat×JS×(OM)) (λs=> [(1,.slice ba bs.length bc),(5,ptrJ p),(7,.pointer (some ⟨x,0,none⟩)),(23,.slice a xs.length c),(24,.int .i64 xs.length),(25,.int .i64 s.1)])
   (λs=>jurH s.2.2 p s.2.1::rjH x s.2.1::roM s.2.2::[]) (λs=>s.1≤xs.length∧JOW s.2.1 (min s.1 25)∧JPK s.2.1∧JPX s.2.1∧s.2.1.v.dim=2∧leM M1 s.2.2) (λs=>xs.length - s.1) (0,J0 2,M1) zt eG ⟨by omega,JOW.zero zd zd,JPK.zero,JPX.zero 2,rfl,leM.refl M1⟩ ?_
  rintro ⟨k,j,M2⟩ ⟨hk1,hj,hd,hjx,hdm,hl2⟩;dsimp only at hk1 hj hd hjx hdm hl2 ⊢
  by_cases hlt:k<xs.length
  ·obtain ⟨o,ho⟩:=mem_get hlt
   have hmo:o∈xs:=List.mem_of_getElem? ho;have hl12:=hl1.trans hl2;obtain ⟨b,oo,hab,cr⟩:=SlM.cm (g:=EO.cells) (λ_=>rfl) (h.mono hl12) ho rfl;rw[hab]
   by_cases h25:25≤k
   ·refine Q.r ?_;(repeat (intro b1;refine Q.r ?_))
    refine ⟨(k+1,j,M2),zt,by exact eG,⟨by dsimp only;omega,hj.le (by dsimp only;omega),hd,hjx,hdm,hl2⟩,by dsimp only;omega⟩
   ·have hm:min k 25=k:=by omega
    rw [hm] at hj;refine Q.r ?_;(repeat (intro b1;refine Q.r ?_));have ho2 : EOK M2 o := (hx o hmo).1.mono hl12;have hox := (hx o hmo).1;refine S.c3 (args := [ptrJ p,.pointer (some ⟨x,0,none⟩),.agg o.cells.toArray]) rfl (step_spec o p x j k M2 _ hj zo ho2 (hT.mono hl12)) ?_;rintro _ _ ⟨M4,rfl,hl4,rfl⟩;have huf : NumA o.n.abs.few := ⟨hox.uu.kind,hox.uu.txn,hox.uu.batch,hox.uu.stamp,hox.uu.after,hox.uu.mark,hox.uu.query,hox.uu.id,hox.uu.k,hox.uu.ef,hox.uu.code,hox.uu.who⟩;have hj2 : JOW (stepS j o.fr o.n.abs.few o.w o.r) (k + 1) := hj.step (n := o.n.abs.few) hox.uu.txn.1 hox.uu.stamp.1 o.fr o.w o.r;have hd2 : JPK (stepS j o.fr o.n.abs.few o.w o.r) := hd.step hj huf o.fr o.w o.r;have hx2 : JPX (stepS j o.fr o.n.abs.few o.w o.r) := hjx.step hj huf (fun q hq => by
     obtain ⟨u,hu,e⟩:=fewV_mem (n:=18) (ops:=o.n.ops.map OV.abs) hq;obtain ⟨q0,hq0,rfl⟩:=List.mem_map.1 hu;rw[e];exact (hx o hmo).2 q0 hq0) o.fr o.w o.r
    have hdm2:(stepS j o.fr o.n.abs.few o.w o.r).v.dim=2:=(stepS_dim j o.fr o.n.abs.few o.w o.r).trans hdm;generalize stepS j o.fr o.n.abs.few o.w o.r=j2 at hj2 hd2 hx2 hdm2 ⊢;refine Q.r ?_;refine ⟨(k+1,j2,M4),zt,by exact eG,⟨by dsimp only;omega,hj2.le (by dsimp only;omega),hd2,hx2,hdm2,hl2.trans hl4⟩,by dsimp only;omega⟩
  ·have hke:k=xs.length:=by omega
   subst hke;refine Q.r ?_;exact ⟨(j,M2),zt,by exact eG,hj.le zo,hd,hjx,hdm,hl2⟩
 rintro ⟨j,M2⟩ ⟨hj,hd,hjx,hdm,hl2⟩;dsimp only at hj hd hjx hdm hl2 ⊢;have hpl:=pack_len hj hjx;have hbd:=can_bd hj hjx;obtain ⟨cj1,cj2,cj3,cj4⟩:=can_jow hj hjx;have hun:=can_un (by omega:30≤1000) hj hjx;rw[hdm] at hun;have hw0:WFK (J0 2).v 10000:=((J0.ok (dim:=2) zd zd).w).mono zo;refine Q.r ?_;refine S.cr rfl (JNew_spec M2 2 2 _ zd zd zd zd) ?_;rintro _ _ ⟨q,rfl,rfl⟩;refine Q.r ?_;refine S.cj p rfl (JPack_spec M2 p j 30 _ hj zo hd) ?_;rintro _ _ ⟨ya,yc,M3,rfl,hl3,rfl⟩;refine opsS_abs ya (λM4 hl4 hs4=> ?_);refine opsS_jm p hl4 ?_;refine opsS_jm q (hl3.trans hl4) ?_;refine Q.r ?_;refine S.cj q rfl (JUnpack_spec M4 q (J0 2) ya yc (packV j) _ hs4 hpl hw0 zd (λ_=>hbd)) ?_;rintro _ _ ⟨rfl,M5,hl5,rfl⟩;have hu0:=unJ_some (j:=J0 2) hun full0;rw[hu0.1,hu0.2];refine opsS_jm p hl5 ?_;refine Q.r ?_;obtain ⟨pe1,pe2,pe3,pe4⟩:=can_perm hj hjx;refine opsS_ent (Ent.trans (M:=rjH x j::jurH M5 q (canJ j)::jurH M5 p j::roM M5::[]) eG (rj_perm (j:=j) (j':=canJ j) rfl rfl pe1 pe2 pe3 pe4)) ?_;refine S.c3 (A:=jurH M5 q (canJ j)) (B:=rjH x (canJ j)) (C:=roM M5) (args:=[ptrJ q,.pointer (some ⟨x,0,none⟩),.agg eoZ.cells.toArray]) rfl (same_spec M5 eoZ q x (canJ j) 1000 _ zo cj1 cj3 cj2 (by rw[cj4];exact hpl)) ?_;rintro _ _ ⟨rfl,M6,hl6,rfl⟩;refine opsS_jm p hl6 ?_;have hle6:leM M M6:=hl1.trans (hl2.trans (hl3.trans (hl4.trans (hl5.trans hl6))));refine Q.r ?_;refine S.cr rfl (RCut_spec ba bc bs 600 _ (hb.mono hle6).rd hbc zo) ?_;rintro _ _ ⟨ca,cc,rfl,rfl⟩;have hbl:(bs.take 600).length≤600:=by rw[List.length_take];omega
 generalize bs.take 600=bt at*;refine opsS_cap ca λhcc=>opsS_abs ca (λM7 hl7 hs7=> ?_)
 refine opsS_jm p hl7 ?_;refine opsS_jm q hl7 ?_;refine Q.r ?_;refine S.cr rfl (JNew_spec M7 2 2 _ zd zd zd zd) ?_;rintro _ _ ⟨z,rfl,rfl⟩;refine Q.r ?_;refine S.c1 (A:=roM M7) rfl (JRUnpack_spec M7 2 ca cc bt _ hs7 hcc hbl zd zd) ?_;rintro _ _ ⟨M8,hl8,hor⟩;rw[refUJ_eq] at hor;have hbu:=λhz=>un_bd (bs:=bt) hbl hz
 rcases hor with ⟨hno,rfl,rfl⟩|⟨F,y,hsm,rfl,rfl⟩
 ·have hnu:=unJ_none (j:=J0 2) hno
  refine opsS_jm p hl8 ?_;refine opsS_jm q hl8 ?_;refine opsS_jm z hl8 ?_;refine Q.r ?_;refine S.c2 (A:=jurH M8 z (J0 2)) (B:=roM M8) rfl (JUnpack_spec M8 z (J0 2) ca cc bt _ (hs7.mono hl8) zo hw0 zd hbu) ?_;rintro _ _ ⟨rfl,M9,hl9,rfl⟩;rw[hnu.1,hnu.2];refine opsS_jm p hl9 ?_;refine opsS_jm q hl9 ?_;refine Q.r ?_;refine S.c1 (A:=rjH x (canJ j)) rfl (JRPack_spec x (canJ j) 1000 _ zo cj1 cj3 (by rw[cj4];exact hpl)) ?_;rintro _ _ ⟨pa,pc,rfl,rfl⟩;rw[cj4]
  by_cases h4:4<(packV j).length
  ·have hful:=unJ_full (j:=canJ j) (bs:=packV j) (F:=canJ j) (by rw[show (canJ j).v.dim=2 from hdm];exact hun) (full_long cj1 (by rw[cj4];exact h4))
   refine Q.r ?_;refine S.c2 (A:=jurH M9 p j) (B:=roM M9) rfl (JPack_spec M9 p j 30 _ hj zo hd) ?_;rintro _ _ ⟨ea,ec,N1,rfl,hn1,rfl⟩;refine opsS_abs ea (λN2 hn2 hsn2=> ?_);refine opsS_jm q (hn1.trans hn2) ?_;refine Q.r ?_;refine S.c2 (A:=jurH N2 q (canJ j)) (B:=roM N2) rfl (JUnpack_spec N2 q (canJ j) ea ec (packV j) _ hsn2 hpl (cj1.w.mono zo) (by have:=cj1.dl;omega) (λ_=>hbd)) ?_;rintro _ _ ⟨rfl,N3,hn3,rfl⟩;rw[hful.1];refine Q.r ?_;exact N.t rfl (Ent.refl _) rfl
  ·refine Q.r ?_
   exact N.t rfl (Ent.refl _) rfl
 ·have hsu:=unJ_some (j:=J0 2) hsm full0
  obtain ⟨f1,f2,f3,f4⟩:=un_jow zd zd hsm hbl;refine opsS_jm p hl8 ?_;refine opsS_jm q hl8 ?_;refine opsS_jm z hl8 ?_;refine Q.r ?_;refine S.c2 (A:=jurH M8 z (J0 2)) (B:=roM M8) rfl (JUnpack_spec M8 z (J0 2) ca cc bt _ (hs7.mono hl8) zo hw0 zd hbu) ?_;rintro _ _ ⟨rfl,M9,hl9,rfl⟩;rw[hsu.1,hsu.2];refine Q.r ?_;refine S.c3 (A:=jurH M9 z F) (B:=rjH y F) (C:=roM M9) (args:=[ptrJ z,.pointer (some ⟨y,0,none⟩),.agg eoZ.cells.toArray]) rfl (same_spec M9 eoZ z y F 1000 _ zo f1 f3 f2 (by rw[f4];omega)) ?_;rintro _ _ ⟨rfl,M10,hl10,rfl⟩;refine opsS_jm p (hl9.trans hl10) ?_;refine opsS_jm q (hl9.trans hl10) ?_;refine Q.r ?_;refine S.c1 (A:=rjH x (canJ j)) rfl (JRPack_spec x (canJ j) 1000 _ zo cj1 cj3 (by rw[cj4];exact hpl)) ?_;rintro _ _ ⟨pa,pc,rfl,rfl⟩;rw[cj4]
  by_cases h4:4<(packV j).length
  ·have hful:=unJ_full (j:=canJ j) (bs:=packV j) (F:=canJ j) (by rw[show (canJ j).v.dim=2 from hdm];exact hun) (full_long cj1 (by rw[cj4];exact h4))
   refine Q.r ?_;refine S.c2 (A:=jurH M10 p j) (B:=roM M10) rfl (JPack_spec M10 p j 30 _ hj zo hd) ?_;rintro _ _ ⟨ea,ec,N1,rfl,hn1,rfl⟩;refine opsS_abs ea (λN2 hn2 hsn2=> ?_);refine opsS_jm q (hn1.trans hn2) ?_;refine Q.r ?_;refine S.c2 (A:=jurH N2 q (canJ j)) (B:=roM N2) rfl (JUnpack_spec N2 q (canJ j) ea ec (packV j) _ hsn2 hpl (cj1.w.mono zo) (by have:=cj1.dl;omega) (λ_=>hbd)) ?_;rintro _ _ ⟨rfl,N3,hn3,rfl⟩;rw[hful.1];refine Q.r ?_;exact N.t rfl (Ent.refl _) rfl
  ·refine Q.r ?_
   exact N.t rfl (Ent.refl _) rfl
end Go.Proofs.YtjlgabojhnnbaaaGreatDoor
