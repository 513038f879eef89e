/- The ref's vault: Sweep. The vault's law: do. The vault: what every step keeps. Notes: as they lie; sorted, held. Notes: bare, bounded, sorted, Right. Notes: sorted, Right. The juror: notes, plans and records as laws of states. The juror: what it plans can be applied; what is over stays so. The vault: what Intents gives. VaultHolds: what is kept; the law, walked. The juror: what every record keeps, also one that was never planned. The ref's vault: At, Blocked, Get, Scan. The vault and the ref's: Get, Scan; SameHits, Mark. The vault: Scan. The vault: Intents, Dump, as what they give is owned. What is asked of vaults: Last, SameIntents, SameEntries, intents, entries. The juror as it lies; its simple calls. No condition. -/
import Derived.Test.YtjlgabojhnnbaaaGreatDoorPk05
set_option linter.unusedVariables false
set_option linter.unusedSimpArgs false
set_option linter.unusedSectionVars false
set_option maxHeartbeats 4000000
namespace Go.Proofs.YtjlgabojhnnbaaaGreatDoor
open Go Go.SX
attribute [local irreducible] swp opsS thenS blockS retS CallsS St Ent YieldS anyS drawS
theorem ROK.ids {M:OM}{st:VS}{a a':OA}{c c':Nat}{es:List EV}{is:List IV}(h:ROK M st a c es a' c' is):swIds st.ch=es.map (·.id):=by
 refine sorted_uniq ((sortL_perm _).trans ?_) (sortL_sorted _) (h.cs.imp λh=>by omega);have:=(h.ch.map (·.1)).symm;rw[map_id_key] at this;exact this
theorem sw1_g {s:Int}{u:List (Int×VL)×GL}{id:Int}{vs:VL}(h:chV u.1 id=vs):(sw1 s u id).2=u.2++(vs.take (cutN vs s)).map λv=>(id,v.1):=by
 unfold sw1;rw[h]
theorem sw1_d {s:Int}{u:List (Int×VL)×GL}{id:Int}{vs:VL}(h:chV u.1 id=vs)(h0:(vs.drop (cutN vs s)).length=0):(sw1 s u id).1=delL u.1 id:=by
 unfold sw1;rw[h];dsimp only;rw[if_pos h0]
theorem sw1_p {s:Int}{u:List (Int×VL)×GL}{id:Int}{vs:VL}(h:chV u.1 id=vs)(h0:¬(vs.drop (cutN vs s)).length=0):(sw1 s u id).1=putL u.1 id (vs.drop (cutN vs s)):=by
 unfold sw1;rw[h];dsimp only;rw[if_neg h0]
theorem insE_len (es:List EV)(nw:EV):(insE es nw).length≤es.length+1:=by
 unfold insE;rw[List.length_append,List.length_cons];have e2:(es.filter λe=>decide (e.id<nw.id)).length+(es.filter λe=> !decide (e.id<nw.id)).length=es.length:=by
  have:=(List.filter_append_perm (λe:EV=>decide (e.id<nw.id)) es).length_eq
  simpa using this
 have e3:(es.filter λe=>decide (nw.id<e.id)).length≤(es.filter λe=> !decide (e.id<nw.id)).length:=by
  rw[←List.countP_eq_length_filter,←List.countP_eq_length_filter];exact List.countP_mono_left λu hu h=>by simp at h ⊢;omega
 omega
theorem RSweep_spec (p:Nat)(st:VS)(n:Nat)(s:Int)(L:HL)(hw:WF st n)(hn:n≤10000):
  CallsS Tryz.prog 83 [ptrV p,.int .u64 s] (refH p st::L) (λr L'=>∃a c,r=.slice a (sweepG st s).length c∧L'=slO 245 2 a (sweepG st s).length c ((sweepG st s).flatMap gcells)::refH p (sweepS st s)::L):=by
 unfold sweepG sweepS;refine calls_ref λM a c es a' c' is hok=> ?_
 obtain ⟨m,hm⟩:∃m,m=min s 1099511627776:=⟨_,rfl⟩;rw[←hm];have hel:es.length≤16*n:=by rw[hok.len.2];exact hw.cl
 refine CallsS.of_body Tryz.func83 rfl rfl rfl ?_
 repeat (first|(refine GQ.y ?_;refine Q.y ?_)|refine Q.go ?_|(refine GQ.g ?_;refine Q.gq ?_)|(refine GQ.s ?_;refine Q.st ?_)|(refine GQ.a ?_;refine Q.al (λb1=> ?_)))
 refine swp_cutT (σ:=Unit) (λ_=> [(0,ptrV p),(1,.int .u64 m),(5,.slice none 0 0)]) (λ_=>rP p st.dim a es c a' is c' st.mark::roM M::L) (λ_=>True) ?_ ?_
 ·by_cases h1:1099511627776<s
  ·refine Q.r ?_
   exact ⟨(),⟨rfl,by rw[hm,show min s 1099511627776=1099511627776 by omega];rfl,rfl,trivial⟩,Ent.refl _,trivial⟩
  ·refine Q.r ?_
   exact ⟨(),⟨rfl,by rw[hm,show min s 1099511627776=s by omega];rfl,rfl,trivial⟩,Ent.refl _,trivial⟩
 intro _ _
 by_cases h1:m≤st.mark
 ·rw[if_pos h1,if_pos h1]
  refine Q.r ?_;refine N.t rfl ?_ ⟨none,0,rfl,rfl⟩;refine Ent.trans ?_ slO_nil;exact ref_shut hok
 rw[if_neg h1,if_neg h1];refine Q.r ?_;(repeat (intro b1;refine Q.r ?_));refine opsS_ent (slO_fold (sz:=2) (m:=0) rfl) ?_;refine S.app0 rfl rfl rfl (SrcS.rd hok.sE.rd (EV_one _)) zr zo zo (λa5 c5=> ?_);refine opsS_abs a5 (λM0 hl0 hs5=> ?_);refine Q.r ?_;have hids:=hok.ids;have hik:∀(k:Nat) (e:EV),es[k]? =some e→(swIds st.ch)[k]? =some e.id:=λk e he=>by rw[hids,List.getElem?_map,he];rfl
 refine swp_cutB (σ:=OA×Nat) (λu=> [(5,.slice u.1 (swF m (swIds st.ch) st.ch).2.length u.2)]) (λu=>slO 245 2 u.1 (swF m (swIds st.ch) st.ch).2.length u.2 ((swF m (swIds st.ch) st.ch).2.flatMap gcells)::refH p {st with mark:=m,ch:=(swF m (swIds st.ch) st.ch).1}::L) (λ_=>True) ?_ ?_
 ·refine swp_loop (σ:=Nat×OA×Nat×GL×RX) (λu=> [(0,ptrV p),(1,.int .u64 m),(33,.slice a5 es.length c5),(34,.int .i64 es.length),(5,.slice u.2.1 u.2.2.2.1.length u.2.2.1),(35,.int .i64 u.1)])
   (λu=>slO 245 2 u.2.1 u.2.2.2.1.length u.2.2.1 (u.2.2.2.1.flatMap gcells)::rP p st.dim u.2.2.2.2.a u.2.2.2.2.es u.2.2.2.2.c u.2.2.2.2.a' u.2.2.2.2.is u.2.2.2.2.c' m::roM u.2.2.2.2.M::L)
   (λu=>u.1≤es.length∧u.2.2.2.1.length≤u.1*10000∧leM M0 u.2.2.2.2.M∧u.2.2.2.2.es.length≤es.length+u.1∧u.2.2.2.1=(((swIds st.ch).take u.1).foldl (sw1 m) (st.ch,[])).2∧ROK u.2.2.2.2.M {st with mark:=m,ch:=(((swIds st.ch).take u.1).foldl (sw1 m) (st.ch,[])).1} u.2.2.2.2.a u.2.2.2.2.c u.2.2.2.2.es u.2.2.2.2.a' u.2.2.2.2.c' u.2.2.2.2.is)
   (λu=>es.length - u.1) (0,none,0,[],⟨a,c,es,a',c',is,M0⟩) zt ?_ ⟨by omega,by simp,leM.refl M0,by simp,rfl,?_⟩ ?_
  ·refine Ent.trans ?_ slO_nil
   exact eG
  ·exact ⟨hok.ch,hok.cs,hok.its,hok.ss,λe he=>(hok.oe e he).mono hl0,λi hi=>(hok.oi i hi).mono hl0,hok.sE.mono hl0,hok.sI.mono hl0,hok.cE,hok.cI,hok.k1,hok.k2,hok.oc⟩
  rintro ⟨k,a3,c3,g,a1,c1,es1,a1',c1',is1,M1⟩ ⟨hk,hgl,hl1,hes1,hg,hok1⟩;dsimp only at hk hgl hl1 hes1 hg hok1 ⊢
  by_cases hlt:k<es.length
  ·obtain ⟨e,he⟩:=mem_get hlt
   have hme:e∈es:=List.mem_of_getElem? he;obtain ⟨vs0,hlk1,hlk2⟩:=swF_at (s:=m) hok.k1 (hik k e he);have hvs0:vs0=e.vs.map OV.abs:=by
    have:=hok.chain hme;rw[hlk1] at this;exact Option.some.inj this
   subst hvs0;have hco:=hw.co _ (lk_memL hlk1);have hevl:e.vs.length≤n:=by have:=hco.2.1;simpa using this
   have hoe:=(hok.oe e hme).mono (hl0.trans hl1);have hcv:chV (((swIds st.ch).take k).foldl (sw1 m) (st.ch,[])).1 e.id=e.vs.map OV.abs:=by unfold chV;rw[hlk2];rfl
   have hstep:=foldl_take (sw1 m) (st.ch,[]) (hik k e he);have hrs:RdS (slO 245 2 a3 g.length c3 (g.flatMap gcells)::rP p st.dim a1 es1 c1 a1' is1 c1' m::roM M1::L) a5 es.length 2 (es.flatMap EV.cells):=(hs5.mono hl1).rd;obtain ⟨b,oo,hia,hr⟩:=RdS.elem (g:=EV.cells) (λ_=>rfl) hrs he rfl;clear hrs;rw[hia];refine Q.r ?_;(repeat (intro b1;refine Q.r ?_));refine S.cr rfl (RChSweep_spec e.a e.c e.vs m _ hoe.1.rd zo hco.1) ?_;rintro _ _ ⟨a4,c4,a6,c6,rfl,rfl⟩;obtain ⟨nn,hnn⟩:∃nn,nn=cutN (e.vs.map OV.abs) m:=⟨_,rfl⟩;have hnl:nn≤e.vs.length:=by rw[hnn];have:=cut_le (e.vs.map OV.abs) m;simpa using this
   rw[←hnn];refine opsS_addr a6 (λha6=> ?_);refine opsS_abs a4 (λM2 hl2 hs4=> ?_);refine Q.r ?_;obtain ⟨gi,hgi⟩:∃gi,gi=(e.vs.take nn).map (·.id):=⟨_,rfl⟩;have hgil:gi.length≤n:=by rw[hgi,List.length_map,List.length_take];omega
   rw[←hgi] at ha6 ⊢;refine swp_cutB (σ:=OA×Nat) (λu=> [(0,ptrV p),(1,.int .u64 m),(7,.pointer (some ⟨b1,0,none⟩)),(8,.slice a4 (e.vs.drop nn).length c4),(33,.slice (some ⟨b,oo,none⟩) es.length c5),(34,.int .i64 es.length),(5,.slice u.1 (g++gi.map λx=>(e.id,x)).length u.2),(35,.int .i64 k)])
    (λu=>rP p st.dim a1 es1 c1 a1' is1 c1' m::roM M2::slO 245 2 u.1 (g++gi.map λx=>(e.id,x)).length u.2 ((g++gi.map λx=>(e.id,x)).flatMap gcells)::pt b1 (cl e.cells 147)::L) (λ_=>True) ?_ ?_
   ·refine swp_loop (σ:=Nat×OA×Nat×GL) (λu=> [(0,ptrV p),(1,.int .u64 m),(7,.pointer (some ⟨b1,0,none⟩)),(8,.slice a4 (e.vs.drop nn).length c4),(33,.slice (some ⟨b,oo,none⟩) es.length c5),(34,.int .i64 es.length),(46,.slice a6 gi.length c6),(47,.int .i64 gi.length),(5,.slice u.2.1 u.2.2.2.length u.2.2.1),(35,.int .i64 k),(48,.int .i64 u.1)])
     (λu=>slO 31 1 a6 gi.length c6 (gi.map U64)::slO 245 2 u.2.1 u.2.2.2.length u.2.2.1 (u.2.2.2.flatMap gcells)::pt b1 (cl e.cells 147)::rP p st.dim a1 es1 c1 a1' is1 c1' m::roM M2::L)
     (λu=>u.1≤gi.length∧u.2.2.2=g++(gi.take u.1).map λx=>(e.id,x)) (λu=>gi.length - u.1) (0,a3,c3,g) zt (by (try dsimp only);exact eG) ⟨by dsimp only;omega,by simp⟩ ?_
    rintro ⟨j,a7,c7,g7⟩ ⟨hj,hg7⟩;dsimp only at hj hg7 ⊢;have hg7l:g7.length=g.length+min j gi.length:=by rw[hg7];simp
    by_cases hjl:j<gi.length
    ·obtain ⟨w,hwj⟩:=mem_get hjl
     rcases ha6 with ha6|⟨b6,rfl⟩
     ·omega
     have hrs:RdS (slO 31 1 (some ⟨b6,0,none⟩) gi.length c6 (gi.map U64)::slO 245 2 a7 g7.length c7 (g7.flatMap gcells)::pt b1 (cl e.cells 147)::rP p st.dim a1 es1 c1 a1' is1 c1' m::roM M2::L) (some ⟨b6,0,none⟩) gi.length 1 (gi.flatMap cU):=by
      rw[flat_U];exact RdS.ofS (by simp) (.inr ⟨b6,rfl⟩)
     obtain ⟨b',o',hbo,hr6⟩:=RdS.elem (g:=cU) (λ_=>rfl) hrs hwj rfl
     cases hbo
     clear hrs;refine Q.r ?_;(repeat (intro b1;refine Q.r ?_));refine S.app rfl rfl (SrcS.sl RdC.row zr zr) zr zo zo (λa8 c8=> ?_);refine Q.r ?_;refine ⟨(j+1,a8,c8,g7++[(e.id,w)]),⟨rfl,rfl,rfl,rfl,rfl,rfl,rfl,rfl,congrArg some (by simp),rfl,rfl,trivial⟩,?_,⟨by dsimp only;omega,?_⟩,by dsimp only;omega⟩
     ·dsimp only
      rw[len_snoc,flat_snoc];exact eG
     ·dsimp only
      rw[hg7,take_snoc hwj,List.map_append,List.append_assoc];rfl
    ·have hje:j=gi.length:=by omega
     subst hje;rw[List.take_length] at hg7;subst hg7;refine Q.r ?_;exact ⟨(a7,c7),zt,by exact eG,trivial⟩
   rintro ⟨a7,c7⟩ -;dsimp only;have hgg:((g++gi.map λx=>(e.id,x)):GL).length≤(k+1)*10000:=by
    rw[List.length_append,List.length_map];omega
   have hsw:(sw1 m (((swIds st.ch).take k).foldl (sw1 m) (st.ch,[])) e.id).2=g++gi.map λx=>(e.id,x):=by
    rw[sw1_g hcv,←hnn,←hg,hgi,←List.map_take,List.map_map,List.map_map];rfl
   have hkd:((e.vs.map OV.abs).drop nn).length=(e.vs.drop nn).length:=by simp
   refine Q.r ?_
   by_cases h0:(e.vs.drop nn).length=0
   ·rw[h0]
    refine S.cr rfl (RSet0_spec p st.dim a1 es1 c1 a1' is1 c1' m e.id a4 c4 M2 _ (hok1.sE.mono hl2) zo) ?_;rintro _ _ ⟨a9,c9,rfl,rfl⟩;refine opsS_cap a9 λhc9=>opsS_abs a9 λM3 hl3 hs9=> ?_
    have hun:=hok1.unset (hl2.trans hl3) e.id hs9 hc9;have hfl:=List.length_filter_le (λx:EV=> !decide (x.id=e.id)) es1;refine Q.r ?_;refine ⟨(k+1,a7,c7,g++gi.map (λx=>(e.id,x)),⟨a9,c9,es1.filter λx=> !decide (x.id=e.id),a1',c1',is1,M3⟩),zt,?_,⟨by dsimp only;omega,hgg,hl1.trans (hl2.trans hl3),by dsimp only;omega,?_,?_⟩,by dsimp only;omega⟩
    ·dsimp only
     exact eG
    ·dsimp only
     rw[hstep,hsw]
    ·dsimp only
     rw[hstep];have:(sw1 m (((swIds st.ch).take k).foldl (sw1 m) (st.ch,[])) e.id).1=delL (((swIds st.ch).take k).foldl (sw1 m) (st.ch,[])).1 e.id:=sw1_d hcv (by rw[←hnn,hkd];exact h0);rw[this];exact hun
   ·obtain ⟨nw,hnw⟩:∃nw:EV,nw=⟨e.id,a4,c4,e.vs.drop nn⟩:=⟨_,rfl⟩
    have hSet:=λA=>RSet_spec p st.dim a1 es1 c1 a1' is1 c1' m nw M2 A (hok1.sE.mono hl2) zo hok1.cs (by rw[hnw];dsimp only;omega)
    have hn1:nw.id=e.id:=by rw[hnw]
    have hn2:nw.a=a4:=by rw[hnw]
    have hn3:nw.c=c4:=by rw[hnw]
    have hn4:nw.vs=e.vs.drop nn:=by rw[hnw]
    rw[hn1,hn2,hn3,hn4] at hSet;refine S.cr rfl (hSet _) ?_;rintro _ _ ⟨a9,c9,rfl,rfl⟩;refine opsS_cap a9 λhc9=>opsS_abs a9 λM3 hl3 hs9=> ?_
    have hput:=hok1.put (hl2.trans hl3) (nw:=nw) (by rw[hnw];exact ⟨hs4.mono hl3,λu hu=>(hoe.2 u (List.mem_of_mem_drop hu)).mono (hl2.trans hl3)⟩) hs9 hc9;have hil2:=insE_len es1 nw;refine Q.r ?_;refine ⟨(k+1,a7,c7,g++gi.map (λx=>(e.id,x)),⟨a9,c9,insE es1 nw,a1',c1',is1,M3⟩),zt,?_,⟨by dsimp only;omega,hgg,hl1.trans (hl2.trans hl3),by dsimp only;omega,?_,?_⟩,by dsimp only;omega⟩
    ·dsimp only
     exact eG
    ·dsimp only
     rw[hstep,hsw]
    ·dsimp only
     rw[hstep];have:(sw1 m (((swIds st.ch).take k).foldl (sw1 m) (st.ch,[])) e.id).1=putL (((swIds st.ch).take k).foldl (sw1 m) (st.ch,[])).1 nw.id (nw.vs.map OV.abs):=by
      rw[sw1_p hcv (by rw[←hnn,hkd];exact h0),←hnn,hn1,hn4,List.map_drop]
     rw[this];exact hput
  ·have hke:k=es.length:=by omega
   subst hke;have hlen:es.length=(swIds st.ch).length:=by rw[hids];simp
   rw[hlen,List.take_length] at hok1 hg;rw[show (swF m (swIds st.ch) st.ch).2=g from hg.symm];refine Q.r ?_;exact ⟨(a3,c3),zt,Ent.cons (ref_shut hok1),trivial⟩
 rintro ⟨a3,c3⟩ -;dsimp only;refine Q.r ?_;exact N.t rfl (Ent.refl _) ⟨a3,c3,rfl,rfl⟩
structure DV where
 d:Int
 txn:Int
 after:Int
 a:OA
 c:Nat
 ops:List OV
 stamp:Int
 ask:Int
 id:Int
 ia:OA
 ic:Nat
 ids:List Int
abbrev DV.cells (o:DV):List Value:=[.int .u8 o.d,.int .u64 o.txn,.int .u64 o.after,.slice o.a o.ops.length o.c,.int .u64 o.stamp,.int .u64 o.ask,.int .u64 o.id,.slice o.ia o.ids.length o.ic]
abbrev DV.val (o:DV):Value:=.agg #[.int .u8 o.d,.int .u64 o.txn,.int .u64 o.after,.slice o.a o.ops.length o.c,.int .u64 o.stamp,.int .u64 o.ask,.int .u64 o.id,.slice o.ia o.ids.length o.ic]
def doS (st:VS)(o:DV):VS:=
 if o.d.tmod 9=4 then {st with its:=delL st.its o.txn}
 else if o.d.tmod 9=5∨o.d.tmod 9=6∨o.d.tmod 9=7 then applyS st o.txn o.stamp
 else if o.d.tmod 9=8 then sweepS st o.stamp
 else lockS st o.txn o.after (fewV 18 (o.ops.map OV.abs))
structure WFK (st:VS)(n:Nat):Prop where
 wf:WF st n
 k1:keysOK st.ch
 k2:keysOK st.its
theorem WF.mono {st:VS}{n m:Nat}(h:WF st n)(hm:n≤m):WF st m:=
 ⟨h.d1,h.d2,by have:=h.il;omega,h.io,by have:=h.cl;omega,λc hc=>⟨(h.co c hc).1,by have:=(h.co c hc).2.1;omega,(h.co c hc).2.2⟩⟩
theorem WFK.mono {st:VS}{n m:Nat}(h:WFK st n)(hm:n≤m):WFK st m:=⟨h.wf.mono hm,h.k1,h.k2⟩
theorem WFK.free {st:VS}{n:Nat}(h:WFK st n)(t:Int):WFK {st with its:=delL st.its t} n:=
 ⟨⟨h.wf.d1,h.wf.d2,by have:=h.wf.il;have e:=List.length_filter_le (λu:Int×Int×VL=> !decide (u.1=t)) st.its;exact Nat.le_trans e this,λi hi=>h.wf.io i (List.mem_filter.1 hi).1,h.wf.cl,h.wf.co⟩,h.k1,delL_ok h.k2 t⟩
theorem applyC_mem {s:Int}{c:Int×VL}:∀{ops:VL} {ch:List (Int×VL)},keysOK ch→(ops.map (·.1)).Nodup→c∈applyC s ch ops→c∈ch∨∃o∈ops,c=(o.1,chV ch o.1++[(s,o.2)])
 | [],_,_,_,h=>.inl h
 |o::ops,ch,hk,hn,h=>by
  simp only[List.map_cons,List.nodup_cons] at hn;have hput:∀c∈putC s ch o,c∈ch∨c=(o.1,chV ch o.1++[(s,o.2)]):=λc hc=>by
   unfold putC at hc
   rcases keyCase ch hk o.1 with ⟨p,b,q,rfl,hp,hq⟩|hno
   ·rw[putL_mid hp hq] at hc
    rcases List.mem_append.1 hc with hc|hc
    ·exact .inl (List.mem_append_left _ hc)
    rcases List.mem_cons.1 hc with hc|hc
    ·exact .inr hc
    ·exact .inl (List.mem_append_right _ (List.mem_cons_of_mem _ hc))
   ·rw[putL_none hno] at hc
    rcases List.mem_append.1 hc with hc|hc
    ·exact .inl hc
    ·exact .inr (List.mem_singleton.1 hc)
  rcases applyC_mem (s:=s) (ops:=ops) (putL_ok' hk s o) hn.2 h with h|⟨o',ho',h⟩
  ·rcases hput c h with h|h
   ·exact .inl h
   ·exact .inr ⟨o,by simp,h⟩
  ·refine .inr ⟨o',List.mem_cons_of_mem _ ho',?_⟩
   have hne:o'.1≠o.1:=λe=>hn.1 (by rw[←e];exact List.mem_map_of_mem ho')
   have:chV (putC s ch o) o'.1=chV ch o'.1:=by
    unfold chV putC;rw[lkL_put hk,if_neg hne]
   rw[h,this]
theorem WFK.apply {st:VS}{n:Nat}(h:WFK st n)(t s:Int):WFK (applyS st t s) (n+1):=by
 unfold applyS
 cases hl:lkL st.its t with
 |none=>exact h.mono zo
 |some i=>
  dsimp only
  by_cases hE:applyE st t s=0
  ·rw[if_pos hE]
   have hio:=h.wf.io _ (lk_memL hl);dsimp only at hio;have hany:∀o∈i.2,¬s≤lastS (chV st.ch o.1):=by
    unfold applyE at hE;rw[hl] at hE;dsimp only at hE
    by_cases h1:s=0∨1099511627776<s∨s≤i.1
    ·rw[if_pos h1] at hE;cases hE
    rw[if_neg h1] at hE
    by_cases h2:(i.2.any λo=>decide (s≤lastS (chV st.ch o.1)))=true
    ·rw[if_pos h2] at hE;cases hE
    ·intro o ho hh
     exact h2 (List.any_eq_true.2 ⟨o,ho,decide_eq_true hh⟩)
   refine ⟨⟨h.wf.d1,h.wf.d2,?_,λj hj=>h.wf.io j (List.mem_filter.1 hj).1,?_,λc hc=> ?_⟩,applyC_ok h.k1,delL_ok h.k2 t⟩
   ·have e:=List.length_filter_le (λu:Int×Int×VL=> !decide (u.1=t)) st.its
    have:=h.wf.il;have e2:(delL st.its t).length≤st.its.length:=e;dsimp only;omega
   ·have e:=applyC_len (s:=s) (ops:=i.2) h.k1
    have:=h.wf.cl;dsimp only;omega
   ·rcases applyC_mem h.k1 hio.2.1 hc with hc|⟨o,ho,rfl⟩
    ·have:=h.wf.co c hc
     exact ⟨this.1,by omega,this.2.2⟩
    ·have hcv:sortedV (chV st.ch o.1)∧(chV st.ch o.1).length≤n∧∀v∈chV st.ch o.1,v.2.length≤8:=by
      unfold chV
      cases hz:lkL st.ch o.1 with
      |none=>exact ⟨List.Pairwise.nil,Nat.zero_le _,by simp⟩
      |some w=>exact h.wf.co _ (lk_memL hz)
     have hla:=sorted_last hcv.1;have hs:=hany o ho;refine ⟨?_,by simp;omega,λv hv=> ?_⟩
     ·unfold sortedV at hcv ⊢
      rw[List.map_append,List.pairwise_append];refine ⟨hcv.1,by simp,λx hx y hy=> ?_⟩;obtain ⟨w,hw,rfl⟩:=List.mem_map.1 hx
      simp at hy
      subst hy;have:=hla w hw;omega
     ·rcases List.mem_append.1 hv with hv|hv
      ·exact hcv.2.2 v hv
      ·obtain rfl:=List.mem_singleton.1 hv
       exact (hio.2.2 o ho).1
  ·rw[if_neg hE];exact h.mono zo
theorem WFK.lock {st:VS}{n:Nat}(h:WFK st n)(t a:Int)(ops:VL):WFK (lockS st t a ops) (n+1):=by
 unfold lockS
 by_cases hE:lockE st t a ops=0
 ·rw[if_pos hE]
  unfold lockE at hE
  by_cases h1:1099511627776<a
  ·rw[if_pos h1] at hE;cases hE
  rw[if_neg h1] at hE
  by_cases h2:checkV st.dim ops≠0
  ·rw[if_pos h2] at hE;exact absurd hE h2
  rw[if_neg h2] at hE;have h2':checkV st.dim ops=0:=Decidable.not_not.1 h2
  by_cases h3:(lkL st.its t).isSome=true
  ·rw[if_pos h3] at hE;cases hE
  obtain ⟨_,_,c1,c2,c3,c4⟩:=check_ok h2';have hno:lkL st.its t=none:=by
   cases hz:lkL st.its t with
   |none=>rfl
   |some w=>rw[hz] at h3;exact absurd rfl h3
  refine ⟨⟨h.wf.d1,h.wf.d2,?_,λi hi=> ?_,by have:=h.wf.cl;dsimp only;omega,λc hc=> ?_⟩,h.k1,keys_snoc h.k2 _ hno⟩
  ·have:=h.wf.il
   simp;omega
  ·rcases List.mem_append.1 hi with hi|hi
   ·exact h.wf.io i hi
   ·obtain rfl:=List.mem_singleton.1 hi
    exact ⟨c2,c3,c4⟩
  ·have:=h.wf.co c hc
   exact ⟨this.1,by omega,this.2.2⟩
 ·rw[if_neg hE];exact h.mono zo
theorem sw1_keep {s:Int}{n b:Nat}{u:List (Int×VL)×GL}(hk:keysOK u.1)(hl:u.1.length≤b)(hco:∀c∈u.1,sortedV c.2∧c.2.length≤n∧∀v∈c.2,v.2.length≤8)(id:Int):
  (sw1 s u id).1.length≤b∧∀c∈(sw1 s u id).1,sortedV c.2∧c.2.length≤n∧∀v∈c.2,v.2.length≤8:=by
 unfold sw1;dsimp only
 by_cases h0:((chV u.1 id).drop (cutN (chV u.1 id) s)).length=0
 ·rw[if_pos h0]
  refine ⟨Nat.le_trans (List.length_filter_le (λx:Int×VL=> !decide (x.1=id)) u.1) hl,λc hc=>hco c (List.mem_filter.1 hc).1⟩
 ·rw[if_neg h0]
  generalize cutN (chV u.1 id) s=k at h0 ⊢
  cases hz:lkL u.1 id with
  |none=>
   exfalso
   apply h0;unfold chV;rw[hz];simp
  |some vs=>
   have hcv:chV u.1 id=vs:=by unfold chV;rw[hz];rfl
   have hm:=hco _ (lk_memL hz);rw[hcv]
   rcases keyCase u.1 hk id with ⟨p,w,q,e,hp,hq⟩|hno
   ·rw[e,putL_mid hp hq]
    refine ⟨by rw [e] at hl;simpa using hl,fun c hc => ?_⟩;have hsub : ∀ c,c ∈ p ∨ c ∈ q → sortedV c.2 ∧ c.2.length ≤ n ∧ ∀ v ∈ c.2,v.2.length ≤ 8 := fun c hc => hco c (by
     rw[e]
     rcases hc with hc|hc
     ·exact List.mem_append_left _ hc
     ·exact List.mem_append_right _ (List.mem_cons_of_mem _ hc))
    rcases List.mem_append.1 hc with hc|hc
    ·exact hsub c (.inl hc)
    rcases List.mem_cons.1 hc with rfl|hc
    ·refine ⟨?_,?_,λv hv=>hm.2.2 v (List.mem_of_mem_drop hv)⟩
     ·have:=hm.1
      unfold sortedV at this ⊢;rw[List.map_drop];exact this.sublist (List.drop_sublist _ _)
     ·have:=hm.2.1
      dsimp only at this ⊢;rw[List.length_drop];omega
    ·exact hsub c (.inr hc)
   ·rw[lkL_none hno] at hz;cases hz
theorem swF_keep {s:Int}{n b:Nat}:∀{ks:List Int} {u:List (Int×VL)×GL},keysOK u.1→u.1.length≤b→(∀c∈u.1,sortedV c.2∧c.2.length≤n∧∀v∈c.2,v.2.length≤8)→
  (ks.foldl (sw1 s) u).1.length≤b∧∀c∈(ks.foldl (sw1 s) u).1,sortedV c.2∧c.2.length≤n∧∀v∈c.2,v.2.length≤8
 | [],_,_,hl,hc=>⟨hl,hc⟩
 |k::ks,u,hk,hl,hc=>by
  have:=sw1_keep (s:=s) hk hl hc k;exact swF_keep (ks:=ks) (sw1_ok hk k) this.1 this.2
theorem WFK.sweep {st:VS}{n:Nat}(h:WFK st n)(s:Int):WFK (sweepS st s) n:=by
 unfold sweepS
 by_cases h1:min s 1099511627776≤st.mark
 ·rw[if_pos h1];exact h
 ·rw[if_neg h1]
  have hk:=swF_keep (s:=min s 1099511627776) (n:=n) (b:=16*n) (ks:=swIds st.ch) (u:=(st.ch,[])) h.k1 h.wf.cl h.wf.co;exact ⟨⟨h.wf.d1,h.wf.d2,h.wf.il,h.wf.io,hk.1,hk.2⟩,swF_ok (u:=(st.ch,[])) h.k1,h.k2⟩
structure HV where
 id:Int
 dist:Int
 a:OA
 c:Nat
 vec:List Int
abbrev HV.cells (h:HV):List Value:=[.int .u64 h.id,.int .u64 h.dist,.slice h.a h.vec.length h.c]
abbrev I64 :Int→Value:=Value.int .i64
abbrev HV.val (h:HV):Value:=.agg #[.int .u64 h.id,.int .u64 h.dist,.slice h.a h.vec.length h.c]
abbrev HV.abs (h:HV):Int×Int×List Int:=(h.id,h.dist,h.vec)
structure NV where
 kind:Int
 txn:Int
 batch:Int
 stamp:Int
 after:Int
 mark:Int
 query:Int
 id:Int
 k:Int
 ef:Int
 code:Int
 who:Int
 pa:OA
 pc:Nat
 parts:List Int
 oa:OA
 oc:Nat
 ops:List OV
 va:OA
 vc:Nat
 vec:List Int
 ha:OA
 hc:Nat
 hits:List HV
abbrev NV.cells (n:NV):List Value:=[.int .u8 n.kind,.int .u64 n.txn,.int .u64 n.batch,.int .u64 n.stamp,.int .u64 n.after,.int .u64 n.mark,.int .u64 n.query,.int .u64 n.id,.int .i64 n.k,.int .i64 n.ef,.int .i64 n.code,.int .i64 n.who,
 .slice n.pa n.parts.length n.pc,.slice n.oa n.ops.length n.oc,.slice n.va n.vec.length n.vc,.slice n.ha n.hits.length n.hc]
abbrev NV.val (n:NV):Value:=.agg #[.int .u8 n.kind,.int .u64 n.txn,.int .u64 n.batch,.int .u64 n.stamp,.int .u64 n.after,.int .u64 n.mark,.int .u64 n.query,.int .u64 n.id,.int .i64 n.k,.int .i64 n.ef,.int .i64 n.code,.int .i64 n.who,
 .slice n.pa n.parts.length n.pc,.slice n.oa n.ops.length n.oc,.slice n.va n.vec.length n.vc,.slice n.ha n.hits.length n.hc]
def NV.bits (n:NV):List Bool:=[decide (0<n.txn),decide (0<n.batch),decide (0<n.stamp),decide (0<n.after),decide (0<n.mark),decide (0<n.query),decide (0<n.id),!decide (n.k=0),!decide (n.ef=0),!decide (n.code=0),!decide (n.who=0),decide (0<(n.parts.length:Int)),decide (0<(n.ops.length:Int)),decide (0<(n.vec.length:Int)),decide (0<(n.hits.length:Int))]
structure NA where
 kind:Int
 txn:Int
 batch:Int
 stamp:Int
 after:Int
 mark:Int
 query:Int
 id:Int
 k:Int
 ef:Int
 code:Int
 who:Int
 parts:List Int
 ops:VL
 vec:List Int
 hits:List (Int×Int×List Int)
abbrev NA.zero :NA:=⟨0,0,0,0,0,0,0,0,0,0,0,0,[],[],[],[]⟩
def NA.bits (n:NA):List Bool:=[decide (0<n.txn),decide (0<n.batch),decide (0<n.stamp),decide (0<n.after),decide (0<n.mark),decide (0<n.query),decide (0<n.id),!decide (n.k=0),!decide (n.ef=0),!decide (n.code=0),!decide (n.who=0),decide (0<(n.parts.length:Int)),decide (0<(n.ops.length:Int)),decide (0<(n.vec.length:Int)),decide (0<(n.hits.length:Int))]
def fldN :Nat→Nat
 |1=>4098|2=>518|3=>6153|4=>513|5=>517|6=>1|7=>1|8=>8672|9=>8692|10=>16928|11=>16932|12=>6153|13=>5|14=>1|15=>16|16=>16|17=>2055|18=>1|19=>7179|20=>1025|21=>1025|22=>1|_=>0
def bareV (v:List Int):Bool:=decide (v.length=0)||rightV v
def badOp (o:Int×List Int):Bool:=decide (1099511627776<o.1)|| !bareV o.2
def badHit (h:Int×Int×List Int):Bool:=decide (1099511627776<h.1)|| !rightV h.2.2
def okP (l:List Int)(k:Nat):Bool:=decide (0≤l.getD k 0)&&decide (l.getD k 0<16)&&(decide (k=0)||decide (l.getD (k - 1) 0<l.getD k 0))
def partsV (l:List Int):Bool:=(List.range l.length).all (okP l)
def boundN (n:NA):Bool:=
 !(decide (1099511627776<max (max n.stamp n.after) n.mark)||decide (1099511627776<n.id)||decide (min (min (min n.k n.ef) n.who) n.code<0)||decide (16<n.k)||decide (256<n.ef)||decide (16≤n.who)||decide (13<n.code))&&
 !(decide (4<n.parts.length)||decide (16<n.ops.length)||decide (16<n.hits.length)|| !bareV n.vec)&&partsV n.parts&& !n.ops.any badOp&& !n.hits.any badHit
def rightN (n:NA):Bool:=decide (1≤n.kind∧n.kind≤22)&&(n.bits.zipIdx.all λb=> !b.1||(fldN n.kind.toNat).testBit b.2)&&boundN n
abbrev NV.abs (n:NV):NA:=⟨n.kind,n.txn,n.batch,n.stamp,n.after,n.mark,n.query,n.id,n.k,n.ef,n.code,n.who,n.parts,n.ops.map OV.abs,n.vec,n.hits.map HV.abs⟩
theorem NV.bits_abs (n:NV):n.abs.bits=n.bits:=by unfold NA.bits NV.bits;simp
structure RdN (A:HL)(n:NV):Prop where
 p:RdS A n.pa n.parts.length 1 (n.parts.map I64)
 o:RdO A n.oa n.ops
 v:RdS A n.va n.vec.length 1 (n.vec.map I32)
 h:RdS A n.ha n.hits.length 3 (n.hits.flatMap HV.cells)
 hv:∀h∈n.hits,RdS A h.a h.vec.length 1 (h.vec.map I32)
theorem RdN.sub {A L:HL}{n:NV}(h:RdN A n)[s:Sub A L]:RdN L n:=⟨h.p.sub,h.o.sub,h.v.sub,h.h.sub,λx hx=>(h.hv x hx).sub⟩
structure OkN (n:NV):Prop where
 p:n.parts.length≤1000000
 o:n.ops.length≤1000000
 ov:∀o∈n.ops,o.vec.length≤1000000
 v:n.vec.length≤1000000
 h:n.hits.length≤1000000
 hv:∀h∈n.hits,h.vec.length≤1000000
def bitsN :List Bool→Nat
 | []=>0
 |b::l=>(if b then 1 else 0)+2*bitsN l
theorem fit15 (b0 b1 b2 b3 b4 b5 b6 b7 b8 b9 b10 b11 b12 b13 b14:Bool):fitsL (rowL 1 15) (15*1) (cellsOf [(0,Value.bool b0),(1,Value.bool b1),(2,Value.bool b2),(3,Value.bool b3),(4,Value.bool b4),(5,Value.bool b5),(6,Value.bool b6),(7,Value.bool b7),(8,Value.bool b8),(9,Value.bool b9),(10,Value.bool b10),(11,Value.bool b11),(12,Value.bool b12),(13,Value.bool b13),(14,Value.bool b14)])=true:=by rfl
theorem fill15 (b0 b1 b2 b3 b4 b5 b6 b7 b8 b9 b10 b11 b12 b13 b14:Bool):fillL (rowL 1 15) [Value.bool false,Value.bool false,Value.bool false,Value.bool false,Value.bool false,Value.bool false,Value.bool false,Value.bool false,Value.bool false,Value.bool false,Value.bool false,Value.bool false,Value.bool false,Value.bool false,Value.bool false] (cellsOf [(0,Value.bool b0),(1,Value.bool b1),(2,Value.bool b2),(3,Value.bool b3),(4,Value.bool b4),(5,Value.bool b5),(6,Value.bool b6),(7,Value.bool b7),(8,Value.bool b8),(9,Value.bool b9),(10,Value.bool b10),(11,Value.bool b11),(12,Value.bool b12),(13,Value.bool b13),(14,Value.bool b14)])=[Value.bool b0,Value.bool b1,Value.bool b2,Value.bool b3,Value.bool b4,Value.bool b5,Value.bool b6,Value.bool b7,Value.bool b8,Value.bool b9,Value.bool b10,Value.bool b11,Value.bool b12,Value.bool b13,Value.bool b14]:=by kernel_rfl
section
variable {P : Program} {n : Nat} {ops : List Oper} {f : Env} {A : HL} {d : Tmp} {ty : TypeId} {pos : String} {af : Array Edge}
theorem Y.ixa {x y:Operand}{t e:TypeId}{len bts i:Nat}{k:IntKind}{zs:List Value}{cs:Array Value}{v:Value}[h:ArrTy P t len e][h2:Ty P e false 1 zs bts](hx:ev f x=some (.agg cs))(hy:ev f y=some (.int k (i:Int)))(hi:i<len)(hv:cs[i]? =some v):
  YieldS P n ops ⟨some d,.index t x y,ty,pos,af,none⟩ f A v:=
 Y.of (fun _ w s => by
  have e1:(0:Int)≤(i:Int)∧(i:Int)<(len:Int):=⟨by omega,by omega⟩
  simp[execOp,s.eval hx,s.eval hy,Instr.index,asIntOf,h.und,e1,part,h2.agg,h2.size,hv,hi])
theorem Y.or {x y:Operand}{t t':TypeId}{k:IntKind}{a b:Int}(hx:ev f x=some (.int k a))(hy:ev f y=some (.int k b)):YieldS P n ops ⟨some d,.binOp .or t x y t',ty,pos,af,none⟩ f A ((.int k (k.wrap ((BitVec.ofInt k.bits a)|||(BitVec.ofInt k.bits b)).toNat))):=  Y.of (λ_ w s=>by simp[execOp,s.eval hx,s.eval hy,eqGuard,binOp,Op.intBits])
theorem Y.andNot {x y:Operand}{t t':TypeId}{k:IntKind}{a b:Int}(hx:ev f x=some (.int k a))(hy:ev f y=some (.int k b)):YieldS P n ops ⟨some d,.binOp .andNot t x y t',ty,pos,af,none⟩ f A ((.int k (k.wrap ((BitVec.ofInt k.bits a)&&& ~~~(BitVec.ofInt k.bits b)).toNat))):=  Y.of (λ_ w s=>by simp[execOp,s.eval hx,s.eval hy,eqGuard,binOp,Op.intBits])
end
theorem or_wrap {a i:Nat}(ha:a<2^i)(hi:i<15):IntKind.i64.wrap (((BitVec.ofInt IntKind.i64.bits (a:Int))|||(BitVec.ofInt IntKind.i64.bits (IntKind.i64.wrap ((1*2^i:Nat):Int)))).toNat:Int)=((a+2^i:Nat):Int):=by
 have hp:2^i≤2^14:=Nat.pow_le_pow_right zo zo;have e0:∀x:Nat,x<1000000→IntKind.i64.wrap (x:Int)=(x:Int):=λx hx=>wrap_i64 zo zo
 have e:∀x:Nat,x<18446744073709551616→(BitVec.ofInt IntKind.i64.bits (x:Int)).toNat=x:=λx hx=>by
  show (BitVec.ofInt 64 (x:Int)).toNat=x
  simp;omega
 have e2:IntKind.i64.wrap ((1*2^i:Nat):Int)=((1*2^i:Nat):Int):=e0 _ zo;rw[e2,BitVec.toNat_or,e _ zo,e _ zo,Nat.one_mul];have h:=Nat.two_pow_add_eq_or_of_lt ha 1;rw[Nat.mul_one,Nat.or_comm] at h;rw[←h,e0 _ zo,Nat.add_comm]
theorem bitsN_lt :∀l:List Bool,bitsN l<2^l.length
 | []=>by simp[bitsN]
 |b::l=>by
  have:=bitsN_lt l;rw[List.length_cons,Nat.pow_succ];unfold bitsN
  cases b<;>simp<;>omega
theorem bitsN_snoc (b:Bool):∀l:List Bool,bitsN (l++[b])=bitsN l+(if b then 2^l.length else 0)
 | []=>by cases b<;>simp[bitsN]
 |c::l=>by
  have:=bitsN_snoc b l;rw[List.cons_append,List.length_cons,Nat.pow_succ];unfold bitsN;rw[this]
  cases b<;>simp<;>omega
theorem held_spec (n:NV)(L:HL):CallsS Tryz.prog 127 [n.val] L (λr L'=>r=.int .i64 (bitsN n.bits)∧L'=L):=by
 refine CallsS.of_body Tryz.func127 rfl rfl rfl ?_
 iterate 60 (first|(refine GQ.y ?_;refine Q.y ?_)|refine Q.go ?_|(refine GQ.g ?_;refine Q.gq ?_)|(refine GQ.s ?_;refine Q.st ?_)|(refine GQ.a ?_;refine Q.al (λb1=> ?_)))
 iterate 3 (first|(refine GQ.y ?_;refine Q.y ?_)|refine Q.go ?_|(refine GQ.g ?_;refine Q.gq ?_)|(refine GQ.s ?_;refine Q.st ?_)|(refine GQ.a ?_;refine Q.al (λb1=> ?_)))
 refine S.y (Y.bda (l:=[_,_,_,_,_,_,_,_,_,_,_,_,_,_,_]) (cs:=n.bits.map Value.bool) rfl rfl (fit15 _ _ _ _ _ _ _ _ _ _ _ _ _ _ _) (fill15 _ _ _ _ _ _ _ _ _ _ _ _ _ _ _)) ?_;refine Q.r ?_;have hlen:n.bits.length=15:=rfl;refine swp_loop (σ:=Nat) (λs=> [(1,.pointer (some ⟨b1,0,none⟩)),(55,.agg (n.bits.map Value.bool).toArray),(3,.int .i64 (bitsN (n.bits.take s))),(56,.int .i64 s)])
  (λ_=>pt b1 (cl n.cells 53)::L) (λs=>s≤15) (λs=>15 - s) 0 zt (Ent.refl _) zo ?_
 intro k hk
 by_cases hlt:k<15
 ·obtain ⟨b,hb⟩:=mem_get (l:=n.bits) (by rw[hlen];exact hlt)
  have hv:(n.bits.map Value.bool).toArray[k]? =some (.bool b):=by simp[hb]
  have htk:n.bits.take (k+1)=n.bits.take k++[b]:=take_snoc hb;have hl:bitsN (n.bits.take k)<2^k:=by
   have:=bitsN_lt (n.bits.take k);rw[List.length_take,hlen,Nat.min_eq_left zo] at this;exact this
  have hs:=bitsN_snoc b (n.bits.take k);rw[←htk,List.length_take,hlen,Nat.min_eq_left zo] at hs;refine Q.r ?_;refine S.y (Y.ixa rfl rfl hlt hv) ?_
  cases b with
  |true=>
   refine Q.r ?_;refine S.y (Y.shl (a:=1) rfl rfl (by show k≤64;omega)) ?_;refine Q.r ?_;refine S.y (Y.or rfl rfl) ?_;rw[or_wrap hl hlt];refine Q.r ?_;exact ⟨k+1,⟨rfl,rfl,congrArg some (congrArg (λz:Nat=>Value.int .i64 (z:Int)) hs.symm),rfl,trivial⟩,Ent.refl _,by omega,by omega⟩
  |false=>
   refine Q.r ?_;exact ⟨k+1,⟨rfl,rfl,congrArg some (congrArg (λz:Nat=>Value.int .i64 (z:Int)) hs.symm),rfl,trivial⟩,Ent.refl _,by omega,by omega⟩
 ·have:k=15:=by omega
  subst this;refine Q.r ?_;exact N.t rfl (Ent.drop (Ent.refl _)) ⟨rfl,rfl⟩
theorem IdxH_spec (f:FuncId)(fs cs:List Value)[he:Enters Tryz.prog f](p:HV→Bool)(a:OA)(c:Nat)(xs:List HV)(A:HL)(h:RdS A a xs.length 3 (xs.flatMap HV.cells))(hn:xs.length≤4611686018427387904)
  (hf:∀x∈xs,CallsS Tryz.prog f (fs++[HV.val x]++cs) A (λv L'=>v=.bool (p x)∧L'=A)):
  CallsS Tryz.prog 175 [.slice a xs.length c,.func (.func f) fs.toArray cs.toArray] A (λv L'=>(∃i:Int,v=.int .i64 i∧decide (0≤i)=xs.any p)∧L'=A):=by
 refine CallsS.of_body Tryz.func175 rfl rfl rfl ?_;refine Q.r ?_;refine swp_loop (σ:=Nat) (λk=> [(0,.slice a xs.length c),(1,.func (.func f) fs.toArray cs.toArray),(7,.int .i64 xs.length),(8,.int .i64 k)]) (λ_=>A)
  (λk=>k≤xs.length∧(xs.take k).any p=false) (λk=>xs.length - k) 0 zt (Ent.refl _) ⟨by omega,by simp⟩ ?_
 rintro k ⟨hk,hany⟩
 by_cases hlt:k<xs.length
 ·obtain ⟨x,hx⟩:=mem_get hlt
  obtain ⟨b,o,rfl,hr⟩:=RdS.elem (g:=HV.cells) (λ_=>rfl) h hx rfl;have hmx:x∈xs:=List.mem_of_getElem? hx;refine Q.r ?_;refine S.crF (fs:=fs) (cs:=cs) rfl rfl (hf x hmx) ?_;rintro _ _ ⟨rfl,rfl⟩
  cases hp:p x with
  |true=>
   refine Q.r ?_;exact N.t rfl (Ent.refl _) ⟨⟨_,rfl,by rw[show xs.any p=true from List.any_eq_true.2 ⟨x,hmx,hp⟩];simp⟩,rfl⟩
  |false=>
   refine Q.r ?_;refine ⟨k+1,zt,Ent.refl _,⟨by omega,?_⟩,by omega⟩;rw[take_snoc hx,List.any_append,hany]<;>simp[hp]
 ·have hke:k=xs.length:=by omega
  subst hke;rw[List.take_length] at hany;refine Q.r ?_;exact N.t rfl (Ent.refl _) ⟨⟨_,rfl,by rw[hany]<;>rfl⟩,rfl⟩
theorem HasH_spec (f:FuncId)(fs cs:List Value)[he:Enters Tryz.prog f](p:HV→Bool)(a:OA)(c:Nat)(xs:List HV)(A:HL)(h:RdS A a xs.length 3 (xs.flatMap HV.cells))(hn:xs.length≤4611686018427387904)
  (hf:∀x∈xs,CallsS Tryz.prog f (fs++[HV.val x]++cs) A (λv L'=>v=.bool (p x)∧L'=A)):
  CallsS Tryz.prog 159 [.slice a xs.length c,.func (.func f) fs.toArray cs.toArray] A (λv L'=>v=.bool (xs.any p)∧L'=A):=by
 refine CallsS.of_body Tryz.func159 rfl rfl rfl ?_;refine Q.r ?_;refine S.cr rfl (IdxH_spec f fs cs p a c xs A h hn hf) ?_;rintro _ _ ⟨⟨i,rfl,hi⟩,rfl⟩;refine Q.r ?_;exact N.t rfl (Ent.refl _) ⟨by rw[←hi],rfl⟩
theorem flat_I64 (xs:List Int):xs.flatMap (λz=> [I64 z])=xs.map I64:=by induction xs with
 |nil=>rfl
 |cons x xs ih=>rw[List.flatMap_cons,ih];rfl
theorem bare_spec (a:OA)(c:Nat)(xs:List Int)(A:HL)(h:RdS A a xs.length 1 (xs.map I32))(hn:xs.length≤1000000):
  CallsS Tryz.prog 156 [.slice a xs.length c] A (λr L'=>r=.bool (bareV xs)∧L'=A):=by
 unfold bareV;refine CallsS.of_body Tryz.func156 rfl rfl rfl ?_
 by_cases h0:xs.length=0
 ·refine Q.r ?_
  exact N.t rfl (Ent.refl _) ⟨by simp[h0],rfl⟩
 ·refine Q.r ?_
  refine S.cr rfl (Right_spec a c xs _ h.sub zo) ?_;rintro _ _ ⟨rfl,rfl⟩;refine Q.r ?_;exact N.t rfl (Ent.refl _) ⟨by simp[h0],rfl⟩
theorem bad1_spec (o:OV)(A:HL)(h:RdS A o.a o.vec.length 1 (o.vec.map I32))(hn:o.vec.length≤1000000):
  CallsS Tryz.prog 158 ([]++[o.val]++[]) A (λr L'=>r=.bool (badOp o.abs)∧L'=A):=by
 unfold badOp;refine CallsS.of_body Tryz.func158 rfl rfl rfl ?_
 by_cases h0:1099511627776<o.id
 ·refine Q.r ?_;(repeat (intro b1;refine Q.r ?_))
  exact N.t rfl (Ent.drop (Ent.refl _)) ⟨by simp[h0],rfl⟩
 ·refine Q.r ?_;(repeat (intro b1;refine Q.r ?_))
  refine S.cr rfl (bare_spec o.a o.c o.vec _ h.sub hn) ?_;rintro _ _ ⟨rfl,rfl⟩;refine Q.r ?_;exact N.t rfl (Ent.drop (Ent.refl _)) ⟨by simp[h0],rfl⟩
theorem bad2_spec (o:HV)(A:HL)(h:RdS A o.a o.vec.length 1 (o.vec.map I32))(hn:o.vec.length≤1000000):
  CallsS Tryz.prog 160 ([]++[o.val]++[]) A (λr L'=>r=.bool (badHit o.abs)∧L'=A):=by
 unfold badHit;refine CallsS.of_body Tryz.func160 rfl rfl rfl ?_
 by_cases h0:1099511627776<o.id
 ·refine Q.r ?_;(repeat (intro b1;refine Q.r ?_))
  exact N.t rfl (Ent.drop (Ent.refl _)) ⟨by simp[h0],rfl⟩
 ·refine Q.r ?_;(repeat (intro b1;refine Q.r ?_))
  refine S.cr rfl (Right_spec o.a o.c o.vec _ h.sub zo) ?_;rintro _ _ ⟨rfl,rfl⟩;refine Q.r ?_;exact N.t rfl (Ent.drop (Ent.refl _)) ⟨by simp[h0],rfl⟩
section
variable {P : Program} {n : Nat} {ops : List Oper} {f : Env} {A : HL} {d : Tmp} {ty : TypeId} {pos : String} {af : Array Edge}
theorem Y.max3 {x y z:Operand}{t t' t2:TypeId}{k:IntKind}{a b c:Int}(hx:ev f x=some (.int k a))(hy:ev f y=some (.int k b))(hz:ev f z=some (.int k c)):
  YieldS P n ops ⟨some d,.call ⟨.builtin .max,#[x,y,z],#[t,t',t2]⟩,ty,pos,af,none⟩ f A (.int k (Max.max (Max.max a b) c)):=
 Y.of λac w s=>by
  have h:∀a b:Int,Max.max a b=if a<b then b else a:=λa b=>by simp only[Int.max_def];split<;>split<;>omega
  simp[execOp,resolve,invoke,s.eval hx,s.eval hy,s.eval hz,builtin,Builtin.max_,Builtin.max2,h]
theorem Y.min4 {x y z u:Operand}{t t' t2 t3:TypeId}{k:IntKind}{a b c e:Int}(hx:ev f x=some (.int k a))(hy:ev f y=some (.int k b))(hz:ev f z=some (.int k c))(hu:ev f u=some (.int k e)):
  YieldS P n ops ⟨some d,.call ⟨.builtin .min,#[x,y,z,u],#[t,t',t2,t3]⟩,ty,pos,af,none⟩ f A (.int k (Min.min (Min.min (Min.min a b) c) e)):=
 Y.of λac w s=>by
  have h:∀a b:Int,Min.min a b=if b<a then b else a:=λa b=>by simp only[Int.min_def];split<;>split<;>omega
  simp[execOp,resolve,invoke,s.eval hx,s.eval hy,s.eval hz,s.eval hu,builtin,Builtin.min_,Builtin.min2,h]
end
theorem bounded_spec (n:NV)(A:HL)(h:RdN A n)(hk:OkN n):
  CallsS Tryz.prog 128 [n.val] A (λr L'=>r=.bool (boundN n.abs)∧L'=A):=by
 have hE : boundN n.abs = (!(decide (1099511627776 < max (max n.stamp n.after) n.mark) || decide (1099511627776 < n.id) || decide (min (min (min n.k n.ef) n.who) n.code < 0) || decide (16 < n.k) || decide (256 < n.ef) || decide (16 ≤ n.who) || decide (13 < n.code)) &&
   !(decide (4<n.parts.length)||decide (16<n.ops.length)||decide (16<n.hits.length)|| !bareV n.vec)&&partsV n.parts&& !(n.ops.any λo=>badOp o.abs)&& !(n.hits.any λo=>badHit o.abs)):=by
  unfold boundN;simp[List.any_map];rfl
 rw[hE];clear hE;refine CallsS.of_body Tryz.func128 rfl rfl rfl ?_
 by_cases a1:1099511627776<max (max n.stamp n.after) n.mark
 ·refine Q.r ?_;(repeat (intro b1;refine Q.r ?_));refine S.y (Y.max3 rfl rfl rfl) ?_;(refine Q.r ?_)
  exact N.t rfl (Ent.drop (Ent.refl _)) ⟨by simp only[decide_eq_true a1,Bool.or_true,Bool.true_or,Bool.or_false,Bool.false_or,Bool.not_true,Bool.not_false,Bool.false_and,Bool.and_false,Bool.true_and,Bool.and_true],rfl⟩
 by_cases a2:1099511627776<n.id
 ·refine Q.r ?_;(repeat (intro b1;refine Q.r ?_));refine S.y (Y.max3 rfl rfl rfl) ?_;(refine Q.r ?_)
  exact N.t rfl (Ent.drop (Ent.refl _)) ⟨by simp only[decide_eq_true a2,Bool.or_true,Bool.true_or,Bool.or_false,Bool.false_or,Bool.not_true,Bool.not_false,Bool.false_and,Bool.and_false,Bool.true_and,Bool.and_true],rfl⟩
 by_cases a3:min (min (min n.k n.ef) n.who) n.code<0
 ·refine Q.r ?_;(repeat (intro b1;refine Q.r ?_));refine S.y (Y.max3 rfl rfl rfl) ?_;(refine Q.r ?_);refine S.y (Y.min4 rfl rfl rfl rfl) ?_;(refine Q.r ?_)
  exact N.t rfl (Ent.drop (Ent.refl _)) ⟨by simp only[decide_eq_true a3,Bool.or_true,Bool.true_or,Bool.or_false,Bool.false_or,Bool.not_true,Bool.not_false,Bool.false_and,Bool.and_false,Bool.true_and,Bool.and_true],rfl⟩
 by_cases a4:16<n.k
 ·refine Q.r ?_;(repeat (intro b1;refine Q.r ?_));refine S.y (Y.max3 rfl rfl rfl) ?_;(refine Q.r ?_);refine S.y (Y.min4 rfl rfl rfl rfl) ?_;(refine Q.r ?_)
  exact N.t rfl (Ent.drop (Ent.refl _)) ⟨by simp only[decide_eq_true a4,Bool.or_true,Bool.true_or,Bool.or_false,Bool.false_or,Bool.not_true,Bool.not_false,Bool.false_and,Bool.and_false,Bool.true_and,Bool.and_true],rfl⟩
 by_cases a5:256<n.ef
 ·refine Q.r ?_;(repeat (intro b1;refine Q.r ?_));refine S.y (Y.max3 rfl rfl rfl) ?_;(refine Q.r ?_);refine S.y (Y.min4 rfl rfl rfl rfl) ?_;(refine Q.r ?_)
  exact N.t rfl (Ent.drop (Ent.refl _)) ⟨by simp only[decide_eq_true a5,Bool.or_true,Bool.true_or,Bool.or_false,Bool.false_or,Bool.not_true,Bool.not_false,Bool.false_and,Bool.and_false,Bool.true_and,Bool.and_true],rfl⟩
 by_cases a6:16≤n.who
 ·refine Q.r ?_;(repeat (intro b1;refine Q.r ?_));refine S.y (Y.max3 rfl rfl rfl) ?_;(refine Q.r ?_);refine S.y (Y.min4 rfl rfl rfl rfl) ?_;(refine Q.r ?_)
  exact N.t rfl (Ent.drop (Ent.refl _)) ⟨by simp only[decide_eq_true a6,Bool.or_true,Bool.true_or,Bool.or_false,Bool.false_or,Bool.not_true,Bool.not_false,Bool.false_and,Bool.and_false,Bool.true_and,Bool.and_true],rfl⟩
 by_cases a7:13<n.code
 ·refine Q.r ?_;(repeat (intro b1;refine Q.r ?_));refine S.y (Y.max3 rfl rfl rfl) ?_;(refine Q.r ?_);refine S.y (Y.min4 rfl rfl rfl rfl) ?_;(refine Q.r ?_)
  exact N.t rfl (Ent.drop (Ent.refl _)) ⟨by simp only[decide_eq_true a7,Bool.or_true,Bool.true_or,Bool.or_false,Bool.false_or,Bool.not_true,Bool.not_false,Bool.false_and,Bool.and_false,Bool.true_and,Bool.and_true],rfl⟩
 by_cases q1:4<n.parts.length
 ·refine Q.r ?_;(repeat (intro b1;refine Q.r ?_));refine S.y (Y.max3 rfl rfl rfl) ?_;(refine Q.r ?_);refine S.y (Y.min4 rfl rfl rfl rfl) ?_;(refine Q.r ?_)
  exact N.t rfl (Ent.drop (Ent.refl _)) ⟨by simp only[decide_eq_true q1,Bool.or_true,Bool.true_or,Bool.or_false,Bool.false_or,Bool.not_true,Bool.not_false,Bool.false_and,Bool.and_false,Bool.true_and,Bool.and_true],rfl⟩
 by_cases q2:16<n.ops.length
 ·refine Q.r ?_;(repeat (intro b1;refine Q.r ?_));refine S.y (Y.max3 rfl rfl rfl) ?_;(refine Q.r ?_);refine S.y (Y.min4 rfl rfl rfl rfl) ?_;(refine Q.r ?_)
  exact N.t rfl (Ent.drop (Ent.refl _)) ⟨by simp only[decide_eq_true q2,Bool.or_true,Bool.true_or,Bool.or_false,Bool.false_or,Bool.not_true,Bool.not_false,Bool.false_and,Bool.and_false,Bool.true_and,Bool.and_true],rfl⟩
 by_cases q3:16<n.hits.length
 ·refine Q.r ?_;(repeat (intro b1;refine Q.r ?_));refine S.y (Y.max3 rfl rfl rfl) ?_;(refine Q.r ?_);refine S.y (Y.min4 rfl rfl rfl rfl) ?_;(refine Q.r ?_)
  exact N.t rfl (Ent.drop (Ent.refl _)) ⟨by simp only[decide_eq_true q3,Bool.or_true,Bool.true_or,Bool.or_false,Bool.false_or,Bool.not_true,Bool.not_false,Bool.false_and,Bool.and_false,Bool.true_and,Bool.and_true],rfl⟩
 refine Q.r ?_;(repeat (intro b1;refine Q.r ?_));refine S.y (Y.max3 rfl rfl rfl) ?_;(refine Q.r ?_);refine S.y (Y.min4 rfl rfl rfl rfl) ?_;(refine Q.r ?_);refine S.cr rfl (bare_spec n.va n.vc n.vec _ h.v.sub hk.v) ?_;rintro _ _ ⟨rfl,rfl⟩
 cases hbv:bareV n.vec with
 |false=>
  refine Q.r ?_;exact N.t rfl (Ent.drop (Ent.refl _)) ⟨by simp only[Bool.or_true,Bool.true_or,Bool.or_false,Bool.false_or,Bool.not_true,Bool.not_false,Bool.false_and,Bool.and_false,Bool.true_and,Bool.and_true],rfl⟩
 |true=>
 simp only[decide_eq_false a1,decide_eq_false a2,decide_eq_false a3,decide_eq_false a4,decide_eq_false a5,decide_eq_false a6,decide_eq_false a7,decide_eq_false q1,decide_eq_false q2,decide_eq_false q3,Bool.or_true,Bool.true_or,Bool.or_false,Bool.false_or,Bool.not_true,Bool.not_false,Bool.false_and,Bool.and_false,Bool.true_and,Bool.and_true];clear a1 a2 a3 a4 a5 a6 a7;refine Q.r ?_;refine swp_cutB (σ:=Unit) (λ_=> [(1,.pointer (some ⟨b1,0,none⟩))]) (λ_=>pt b1 (cl n.cells 53)::A) (λ_=>partsV n.parts=true) ?_ ?_
 ·refine swp_loop (σ:=Nat) (λk=> [(1,.pointer (some ⟨b1,0,none⟩)),(74,.slice n.pa n.parts.length n.pc),(75,.int .i64 n.parts.length),(76,.int .i64 k)])
   (λ_=>pt b1 (cl n.cells 53)::A) (λk=>k≤n.parts.length∧(List.range k).all (okP n.parts)=true) (λk=>n.parts.length - k) 0 zt (Ent.refl _) ⟨by omega,rfl⟩ ?_
  rintro k ⟨hk1,hk2⟩
  by_cases hlt:k<n.parts.length
  ·obtain ⟨p,hp⟩:=mem_get hlt
   obtain ⟨bp,op,hpa,hr⟩:=RdS.elem (g:=λz=> [I64 z]) (λ_=>rfl) (by rw[flat_I64];exact h.p) hp rfl;have hgp:n.parts.getD k 0=p:=by rw[List.getD_eq_getElem?_getD,hp];rfl
   have hfail:okP n.parts k=false→partsV n.parts=false:=λhh=>by
    unfold partsV;rw[List.all_eq_false];exact ⟨k,List.mem_range.2 hlt,by rw[hh];decide⟩
   rw[hpa]
   by_cases e1:p<0
   ·repeat (first|refine S.y (Y.ldRj rfl (by first|assumption|exact RdC.sub (by assumption)) rfl) ?_|(refine GQ.y ?_;refine Q.y ?_)|refine Q.go ?_|(refine GQ.g ?_;refine Q.gq ?_)|(refine GQ.s ?_;refine Q.st ?_)|(refine GQ.g ?_;refine Q.gd ?_)|refine Q.ct rfl ?_|refine Q.cf rfl ?_|(refine GQ.a ?_;refine Q.al (λb1=> ?_)))
    exact N.t rfl (Ent.drop (Ent.refl _)) ⟨by rw[hfail (by unfold okP;rw[hgp,decide_eq_false (by omega:¬0≤p)];rfl)];rfl,rfl⟩
   by_cases e2:16≤p
   ·repeat (first|refine S.y (Y.ldRj rfl (by first|assumption|exact RdC.sub (by assumption)) rfl) ?_|(refine GQ.y ?_;refine Q.y ?_)|refine Q.go ?_|(refine GQ.g ?_;refine Q.gq ?_)|(refine GQ.s ?_;refine Q.st ?_)|(refine GQ.g ?_;refine Q.gd ?_)|refine Q.ct rfl ?_|refine Q.cf rfl ?_|(refine GQ.a ?_;refine Q.al (λb1=> ?_)))
    exact N.t rfl (Ent.drop (Ent.refl _)) ⟨by rw[hfail (by unfold okP;rw[hgp,decide_eq_false (by omega:¬p<16),Bool.and_false];rfl)];rfl,rfl⟩
   by_cases e3:k=0
   ·subst e3
    repeat (first|refine S.y (Y.ldRj rfl (by first|assumption|exact RdC.sub (by assumption)) rfl) ?_|(refine GQ.y ?_;refine Q.y ?_)|refine Q.go ?_|(refine GQ.g ?_;refine Q.gq ?_)|(refine GQ.s ?_;refine Q.st ?_)|(refine GQ.g ?_;refine Q.gd ?_)|refine Q.ct rfl ?_|refine Q.cf rfl ?_|(refine GQ.a ?_;refine Q.al (λb1=> ?_)))
    exact ⟨1,⟨by rw[←hpa];rfl,by rw[←hpa];rfl,rfl,rfl,trivial⟩,Ent.refl _,⟨by omega,by rw[show List.range (0+1)=[0] from rfl,List.all_cons,List.all_nil];unfold okP;rw[hgp,decide_eq_true (by omega:(0:Int)≤p),decide_eq_true (by omega:p<16)];rfl⟩,by omega⟩
   ·obtain ⟨q,hq⟩:=mem_get (l:=n.parts) (show k - 1<n.parts.length by omega)
    obtain ⟨bq,oq,hqa,hr2⟩:=RdS.elem (g:=λz=> [I64 z]) (λ_=>rfl) (by rw[flat_I64];exact h.p) hq rfl;have hgq:n.parts.getD (k - 1) 0=q:=by rw[List.getD_eq_getElem?_getD,hq];rfl
    by_cases e4:p≤q
    ·refine Q.rd6 ?_
     rw[hqa];refine Q.rd6 ?_;exact N.t rfl (Ent.drop (Ent.refl _)) ⟨by rw[hfail (by unfold okP;rw[hgp,hgq,decide_eq_false e3,decide_eq_false (by omega:¬q<p),Bool.or_false,Bool.and_false])];rfl,rfl⟩
    ·refine Q.rd6 ?_
     rw[hqa];refine Q.rd6 ?_;refine ⟨k+1,⟨rfl,by first|rfl|(rw[←hqa];rfl)|(rw[←hpa];rfl)|(rw[hqa];rfl)|(rw[hpa];rfl),rfl,rfl,trivial⟩,Ent.refl _,⟨by omega,?_⟩,by omega⟩;rw[List.range_succ,List.all_append,hk2,List.all_cons,List.all_nil];unfold okP;rw[hgp,hgq,decide_eq_true (by omega:(0:Int)≤p),decide_eq_true (by omega:p<16),decide_eq_true (by omega:q<p),Bool.or_true];rfl
  ·have:k=n.parts.length:=by omega
   subst this;refine Q.r ?_;exact ⟨(),zt,Ent.refl _,hk2⟩
 ·rintro _ hp
  refine Q.r ?_;refine S.cr rfl (HasO_spec 158 [] [] (λo=>badOp o.abs) n.oa n.oc n.ops _ h.o.1.sub (by have:=hk.o;omega) (λo ho=>bad1_spec o _ ((h.o.2 o ho).sub) (hk.ov o ho))) ?_;rintro _ _ ⟨rfl,rfl⟩
  cases hop:n.ops.any λo=>badOp o.abs with
  |true=>
   refine Q.r ?_;exact N.t rfl (Ent.drop (Ent.refl _)) ⟨by simp only[Bool.or_true,Bool.true_or,Bool.or_false,Bool.false_or,Bool.not_true,Bool.not_false,Bool.false_and,Bool.and_false,Bool.true_and,Bool.and_true],rfl⟩
  |false=>
   refine Q.r ?_;refine S.cr rfl (HasH_spec 160 [] [] (λo=>badHit o.abs) n.ha n.hc n.hits _ h.h.sub (by have:=hk.h;omega) (λo ho=>bad2_spec o _ ((h.hv o ho).sub) (hk.hv o ho))) ?_;rintro _ _ ⟨rfl,rfl⟩;refine Q.r ?_;exact N.t rfl (Ent.drop (Ent.refl _)) ⟨by simp only[hp,Bool.or_true,Bool.true_or,Bool.or_false,Bool.false_or,Bool.not_true,Bool.not_false,Bool.false_and,Bool.and_false,Bool.true_and,Bool.and_true],rfl⟩
abbrev ST :=List UInt8×Nat
abbrev ST.cells (p:ST):List Value:=[str p.1,.int .i64 (p.2:Int)]
def sortsT :List ST:=[([],0),([65,115,107],4098),([82,101,112,108,121],518),([80,114,101,112,97,114,101],6153),([86,111,116,101],513),([68,101,99,105,100,101],517),([65,99,107],1),([80,114,111,98,101],1),([81,117,101,114,121],8672),([76,111,111,107],8692),([83,101,101,110],16928),([82,101,115,117,108,116],16932),([80,114,101,112,97,114,101,100],6153),([67,111,109,109,105,116,116,101,100],5),([65,98,111,114,116,101,100],1),([83,119,101,112,116],16),([69,112,111,99,104],16),([67,111,109,109,105,116],2055),([69,110,100],1),([66,101,103,105,110],7179),([89,101,115],1025),([65,99,107,101,100],1025),([71,111,110,101],1)]
def sortsC :List Value:=sortsT.flatMap ST.cells
def sortT (k:Nat):ST:=(sortsT[k]?).getD ([],0)
theorem sort_fld (k:Nat):(sortT k).2=fldN k:=by
 by_cases h:k<23
 ·exact (by decide:∀k,k<23→(sortT k).2=fldN k) k h
 ·have h1:sortT k=([],0):=by
   unfold sortT;rw[List.getElem?_eq_none (by show 23≤k;omega)];rfl
  rw[h1];unfold fldN
  split<;>first|omega|rfl
theorem sort_name (k:Nat):(decide ((sortT k).1=[]))= !decide (1≤k∧k≤22):=by
 by_cases h:k<23
 ·exact (by decide:∀k,k<23→(decide ((sortT k).1=[]))= !decide (1≤k∧k≤22)) k h
 ·have h1:sortT k=([],0):=by
   unfold sortT;rw[List.getElem?_eq_none (by show 23≤k;omega)];rfl
  rw[h1,decide_eq_false (by omega:¬(1≤k∧k≤22))];rfl
theorem sorted_spec (k:Nat)(A:HL)(hT:RdC A 0 0 sortsC)(hk:k≤255):
  CallsS Tryz.prog 126 [.int .u8 (k:Int)] A (λr L'=>r=.agg (ST.cells (sortT k)).toArray∧L'=A):=by
 refine CallsS.of_body Tryz.func126 rfl rfl rfl ?_
 by_cases h:23≤k
 ·have h1:sortT k=([],0):=by
   unfold sortT;rw[List.getElem?_eq_none (by show 23≤k;omega)];rfl
  rw[h1];refine Q.r ?_;(repeat (intro b1;refine Q.r ?_));refine S.y (Y.cvi rfl) ?_;rw[wrap_i64 zo zo];refine Q.r ?_;exact N.r1 RV.c (Ent.drop (Ent.refl _)) ⟨rfl,rfl⟩
 ·have hs:sortsT[k]? =some (sortT k):=by
   unfold sortT;rw[List.getElem?_eq_getElem (show k<sortsT.length by show k<23;omega)];rfl
  have hr:RdC A 0 (0+k*2) (ST.cells (sortT k)):=hT.part λj v e=>flat_get (g:=ST.cells) (λ_=>rfl) sortsT k j _ v hs e
  refine Q.r ?_;(repeat (intro b1;refine Q.r ?_));refine S.y (Y.cvi rfl) ?_;rw[wrap_i64 zo zo];refine Q.rn ?_;exact N.r1 RV.c (Ent.drop (Ent.refl _)) ⟨rfl,rfl⟩
theorem testBit_bitsN :∀(l:List Bool) (i:Nat),(bitsN l).testBit i=l.getD i false
 | [],i=>by simp[bitsN]
 |b::l,0=>by
  unfold bitsN;rw[Nat.testBit_zero]
  cases b<;>simp[Nat.add_mod]
 |b::l,i+1=>by
  unfold bitsN;rw[Nat.testBit_succ,List.getD_cons_succ,←testBit_bitsN l i]
  congr 1
  cases b<;>simp<;>omega
theorem i64_and (a f:Nat)(ha:a<2^15):IntKind.i64.wrap (((BitVec.ofInt IntKind.i64.bits (a:Int))&&& ~~~(BitVec.ofInt IntKind.i64.bits (f:Int))).toNat:Int)=(((BitVec.ofNat 64 a&&& ~~~ BitVec.ofNat 64 f).toNat:Nat):Int):=by
 have e:∀x:Nat,BitVec.ofInt IntKind.i64.bits (x:Int)=BitVec.ofNat 64 x:=λx=>by
  show BitVec.ofInt 64 (x:Int)=_
  rw[BitVec.ofInt_natCast]
 rw[e,e];have h:(BitVec.ofNat 64 a&&& ~~~ BitVec.ofNat 64 f).toNat≤a:=by
  rw[BitVec.toNat_and];refine Nat.le_trans Nat.and_le_left ?_
  simp;omega
 show IntKind.i64.wrap (((BitVec.ofNat 64 a&&& ~~~ BitVec.ofNat 64 f).toNat:Nat):Int)=_
 exact wrap_i64 zo zo
theorem held_fits (n:NA)(f:Nat):decide ((((BitVec.ofNat 64 (bitsN n.bits)&&& ~~~ BitVec.ofNat 64 f).toNat:Nat):Int)=0)=n.bits.zipIdx.all λb=> !b.1||f.testBit b.2:=by
 have hl:n.bits.length=15:=rfl;rw[Bool.eq_iff_iff,decide_eq_true_iff,List.all_eq_true]
 constructor
 ·intro h b hb
  obtain ⟨x,i⟩:=b;have hi:=List.mem_zipIdx_iff_getElem?.1 hb;dsimp only at hi ⊢
  cases x with
  |false=>rfl
  |true=>
   have hlt:i<15:=by rw[←hl];exact (List.getElem?_eq_some_iff.1 hi).1
   have h0:(BitVec.ofNat 64 (bitsN n.bits)&&& ~~~ BitVec.ofNat 64 f)=0#64:=BitVec.eq_of_toNat_eq (by simpa using h);have h1:=congrArg (λv:BitVec 64=>v.getLsbD i) h0;simp only[BitVec.getLsbD_and,BitVec.getLsbD_not,BitVec.getLsbD_ofNat] at h1;rw[testBit_bitsN,List.getD_eq_getElem?_getD,hi] at h1
   simp[show i<64 by omega] at h1
   simpa using h1
 ·intro h
  have h0:(BitVec.ofNat 64 (bitsN n.bits)&&& ~~~ BitVec.ofNat 64 f)=0#64:=by
   apply BitVec.eq_of_getLsbD_eq;intro i hi;simp only[BitVec.getLsbD_and,BitVec.getLsbD_not,BitVec.getLsbD_ofNat,BitVec.getLsbD_zero];rw[testBit_bitsN,List.getD_eq_getElem?_getD]
   cases hb:n.bits[i]? with
   |none=>simp
   |some b=>
    have:=h (b,i) (List.mem_zipIdx_iff_getElem?.2 hb);dsimp only at this
    cases b with
    |false=>simp
    |true=>simp at this;simp[this,hi]
  rw[h0];rfl
theorem NRight_spec (n:NV)(A:HL)(h:RdN A n)(hk:OkN n)(hT:RdC A 0 0 sortsC)(h0:0≤n.kind∧n.kind≤255):
  CallsS Tryz.prog 69 [n.val] A (λr L'=>r=.bool (rightN n.abs)∧L'=A):=by
 obtain ⟨k,hkk⟩:∃k:Nat,n.kind=(k:Int):=⟨n.kind.toNat,by omega⟩;have hbd:bitsN n.bits<2^15:=bitsN_lt n.bits;have hE:rightN n.abs=((!decide ((sortT k).1=[]))&&decide ((((BitVec.ofNat 64 (bitsN n.bits)&&& ~~~ BitVec.ofNat 64 (sortT k).2).toNat:Nat):Int)=0)&&boundN n.abs):=by
  have:=held_fits n.abs (sortT k).2;rw[NV.bits_abs] at this;unfold rightN;rw[NV.bits_abs,this,sort_name,sort_fld,Bool.not_not]
  show (decide (1≤n.kind∧n.kind≤22)&&(n.bits.zipIdx.all λb=> !b.1||(fldN n.kind.toNat).testBit b.2)&&boundN n.abs)=_
  rw[hkk,Int.toNat_natCast,show decide (1≤(k:Int)∧(k:Int)≤22)=decide (1≤k∧k≤22) from by congr 1;simp;omega]
 rw[hE];clear hE;refine CallsS.of_body Tryz.func69 rfl rfl rfl ?_;refine Q.r ?_;(repeat (intro b1;refine Q.r ?_));refine S.cr (args:=[.int .u8 (k:Int)]) (by rw[←hkk];rfl) (sorted_spec k _ hT.sub zo) ?_;rintro _ _ ⟨rfl,rfl⟩
 by_cases hn:(sortT k).1=[]
 ·rw[decide_eq_true hn]
  refine Q.r ?_;(repeat (intro b1;refine Q.r ?_));refine Q.dgo [true,true] [5,13] [] [0,1,2,3,4,6,7,5,8,9,10,11,12,13,14,15] ?_;refine Q.rd ?_;refine Q.r ?_;exact N.t rfl (Ent.drop (Ent.drop (Ent.refl _))) ⟨by simp only[Bool.not_true,Bool.false_and],rfl⟩
 rw[decide_eq_false hn];refine Q.r ?_;(repeat (intro b1;refine Q.r ?_));refine Q.dgo [true,true] [5,13] [] [0,1,2,3,4,6,7,5,8,9,10,11,12,13,14,15] ?_;refine Q.rd ?_;refine D.e rfl rfl rfl ?_;refine S.guard rfl ?_;refine S.cr rfl (held_spec n _) ?_;rintro _ _ ⟨rfl,rfl⟩;refine Q.r ?_;refine D.y rfl rfl rfl zk (Y.guard rfl (Y.andNot rfl rfl)) ?_;rw[i64_and _ _ hbd];generalize (BitVec.ofNat 64 (bitsN n.bits)&&& ~~~ BitVec.ofNat 64 (sortT k).2).toNat=z
 by_cases hz:(z:Int)=0
 ·rw[decide_eq_true hz]
  refine Q.rd ?_;refine D.e rfl rfl rfl ?_;refine S.guard rfl ?_;refine S.cr rfl (bounded_spec n _ h hk) ?_;rintro _ _ ⟨rfl,rfl⟩;refine Q.r ?_;refine Q.rd ?_;refine Q.r ?_;exact N.t rfl (Ent.drop (Ent.drop (Ent.refl _))) ⟨by simp only[Bool.not_false,Bool.true_and],rfl⟩
 ·rw[decide_eq_false hz]
  refine Q.rd ?_;refine Q.r ?_;exact N.t rfl (Ent.drop (Ent.drop (Ent.refl _))) ⟨by simp only[Bool.not_false,Bool.and_false,Bool.false_and],rfl⟩
end Go.Proofs.YtjlgabojhnnbaaaGreatDoor
namespace Go.Proofs.YtjlgabojhnnbaaaGreatDoor
open Go Go.SX
structure JS where
 v:VS
 parts:List (Int×List Int)
 done:List (Int×Int)
structure PA where
 rec_:List NA
 mail:List (Int×NA)
 els:List (Int×NA)
def PA.none :PA:=⟨[],[],[]⟩
abbrev voteN (txn code:Int):Int×NA:=(0,{NA.zero with kind:=4,txn:=txn,code:=code})
def takenV (st:VS)(ops:VL):Bool:=st.its.any λi=>i.2.2.any λo=>holdsV ops o.1
def aboveV (st:VS)(s:Int)(ops:VL):Bool:= !st.ch.any λc=>decide (s≤lastS c.2)&&holdsV ops c.1
def prepV (j:JS)(n:NA):PA:=
 if (lkL j.done n.txn).isSome∨checkV j.v.dim n.ops≠0 then PA.none
 else if (lkL j.v.its n.txn).isSome then ⟨[],[voteN n.txn 0],[]⟩
 else if takenV j.v n.ops then ⟨[],[voteN n.txn 11],[]⟩
 else ⟨[{n with kind:=12}],[voteN n.txn 0],[voteN n.txn 8]⟩
abbrev ackN (txn:Int):Int×NA:=(0,{NA.zero with kind:=6,txn:=txn})
def deciV (j:JS)(from_:Int)(n:NA):PA:=
 if n.code≠0 then if (lkL j.v.its n.txn).isSome∧from_=0 then ⟨[{NA.zero with kind:=14,txn:=n.txn}],[],[]⟩ else PA.none
 else match lkL j.done n.txn with
  |some s=>if s=n.stamp then ⟨[],[ackN n.txn],[]⟩ else PA.none
  |none=>match lkL j.v.its n.txn with
   |some i=>if max i.1 j.v.mark<n.stamp∧aboveV j.v n.stamp i.2=true then ⟨[{NA.zero with kind:=13,txn:=n.txn,stamp:=n.stamp}],[ackN n.txn],[]⟩ else PA.none
   |none=>PA.none
def planV (j:JS)(from_:Int)(n:NA):PA:=
 if rightN n=false then PA.none
 else if n.kind=3 then if from_=0 then prepV j n else PA.none
 else if n.kind=5 then deciV j from_ n
 else if n.kind=7 then match lkL j.done n.txn with
  |some s=>⟨[],[(from_,{NA.zero with kind:=5,txn:=n.txn,stamp:=s})],[]⟩
  |none=>PA.none
 else PA.none
def appE (j:JS)(n:NA):Int:=
 if rightN n=false then 4
 else if n.kind=12 then lockE j.v n.txn n.after n.ops
 else if n.kind=13 then applyE j.v n.txn n.stamp
 else if n.kind=14 then if (lkL j.v.its n.txn).isSome then 0 else 6
 else if n.kind=15 then 0
 else 4
def appS (j:JS)(n:NA):JS:=
 if appE j n≠0 then j
 else if n.kind=12 then ⟨lockS j.v n.txn n.after n.ops,putL j.parts n.txn n.parts,j.done⟩
 else if n.kind=13 then ⟨applyS j.v n.txn n.stamp,delL j.parts n.txn,putL j.done n.txn n.stamp⟩
 else if n.kind=14 then ⟨{j.v with its:=delL j.v.its n.txn},delL j.parts n.txn,j.done⟩
 else if n.kind=15 then ⟨sweepS j.v n.mark,j.parts,j.done⟩
 else j
structure JOK (j:JS)(n:Nat):Prop where
 w:WFK j.v n
 kp:keysOK j.parts
 kd:keysOK j.done
 o:∀t s,lkL j.done t=some s→lkL j.v.its t=none
 p:∀t s,lkL j.done t=some s→0<s
 m:0≤j.v.mark
 ne:∀c∈j.v.ch,0<c.2.length
theorem right_abort {t:Int}(h:0≤t):rightN {NA.zero with kind:=14,txn:=t}=true:=by
 unfold rightN boundN NA.bits NA.zero bareV
 by_cases h0:0<t
 ·simp[h0,List.zipIdx,fldN,partsV]
 ·simp[h0,List.zipIdx,fldN,partsV]
theorem right_commit {t s:Int}(h2:s≤1099511627776):rightN {NA.zero with kind:=13,txn:=t,stamp:=s}=true:=by
 unfold rightN boundN NA.bits NA.zero bareV
 by_cases h0:0<t<;>by_cases h1:0<s<;>simp[h0,h1,List.zipIdx,fldN,partsV]<;>first|omega|(refine ⟨?_,?_⟩<;>first|decide|omega)
theorem right_prep {n:NA}(h:rightN n=true)(hk:n.kind=3):rightN {n with kind:=12}=true:=by
 unfold rightN at h ⊢;rw[hk] at h;exact h
theorem right_bound {n:NA}(h:rightN n=true):n.stamp≤1099511627776∧n.after≤1099511627776∧n.mark≤1099511627776:=by
 unfold rightN boundN at h;simp only[Bool.and_eq_true,Bool.not_eq_true',Bool.or_eq_false_iff,decide_eq_false_iff_not] at h;omega
theorem isSome_ne {α:Type}{o:Option α}(h:¬o.isSome=true):o=none:=by cases o with
 |none=>rfl
 |some a=>exact absurd rfl h
theorem lkL_snoc {κ α:Type}[DecidableEq κ]{m:List (κ×α)}{x y:κ}{a:α}(h:lkL m x=none):lkL (m++[(x,a)]) y=if y=x then some a else lkL m y:=by
 have hm:=lk_none' h
 by_cases hy:y=x
 ·subst hy
  rw[if_pos rfl];exact lkL_mid (q:=[]) hm
 ·rw[if_neg hy]
  unfold lkL;rw[List.find?_append];have:(List.find? (λp:κ×α=>decide (p.1=y)) [(x,a)])=none:=by simp[Ne.symm hy]
  rw[this,Option.or_none]
theorem lkL_delE {κ α:Type}[DecidableEq κ](m:List (κ×α))(x:κ):lkL (delL m x) x=none:=lkL_none λu hu=>by
 have:=(List.mem_filter.1 hu).2
 simpa using this
theorem lkL_delI {κ α:Type}[DecidableEq κ]{m:List (κ×α)}(x y:κ):lkL (delL m x) y=if y=x then none else lkL m y:=by
 by_cases hy:y=x
 ·subst hy;rw[if_pos rfl,lkL_delE]
 ·rw[if_neg hy,lkL_del x y hy]
theorem taken_lock {st:VS}{ops:VL}(h:takenV st ops=false):(ops.any λo=>st.its.any λi=>holdsV i.2.2 o.1)=false:=by
 rw[List.any_eq_false];intro o ho hh;obtain ⟨i,hi,hx⟩:=List.any_eq_true.1 hh;unfold holdsV at hx;obtain ⟨u,hu,hux⟩:=List.any_eq_true.1 hx;have hux:=of_decide_eq_true hux;have:takenV st ops=true:=by
  unfold takenV;refine List.any_eq_true.2 ⟨i,hi,List.any_eq_true.2 ⟨u,hu,?_⟩⟩;unfold holdsV;exact List.any_eq_true.2 ⟨o,ho,decide_eq_true hux.symm⟩
 rw[h] at this;cases this
theorem prep_lock {j:JS}{n:NA}(ha:n.after≤1099511627776)(hc:checkV j.v.dim n.ops=0)(hl:lkL j.v.its n.txn=none)(ht:takenV j.v n.ops=false):lockE j.v n.txn n.after n.ops=0:=by
 unfold lockE;rw[if_neg zo,if_neg (by simp[hc]),hl,if_neg (by simp),taken_lock ht];rfl
theorem above_apply {j:JS}{t s:Int}{i:Int×VL}(hl:lkL j.v.its t=some i)(h1:max i.1 j.v.mark<s)(hm:0≤j.v.mark)(h2:s≤1099511627776)(ha:aboveV j.v s i.2=true):applyE j.v t s=0:=by
 unfold applyE;rw[hl];dsimp only;rw[if_neg zo];have hno:(i.2.any λo=>decide (s≤lastS (chV j.v.ch o.1)))=false:=by
  rw[List.any_eq_false];intro o ho hh;have hh:=of_decide_eq_true hh;unfold chV at hh
  cases hz:lkL j.v.ch o.1 with
  |none=>
   rw[hz] at hh;have:lastS ([]:VL)=0:=rfl;rw[Option.getD_none,this] at hh;omega
  |some w=>
   rw[hz,Option.getD_some] at hh;have hmem:=lk_memL hz;unfold aboveV at ha;rw[Bool.not_eq_true',List.any_eq_false] at ha;refine ha _ hmem ?_;rw[Bool.and_eq_true];refine ⟨decide_eq_true hh,?_⟩;unfold holdsV;exact List.any_eq_true.2 ⟨o,ho,decide_eq_true rfl⟩
 rw[hno,if_neg (by simp),if_neg zo]
theorem applyC_ne {s:Int}{ops:VL}{ch:List (Int×VL)}(hk:keysOK ch)(hn:(ops.map (·.1)).Nodup)(h:∀c∈ch,0<c.2.length):∀c∈applyC s ch ops,0<c.2.length:=λc hc=>by
 rcases applyC_mem hk hn hc with hc|⟨o,ho,rfl⟩
 ·exact h c hc
 ·simp
structure Once (j:JS)(k:Nat)(n r:NA):Prop where
 tx:r.txn=n.txn
 nd:lkL j.done n.txn=none
 e:appE j r=0
 ok:JOK (appS j r) (k+1)
 rt:rightN r=true
theorem once_prep {j:JS}{k:Nat}(hj:JOK j k){n:NA}(hr:rightN n=true)(hk:n.kind=3)(hd:lkL j.done n.txn=none)(hc:checkV j.v.dim n.ops=0)(hl:lkL j.v.its n.txn=none)(ht:takenV j.v n.ops=false):
  Once j k n {n with kind:=12}∧(appS j {n with kind:=12}).done=j.done∧∀t,(lkL (appS j {n with kind:=12}).v.its t).isSome=true→t=n.txn∨(lkL j.v.its t).isSome=true:=by
 have hb:=right_bound hr;have hlk:=prep_lock (j:=j) hb.2.1 hc hl ht;have hr2:=right_prep hr hk;have hE:appE j {n with kind:=12}=0:=by
  unfold appE;rw[if_neg (by rw[hr2];decide),if_pos rfl];exact hlk
 have hS:appS j {n with kind:=12}=⟨lockS j.v n.txn n.after n.ops,putL j.parts n.txn n.parts,j.done⟩:=by
  unfold appS;rw[if_neg (by rw[hE];decide),if_pos rfl]
 have hSv:lockS j.v n.txn n.after n.ops={j.v with its:=j.v.its++[(n.txn,n.after,n.ops)]}:=by unfold lockS;rw[if_pos hlk]
 refine ⟨⟨rfl,hd,hE,?_,hr2⟩,by rw[hS],λt h=> ?_⟩
 ·rw[hS]
  refine ⟨hj.w.lock _ _ _,putL_ok hj.kp _ _,hj.kd,λt s h=> ?_,hj.p,?_,?_⟩
  ·dsimp only at h ⊢
   rw[hSv];dsimp only;rw[lkL_snoc hl]
   by_cases ht:t=n.txn
   ·subst ht;rw[hd] at h;cases h
   ·rw[if_neg ht];exact hj.o t s h
  ·rw[hSv];exact hj.m
  ·rw[hSv];exact hj.ne
 ·rw[hS] at h
  dsimp only at h;rw[hSv] at h;dsimp only at h;rw[lkL_snoc hl] at h
  by_cases ht:t=n.txn
  ·exact .inl ht
  ·rw[if_neg ht] at h;exact .inr h
abbrev comN (t s:Int):NA:={NA.zero with kind:=13,txn:=t,stamp:=s}
abbrev aboN (t:Int):NA:={NA.zero with kind:=14,txn:=t}
theorem once_commit {j:JS}{k:Nat}(hj:JOK j k){n:NA}(hr:rightN n=true)(hd:lkL j.done n.txn=none){i:Int×VL}(hl:lkL j.v.its n.txn=some i)(h1:max i.1 j.v.mark<n.stamp)(ha:aboveV j.v n.stamp i.2=true):
  Once j k n (comN n.txn n.stamp)∧0<n.stamp∧(appS j (comN n.txn n.stamp)).done=putL j.done n.txn n.stamp∧∀t,(lkL (appS j (comN n.txn n.stamp)).v.its t).isSome=true→(lkL j.v.its t).isSome=true:=by
 have hb:=right_bound hr;have hm:=hj.m;have hE0:=above_apply hl h1 hj.m hb.1 ha;have hr2:rightN (comN n.txn n.stamp)=true:=right_commit hb.1;have hE:appE j (comN n.txn n.stamp)=0:=by
  unfold appE;rw[if_neg (by rw[hr2];decide),if_neg (show ¬(13:Int)=12 by decide),if_pos rfl];exact hE0
 have hS:appS j (comN n.txn n.stamp)=⟨applyS j.v n.txn n.stamp,delL j.parts n.txn,putL j.done n.txn n.stamp⟩:=by
  unfold appS;rw[if_neg (by rw[hE];decide),if_neg (show ¬(13:Int)=12 by decide),if_pos rfl]
 have hSv:applyS j.v n.txn n.stamp={j.v with ch:=applyC n.stamp j.v.ch i.2,its:=delL j.v.its n.txn}:=by unfold applyS;rw[hl];dsimp only;rw[if_pos hE0]
 have hpos:0<n.stamp:=by omega
 refine ⟨⟨rfl,hd,hE,?_,hr2⟩,hpos,by rw[hS],λt h=> ?_⟩
 ·rw[hS]
  refine ⟨hj.w.apply _ _,delL_ok hj.kp _,putL_ok hj.kd _ _,λt s h=> ?_,λt s h=> ?_,?_,?_⟩
  ·dsimp only at h ⊢
   rw[hSv];dsimp only;rw[lkL_put hj.kd] at h;rw[lkL_delI]
   by_cases ht:t=n.txn
   ·rw[if_pos ht]
   ·rw[if_neg ht] at h ⊢;exact hj.o t s h
  ·dsimp only at h
   rw[lkL_put hj.kd] at h
   by_cases ht:t=n.txn
   ·rw[if_pos ht] at h;cases h;exact hpos
   ·rw[if_neg ht] at h;exact hj.p t s h
  ·rw[hSv];exact hj.m
  ·rw[hSv]
   exact applyC_ne hj.w.k1 (hj.w.wf.io _ (lk_memL hl)).2.1 hj.ne
 ·rw[hS] at h
  dsimp only at h;rw[hSv] at h;dsimp only at h;rw[lkL_delI] at h
  by_cases ht:t=n.txn
  ·rw[if_pos ht] at h;cases h
  ·rw[if_neg ht] at h;exact h
theorem once_abort {j:JS}{k:Nat}(hj:JOK j k){n:NA}(h0:0≤n.txn)(hl:(lkL j.v.its n.txn).isSome=true):
  Once j k n (aboN n.txn)∧(appS j (aboN n.txn)).done=j.done∧∀t,(lkL (appS j (aboN n.txn)).v.its t).isSome=true→t≠n.txn∧(lkL j.v.its t).isSome=true:=by
 have hd:lkL j.done n.txn=none:=by
  cases hz:lkL j.done n.txn with
  |none=>rfl
  |some s=>rw[hj.o _ _ hz] at hl;cases hl
 have hr2:rightN (aboN n.txn)=true:=right_abort h0;have hE:appE j (aboN n.txn)=0:=by
  unfold appE;rw[if_neg (by rw[hr2];decide),if_neg (show ¬(14:Int)=12 by decide),if_neg (show ¬(14:Int)=13 by decide),if_pos rfl];exact if_pos hl
 have hS:appS j (aboN n.txn)=⟨{j.v with its:=delL j.v.its n.txn},delL j.parts n.txn,j.done⟩:=by
  unfold appS;rw[if_neg (by rw[hE];decide),if_neg (show ¬(14:Int)=12 by decide),if_neg (show ¬(14:Int)=13 by decide),if_pos rfl]
 refine ⟨⟨rfl,hd,hE,?_,hr2⟩,by rw[hS],λt h=> ?_⟩
 ·rw[hS]
  refine ⟨(hj.w.free _).mono zo,delL_ok hj.kp _,hj.kd,λt s h=> ?_,hj.p,hj.m,hj.ne⟩;dsimp only at h ⊢;rw[lkL_delI]
  by_cases ht:t=n.txn
  ·rw[if_pos ht]
  ·rw[if_neg ht];exact hj.o t s h
 ·rw[hS] at h
  dsimp only at h;rw[lkL_delI] at h
  by_cases ht:t=n.txn
  ·rw[if_pos ht] at h;cases h
  ·rw[if_neg ht] at h;exact ⟨ht,h⟩
theorem plan_cases {j:JS}{k:Nat}(hj:JOK j k){n:NA}(h0:0≤n.txn)(f:Int):
  (planV j f n).rec_=[]∨
  ((planV j f n).rec_=[{n with kind:=12}]∧Once j k n {n with kind:=12}∧(appS j {n with kind:=12}).done=j.done∧∀t,(lkL (appS j {n with kind:=12}).v.its t).isSome=true→t=n.txn∨(lkL j.v.its t).isSome=true)∨
  ((planV j f n).rec_=[comN n.txn n.stamp]∧(lkL j.v.its n.txn).isSome=true∧Once j k n (comN n.txn n.stamp)∧0<n.stamp∧(appS j (comN n.txn n.stamp)).done=putL j.done n.txn n.stamp∧∀t,(lkL (appS j (comN n.txn n.stamp)).v.its t).isSome=true→(lkL j.v.its t).isSome=true)∨
  ((planV j f n).rec_=[aboN n.txn]∧Once j k n (aboN n.txn)∧(appS j (aboN n.txn)).done=j.done∧∀t,(lkL (appS j (aboN n.txn)).v.its t).isSome=true→t≠n.txn∧(lkL j.v.its t).isSome=true):=by
 unfold planV
 cases hr:rightN n with
 |false=>left;rfl
 |true=>
 rw[if_neg zd]
 by_cases h3:n.kind=3
 ·rw[if_pos h3]
  by_cases hf:f=0
  ·rw[if_pos hf]
   unfold prepV
   by_cases c1:(lkL j.done n.txn).isSome=true∨checkV j.v.dim n.ops≠0
   ·rw[if_pos c1];left;rfl
   rw[if_neg c1];simp only[not_or,Decidable.not_not] at c1
   by_cases c2:(lkL j.v.its n.txn).isSome=true
   ·rw[if_pos c2];left;rfl
   rw[if_neg c2]
   cases c3:takenV j.v n.ops with
   |true=>left;rfl
   |false=>
    rw[if_neg zd]
    right;left
    exact ⟨rfl,once_prep hj hr h3 (isSome_ne c1.1) c1.2 (isSome_ne c2) c3⟩
  ·rw[if_neg hf];left;rfl
 rw[if_neg h3]
 by_cases h5:n.kind=5
 ·rw[if_pos h5]
  unfold deciV
  by_cases c1:n.code≠0
  ·rw[if_pos c1]
   by_cases c2:(lkL j.v.its n.txn).isSome=true∧f=0
   ·rw[if_pos c2]
    right;right;right
    exact ⟨rfl,once_abort hj h0 c2.1⟩
   ·rw[if_neg c2];left;rfl
  rw[if_neg c1]
  cases hd:lkL j.done n.txn with
  |some s=>
   dsimp only
   by_cases c2:s=n.stamp
   ·rw[if_pos c2];left;rfl
   ·rw[if_neg c2];left;rfl
  |none=>
   dsimp only
   cases hl:lkL j.v.its n.txn with
   |none=>left;rfl
   |some i=>
    dsimp only
    by_cases c3:max i.1 j.v.mark<n.stamp∧aboveV j.v n.stamp i.2=true
    ·rw[if_pos c3]
     right;right;left
     exact ⟨rfl,rfl,once_commit hj hr hd hl c3.1 c3.2⟩
    ·rw[if_neg c3];left;rfl
 rw[if_neg h5]
 by_cases h7:n.kind=7
 ·rw[if_pos h7]
  cases hd:lkL j.done n.txn with
  |some s=>left;rfl
  |none=>left;rfl
 ·rw[if_neg h7];left;rfl
end Go.Proofs.YtjlgabojhnnbaaaGreatDoor
namespace Go.Proofs.YtjlgabojhnnbaaaGreatDoor
open Go Go.SX
attribute [local irreducible] swp opsS thenS blockS retS CallsS St Ent YieldS anyS drawS
def DJ (st:VS):Prop:=∀i∈st.its,∀j∈st.its,i.1≠j.1→∀x∈i.2.2.map (·.1),x∉j.2.2.map (·.1)
theorem DJ.sub {st st':VS}(h:DJ st)(hs:∀i∈st'.its,i∈st.its):DJ st':=λi hi j hj=>h i (hs i hi) j (hs j hj)
end Go.Proofs.YtjlgabojhnnbaaaGreatDoor
namespace Go.Proofs.YtjlgabojhnnbaaaGreatDoor
open Go Go.SX
structure JOW (j:JS)(n:Nat):Prop where
 w:WFK j.v n
 kp:keysOK j.parts
 kd:keysOK j.done
 p:∀t s,lkL j.done t=some s→0<s
 m:0≤j.v.mark
 ne:∀c∈j.v.ch,0<c.2.length
 dj:DJ j.v
 pl:j.parts.length≤n
 dl:j.done.length≤n
theorem JOW.le {j:JS}{a b:Nat}(h:JOW j a)(hl:a≤b):JOW j b:=⟨h.w.mono hl,h.kp,h.kd,h.p,h.m,h.ne,h.dj,Nat.le_trans h.pl hl,Nat.le_trans h.dl hl⟩
theorem putL_len {κ α:Type}[DecidableEq κ](m:List (κ×α))(x:κ)(a:α):(putL m x a).length≤m.length+1:=by
 unfold putL
 split<;>simp
theorem delL_len {κ α:Type}[DecidableEq κ](m:List (κ×α))(x:κ):(delL m x).length≤m.length:=List.length_filter_le _ _
theorem sw1_ne {s:Int}{u:List (Int×VL)×GL}(hk:keysOK u.1)(h:∀c∈u.1,0<c.2.length)(id:Int):∀c∈(sw1 s u id).1,0<c.2.length:=by
 intro c hc;unfold sw1 at hc;dsimp only at hc
 split at hc
 ·exact h c (List.mem_filter.1 hc).1
 ·rename_i h0
  rcases keyCase u.1 hk id with ⟨p,w,q,e,hp,hq⟩|hno
  ·rw[e] at hc h h0
   rw[putL_mid hp hq] at hc
   rcases List.mem_append.1 hc with hc|hc
   ·exact h c (List.mem_append_left _ hc)
   rcases List.mem_cons.1 hc with rfl|hc
   ·exact Nat.pos_of_ne_zero h0
   ·exact h c (List.mem_append_right _ (List.mem_cons_of_mem _ hc))
  ·rw[putL_none hno] at hc
   rcases List.mem_append.1 hc with hc|hc
   ·exact h c hc
   ·obtain rfl:=List.mem_singleton.1 hc
    exact Nat.pos_of_ne_zero h0
theorem swF_ne {s:Int}:∀{ks:List Int} {u:List (Int×VL)×GL},keysOK u.1→(∀c∈u.1,0<c.2.length)→∀c∈(ks.foldl (sw1 s) u).1,0<c.2.length
 | [],_,_,h=>h
 |k::ks,u,hk,h=>swF_ne (ks:=ks) (sw1_ok hk k) (sw1_ne hk h k)
theorem applyE_pos {st:VS}{t s:Int}(h0:0≤s)(h:applyE st t s=0):0<s:=by
 unfold applyE at h
 cases hl:lkL st.its t with
 |none=>
  rw[hl] at h;dsimp only at h
  split at h<;>cases h
 |some i=>
  rw[hl] at h;dsimp only at h
  split at h
  ·cases h
  ·omega
theorem applyE_held {st:VS}{t s:Int}(h:applyE st t s=0):∃i,lkL st.its t=some i:=by
 unfold applyE at h
 cases hl:lkL st.its t with
 |none=>
  rw[hl] at h;dsimp only at h
  split at h<;>cases h
 |some i=>exact ⟨i,rfl⟩
theorem DJ.lock {st:VS}(h:DJ st)(t a:Int)(ops:VL):DJ (lockS st t a ops):=by
 unfold lockS
 split
 ·rename_i hE
  unfold lockE at hE
  by_cases h1:1099511627776<a
  ·rw[if_pos h1] at hE;cases hE
  rw[if_neg h1] at hE
  by_cases h2:checkV st.dim ops≠0
  ·rw[if_pos h2] at hE;exact absurd hE h2
  rw[if_neg h2] at hE
  by_cases h3:(lkL st.its t).isSome=true
  ·rw[if_pos h3] at hE;cases hE
  rw[if_neg h3] at hE;have hfree:∀i∈st.its,∀x∈ops.map (·.1),x∉i.2.2.map (·.1):=by
   intro i hi x hx hx2;obtain ⟨w,hw,rfl⟩:=List.mem_map.1 hx;obtain ⟨u,hu,hux⟩:=List.mem_map.1 hx2;have:(ops.any λo=>st.its.any λi=>holdsV i.2.2 o.1)=true:=List.any_eq_true.2 ⟨w,hw,List.any_eq_true.2 ⟨i,hi,List.any_eq_true.2 ⟨u,hu,decide_eq_true hux⟩⟩⟩;rw[if_pos this] at hE
   cases hE
  intro i hi j hj hij x hx
  rcases List.mem_append.1 hi with hi|hi
  ·rcases List.mem_append.1 hj with hj|hj
   ·exact h i hi j hj hij x hx
   ·obtain rfl:=List.mem_singleton.1 hj
    exact λhx2=>hfree i hi x hx2 hx
  ·obtain rfl:=List.mem_singleton.1 hi
   rcases List.mem_append.1 hj with hj|hj
   ·exact hfree j hj x hx
   ·obtain rfl:=List.mem_singleton.1 hj
    exact absurd rfl hij
 ·exact h
theorem JOW.app {j:JS}{k:Nat}(h:JOW j k){n:NA}(h0:0≤n.stamp):JOW (appS j n) (k+1):=by
 unfold appS
 split
 ·exact h.le zo
 rename_i hE;have hE:appE j n=0:=Decidable.not_not.1 hE;have hr:¬rightN n=false:=λhh=>by unfold appE at hE;rw[if_pos hh] at hE;cases hE
 unfold appE at hE;rw[if_neg hr] at hE
 split
 ·refine ⟨h.w.lock _ _ _,putL_ok h.kp _ _,h.kd,h.p,?_,?_,h.dj.lock _ _ _,Nat.le_trans (putL_len _ _ _) (Nat.succ_le_succ h.pl),Nat.le_succ_of_le h.dl⟩
  ·unfold lockS;split<;>exact h.m
  ·unfold lockS;split<;>exact h.ne
 rename_i c1;rw[if_neg c1] at hE
 split
 ·rename_i c2
  rw[if_pos c2] at hE;obtain ⟨i,hi⟩:=applyE_held hE;have hSv:applyS j.v n.txn n.stamp={j.v with ch:=applyC n.stamp j.v.ch i.2,its:=delL j.v.its n.txn}:=by unfold applyS;rw[hi];dsimp only;rw[if_pos hE]
  refine ⟨h.w.apply _ _,delL_ok h.kp _,putL_ok h.kd _ _,λt s ht=> ?_,?_,?_,?_,Nat.le_trans (delL_len _ _) (Nat.le_succ_of_le h.pl),Nat.le_trans (putL_len _ _ _) (Nat.succ_le_succ h.dl)⟩
  ·dsimp only at ht
   rw[lkL_put h.kd] at ht
   split at ht
   ·cases ht;exact applyE_pos h0 hE
   ·exact h.p t s ht
  ·rw[hSv];exact h.m
  ·rw[hSv]
   exact applyC_ne h.w.k1 (h.w.wf.io _ (lk_memL hi)).2.1 h.ne
  ·rw[hSv]
   exact h.dj.sub λi hi=>(List.mem_filter.1 hi).1
 split
 ·refine ⟨(h.w.free _).mono zo,delL_ok h.kp _,h.kd,h.p,h.m,h.ne,h.dj.sub λi hi=>(List.mem_filter.1 hi).1,Nat.le_trans (delL_len _ _) (Nat.le_succ_of_le h.pl),Nat.le_succ_of_le h.dl⟩
 split
 ·refine ⟨(h.w.sweep _).mono zo,h.kp,h.kd,h.p,?_,?_,?_,Nat.le_succ_of_le h.pl,Nat.le_succ_of_le h.dl⟩
  ·have:=h.m
   dsimp only;unfold sweepS
   split<;>(try dsimp only)<;>omega
  ·dsimp only
   unfold sweepS
   split
   ·exact h.ne
   ·exact swF_ne (u:=(j.v.ch,[])) h.w.k1 h.ne
  ·refine h.dj.sub λi hi=> ?_
   dsimp only at hi;unfold sweepS at hi
   split at hi<;>exact hi
 ·exact h.le zo
theorem plan_one {j:JS}{k:Nat}(hj:JOW j k){n:NA}(h0:0≤n.txn)(f:Int):
  (planV j f n).rec_=[]∨∃r,(planV j f n).rec_=[r]∧appE j r=0∧r.txn=n.txn∧rightN r=true∧((r={n with kind:=12}∧n.kind=3∧f=0)∨r=comN n.txn n.stamp∨r=aboN n.txn):=by
 unfold planV
 cases hr:rightN n with
 |false=>left;rfl
 |true=>
 have hb:=right_bound hr;rw[if_neg zd]
 by_cases h3:n.kind=3
 ·rw[if_pos h3]
  by_cases hf:f=0
  ·rw[if_pos hf]
   unfold prepV
   by_cases c1:(lkL j.done n.txn).isSome=true∨checkV j.v.dim n.ops≠0
   ·rw[if_pos c1];left;rfl
   rw[if_neg c1];simp only[not_or,Decidable.not_not] at c1
   by_cases c2:(lkL j.v.its n.txn).isSome=true
   ·rw[if_pos c2];left;rfl
   rw[if_neg c2]
   cases c3:takenV j.v n.ops with
   |true=>left;rfl
   |false=>
    rw[if_neg zd]
    right
    have hr2:=right_prep hr h3;refine ⟨_,rfl,?_,rfl,hr2,.inl ⟨rfl,h3,hf⟩⟩;unfold appE;rw[if_neg (by rw[hr2];decide),if_pos rfl];exact prep_lock (j:=j) hb.2.1 c1.2 (isSome_ne c2) c3
  ·rw[if_neg hf];left;rfl
 rw[if_neg h3]
 by_cases h5:n.kind=5
 ·rw[if_pos h5]
  unfold deciV
  by_cases c1:n.code≠0
  ·rw[if_pos c1]
   by_cases c2:(lkL j.v.its n.txn).isSome=true∧f=0
   ·rw[if_pos c2]
    right
    have hr2:rightN (aboN n.txn)=true:=right_abort h0;refine ⟨_,rfl,?_,rfl,hr2,.inr (.inr rfl)⟩;unfold appE;rw[if_neg (by rw[hr2];decide),if_neg (show ¬(14:Int)=12 by decide),if_neg (show ¬(14:Int)=13 by decide),if_pos rfl];exact if_pos c2.1
   ·rw[if_neg c2];left;rfl
  rw[if_neg c1]
  cases hd:lkL j.done n.txn with
  |some s=>
   dsimp only
   by_cases c2:s=n.stamp
   ·rw[if_pos c2];left;rfl
   ·rw[if_neg c2];left;rfl
  |none=>
   dsimp only
   cases hl:lkL j.v.its n.txn with
   |none=>left;rfl
   |some i=>
    dsimp only
    by_cases c3:max i.1 j.v.mark<n.stamp∧aboveV j.v n.stamp i.2=true
    ·rw[if_pos c3]
     right
     have hr2:rightN (comN n.txn n.stamp)=true:=right_commit hb.1;refine ⟨_,rfl,?_,rfl,hr2,.inr (.inl rfl)⟩;unfold appE;rw[if_neg (by rw[hr2];decide),if_neg (show ¬(13:Int)=12 by decide),if_pos rfl];exact above_apply hl c3.1 hj.m hb.1 c3.2
    ·rw[if_neg c3];left;rfl
 rw[if_neg h5]
 by_cases h7:n.kind=7
 ·rw[if_pos h7]
  cases hd:lkL j.done n.txn with
  |some s=>left;rfl
  |none=>left;rfl
 ·rw[if_neg h7];left;rfl
end Go.Proofs.YtjlgabojhnnbaaaGreatDoor
namespace Go.Proofs.YtjlgabojhnnbaaaGreatDoor
open Go Go.SX
attribute [local irreducible] swp opsS thenS blockS retS CallsS St Ent YieldS anyS drawS
theorem filt_take {s:Int}:∀{vs:VL},sortedV vs→(vs.filter λv=>decide (v.1≤s))=vs.take (aftN vs s)
 | [],_=>by simp
 |v::vs,hs=>by
  have hs1:sortedV vs:=by
   unfold sortedV at hs ⊢;rw[List.map_cons,List.pairwise_cons] at hs;exact hs.2
  have hlt:∀w∈vs,v.1<w.1:=λw hw=>by
   unfold sortedV at hs;rw[List.map_cons,List.pairwise_cons] at hs;exact hs.1 _ (List.mem_map_of_mem hw)
  by_cases h:v.1≤s
  ·have e:aftN (v::vs) s=aftN vs s+1:=by unfold aftN;simp[h]
   rw[e,List.take_succ_cons,←filt_take hs1,List.filter_cons_of_pos (by simpa using h)]
  ·have e0:∀w∈vs,¬(decide (w.1≤s))=true:=λw hw=>by
    have:=hlt w hw
    simp;omega
   have e:aftN (v::vs) s=0:=by
    unfold aftN;rw[List.filter_cons_of_neg (by simpa using h),List.filter_eq_nil_iff.2 e0];rfl
   rw[e,List.filter_cons_of_neg (by simpa using h),List.filter_eq_nil_iff.2 e0];rfl
theorem at_last {vs:VL}{s:Int}(hs:sortedV vs):atV vs s=(((vs.filter λv=>decide (v.1≤s)).getLast?).map (·.2)).getD []:=by
 rw[filt_take hs,List.getLast?_eq_getElem?,List.length_take,Nat.min_eq_left (aft_le vs s)];unfold atV
 by_cases h0:aftN vs s=0
 ·rw[if_pos h0,h0];simp
 ·rw[if_neg h0,List.getElem?_take,if_pos zo]
def cvO :Option OV→Value
 |none=>.slice none 0 0
 |some o=>.slice o.a o.vec.length o.c
theorem RAt_spec (a:OA)(c:Nat)(vs:List OV)(s:Int)(A:HL)(h:RdS A a vs.length 2 (vs.flatMap OV.cells))(hn:vs.length≤1000000)(hs:sortedV (vs.map OV.abs)):
  CallsS Tryz.prog 113 [.slice a vs.length c,.int .u64 s] A
   (λr L'=>(∃u:Option OV,r=cvO u∧(∀o,u=some o→o∈vs)∧atV (vs.map OV.abs) s=(u.map (·.vec)).getD [])∧L'=A):=by
 refine CallsS.of_body Tryz.func113 rfl rfl rfl ?_;refine Q.r ?_;refine swp_cutB (σ:=Option OV) (λu=> [(5,cvO u)]) (λ_=>A) (λu=>u=(vs.filter λo=>decide (o.id≤s)).getLast?) ?_ ?_
 ·refine swp_loop (σ:=Nat×Option OV) (λu=> [(1,.int .u64 s),(8,.slice a vs.length c),(9,.int .i64 vs.length),(5,cvO u.2),(10,.int .i64 u.1)]) (λ_=>A)
   (λu=>u.1≤vs.length∧u.2=((vs.take u.1).filter λo=>decide (o.id≤s)).getLast?) (λu=>vs.length - u.1) (0,none) zt (Ent.refl _) ⟨by omega,rfl⟩ ?_
  rintro ⟨k,u⟩ ⟨hk,hu⟩;dsimp only at hk hu ⊢
  by_cases hlt:k<vs.length
  ·obtain ⟨o,ho⟩:=mem_get hlt
   obtain ⟨b,oo,hia,hr⟩:=RdS.elem (g:=OV.cells) (λ_=>rfl) h ho rfl;rw[hia];have htk:=take_snoc ho
   by_cases he:o.id≤s
   ·refine Q.r ?_;(repeat (intro b1;refine Q.r ?_))
    refine ⟨(k+1,some o),zt,by exact eG,⟨by dsimp only;omega,?_⟩,by dsimp only;omega⟩;dsimp only;rw[htk,List.filter_append,List.filter_cons_of_pos (by simpa using he)]
    simp
   ·refine Q.r ?_;(repeat (intro b1;refine Q.r ?_))
    refine ⟨(k+1,u),zt,by exact eG,⟨by dsimp only;omega,?_⟩,by dsimp only;omega⟩;dsimp only;rw[htk,List.filter_append,List.filter_cons_of_neg (by simpa using he),hu]
    simp
  ·have hke:k=vs.length:=by omega
   subst hke;rw[List.take_length] at hu;refine Q.r ?_;exact ⟨u,zt,Ent.refl _,hu⟩
 intro u hu;refine Q.r ?_;refine N.t rfl (Ent.refl _) ⟨⟨u,rfl,λo ho=> ?_,?_⟩,rfl⟩
 ·rw[ho] at hu
  exact (List.mem_filter.1 (List.mem_of_getLast? hu.symm)).1
 ·have e:((vs.map OV.abs).filter λv=>decide (v.1≤s))=(vs.filter λo=>decide (o.id≤s)).map OV.abs:=by rw[List.filter_map];rfl
  rw[at_last hs,e,List.getLast?_map,←hu]
  cases u<;>rfl
theorem RBlocked_spec (p:Nat)(st:VS)(n:Nat)(M:OM)(a:OA)(es:List EV)(c:Nat)(a':OA)(is:List IV)(c':Nat)(s:Int)(ai:OA)(ci:Nat)(ids:List Int)(A:HL)(hok:ROK M st a c es a' c' is)(hw:WF st n)(hn:n≤10000)(hi:RdS (rP p st.dim a es c a' is c' st.mark::roM M::A) ai ids.length 1 (ids.map U64))(hil:ids.length≤1000000):
  CallsS Tryz.prog 58 [ptrV p,.int .u64 s,.slice ai ids.length ci] (rP p st.dim a es c a' is c' st.mark::roM M::A) (λr L'=>r=.bool (blockedV st s ids)∧L'=rP p st.dim a es c a' is c' st.mark::roM M::A):=by
 have hisl:is.length≤n:=by rw[hok.len.1];exact hw.il
 have hany:blockedV st s ids=is.any λi=>decide (i.after<s)&&(decide (ids.length=0)||ids.any λid=>holdsV (i.ops.map OV.abs) id):=by
  unfold blockedV;have h1:((is.map IV.abs).any λi=>decide (i.2.1<s)&&(decide (ids.length=0)||ids.any λid=>holdsV i.2.2 id))=st.its.any λi=>decide (i.2.1<s)&&(decide (ids.length=0)||ids.any λid=>holdsV i.2.2 id):=hok.its.any_eq
  rw[←h1,List.any_map];rfl
 rw[hany];refine CallsS.of_body Tryz.func58 rfl rfl rfl ?_;refine Q.r ?_;refine swp_cutB (σ:=Unit) (λ_=> []) (λ_=>rP p st.dim a es c a' is c' st.mark::roM M::A) (λ_=>(is.any λi=>decide (i.after<s)&&(decide (ids.length=0)||ids.any λid=>holdsV (i.ops.map OV.abs) id))=false) ?_ ?_
 ·refine swp_loop (σ:=Nat) (λk=> [(1,.int .u64 s),(2,.slice ai ids.length ci),(17,.slice a' is.length c'),(18,.int .i64 is.length),(19,.int .i64 k)]) (λ_=>rP p st.dim a es c a' is c' st.mark::roM M::A)
   (λk=>k≤is.length∧((is.take k).any λi=>decide (i.after<s)&&(decide (ids.length=0)||ids.any λid=>holdsV (i.ops.map OV.abs) id))=false) (λk=>is.length - k) 0 zt (Ent.refl _) ⟨by omega,by simp⟩ ?_
  rintro k ⟨hk,hno⟩
  by_cases hlt:k<is.length
  ·obtain ⟨x,hx⟩:=mem_get hlt
   have hmx:x∈is:=List.mem_of_getElem? hx;have hxl:x.ops.length≤16:=by
    have:=(hw.io x.abs (hok.its.mem_iff.1 (List.mem_map_of_mem hmx))).1
    simpa using this
   have hrs:RdS (rP p st.dim a es c a' is c' st.mark::roM M::A) a' is.length 3 (is.flatMap IV.cells):=hok.sI.rd;obtain ⟨b,oo,hia,hr⟩:=RdS.elem (g:=IV.cells) (λ_=>rfl) hrs hx rfl;clear hrs;rw[hia] at hr ⊢;have htk:∀B,(decide (ids.length=0)||ids.any λid=>holdsV (x.ops.map OV.abs) id)=B→((is.take (k+1)).any λi=>decide (i.after<s)&&(decide (ids.length=0)||ids.any λid=>holdsV (i.ops.map OV.abs) id))=(decide (x.after<s)&&B):=λB hB=>by
    rw[take_snoc hx,List.any_append,hno];simp[←hB]
   refine Q.r ?_;(repeat (intro b1;refine Q.r ?_));refine swp_cutB (σ:=Bool) (λu=> [(1,.int .u64 s),(2,.slice ai ids.length ci),(8,.pointer (some ⟨b1,0,none⟩)),(17,.slice (some ⟨b,oo,none⟩) is.length c'),(18,.int .i64 is.length),(19,.int .i64 k),(9,.bool u)]) (λ_=>pt b1 (cl x.cells 151)::rP p st.dim (a) es c (some ⟨b,oo,none⟩) is c' st.mark::roM M::A) (λu=>(decide (ids.length=0)||ids.any λid=>holdsV (x.ops.map OV.abs) id)=u) ?_ ?_
   ·refine swp_loop (σ:=Nat) (λj=> [(1,.int .u64 s),(2,.slice ai ids.length ci),(8,.pointer (some ⟨b1,0,none⟩)),(17,.slice (some ⟨b,oo,none⟩) is.length c'),(18,.int .i64 is.length),(19,.int .i64 k),(26,.slice ai ids.length ci),(27,.int .i64 ids.length),(9,.bool (decide (ids.length=0)||(ids.take j).any λid=>holdsV (x.ops.map OV.abs) id)),(28,.int .i64 j)]) (λ_=>pt b1 (cl x.cells 151)::rP p st.dim a es c (some ⟨b,oo,none⟩) is c' st.mark::roM M::A)
     (λj=>j≤ids.length) (λj=>ids.length - j) 0 ⟨rfl,rfl,rfl,rfl,rfl,rfl,rfl,rfl,congrArg some (congrArg Value.bool (by by_cases h0:ids.length=0<;>simp[h0])),rfl,trivial⟩ eG zo ?_
    intro j hj
    by_cases hjl:j<ids.length
    ·obtain ⟨y,hy⟩:=mem_get hjl
     have h0:¬ids.length=0:=by omega
     rw[decide_eq_false h0,Bool.false_or];have hrs:RdS (rP p st.dim a es c a' is c' st.mark::roM M::A) ai ids.length 1 (ids.flatMap cU):=by rw[flat_U];exact hi
     obtain ⟨b3,o3,hia3,hr3⟩:=RdS.elem (g:=cU) (λ_=>rfl) hrs hy rfl;clear hrs;rw[hia] at hr3
     replace hr3:RdC (pt b1 (cl x.cells 151)::rP p st.dim a es c (some ⟨b,oo,none⟩) is c' st.mark::roM M::A) b3 (o3+j*1) (cU y):=RdC.sub hr3
     rw[hia3];have hst:(ids.take (j+1)).any (λid=>holdsV (x.ops.map OV.abs) id)=((ids.take j).any (λid=>holdsV (x.ops.map OV.abs) id)||holdsV (x.ops.map OV.abs) y):=by rw[take_snoc hy,List.any_append];simp
     cases hb:(ids.take j).any λid=>holdsV (x.ops.map OV.abs) id with
     |true=>
      refine Q.r ?_;refine ⟨j+1,⟨rfl,rfl,rfl,rfl,rfl,rfl,rfl,rfl,congrArg some (congrArg Value.bool (by rw[hst,hb];simp[h0])),rfl,trivial⟩,by exact eG,by omega,by omega⟩
     |false=>
      refine Q.r ?_;refine S.cr rfl (RHolds_spec x y _ (hok.oi x hmx).rd zo) ?_;rintro _ _ ⟨rfl,rfl⟩;refine Q.r ?_;refine ⟨j+1,⟨rfl,rfl,rfl,rfl,rfl,rfl,rfl,rfl,congrArg some (congrArg Value.bool (by rw[hst,hb];simp[h0])),rfl,trivial⟩,by exact eG,by omega,by omega⟩
    ·have hje:j=ids.length:=by omega
     subst hje;rw[List.take_length];refine Q.r ?_;exact ⟨_,zt,by exact eG,rfl⟩
   intro u hu;have htk2:=htk u hu;have hall:u=true→x.after<s→(is.any λi=>decide (i.after<s)&&(decide (ids.length=0)||ids.any λid=>holdsV (i.ops.map OV.abs) id))=true:=λh1 h2=>List.any_eq_true.2 ⟨x,hmx,by rw[hu,h1];simpa using h2⟩
   cases u with
   |false=>
    refine Q.r ?_;refine ⟨k+1,zt,by exact eG,⟨by omega,by rw[htk2,Bool.and_false]⟩,by omega⟩
   |true=>
    by_cases ha:x.after<s
    ·rw[hall rfl ha]
     refine Q.r ?_;exact N.t rfl eG ⟨rfl,rfl⟩
    ·refine Q.r ?_
     refine ⟨k+1,zt,by exact eG,⟨by omega,by rw[htk2,decide_eq_false ha];rfl⟩,by omega⟩
  ·have hke:k=is.length:=by omega
   subst hke;rw[List.take_length] at hno;refine Q.r ?_;exact ⟨(),trivial,by exact eG,hno⟩
 intro _ hno;rw[hno];refine Q.r ?_;exact N.t rfl (Ent.refl _) ⟨rfl,rfl⟩
abbrev cH (o:OV):List Value:=[.int .u64 o.id,.int .u64 0,.slice o.a o.vec.length o.c]
def hitV (ch:List (Int×VL))(s id:Int):VL:=if 0<(atV (chV ch id) s).length then [(id,atV (chV ch id) s)] else []
def scanV (st:VS)(s:Int):VL:=if openE st s []≠0 then [] else (swIds st.ch).flatMap (hitV st.ch s)
theorem ROK.esl {M:OM}{st:VS}{n:Nat}{a a':OA}{c c':Nat}{es:List EV}{is:List IV}(h:ROK M st a c es a' c' is)(hw:WF st n){e:EV}(he:e∈es):sortedV (e.vs.map OV.abs)∧e.vs.length≤n∧∀o∈e.vs,o.vec.length≤8:=by
 have:=hw.co _ (lk_memL (h.chain he));refine ⟨this.1,by simpa using this.2.1,λo ho=>this.2.2 o.abs (List.mem_map_of_mem ho)⟩
theorem ROK.chv {M:OM}{st:VS}{a a':OA}{c c':Nat}{es:List EV}{is:List IV}(h:ROK M st a c es a' c' is){e:EV}(he:e∈es):chV st.ch e.id=e.vs.map OV.abs:=by unfold chV;rw[h.chain he];rfl
theorem RGet_spec (p:Nat)(st:VS)(n:Nat)(M:OM)(a:OA)(es:List EV)(c:Nat)(a':OA)(is:List IV)(c':Nat)(id s:Int)(A:HL)(hok:ROK M st a c es a' c' is)(hw:WF st n)(hn:n≤10000):
  CallsS Tryz.prog 52 [ptrV p,.int .u64 id,.int .u64 s] (rP p st.dim a es c a' is c' st.mark::roM M::A) (λr L'=>(∃u:Option OV,r=.tuple #[cvO u,.int .i64 (openE st s [id])]∧(∀o,u=some o→SlM M o.a o.vec.length 1 (o.vec.map I32))∧getV st id s=(u.map (·.vec)).getD [])∧L'=rP p st.dim a es c a' is c' st.mark::roM M::A):=by
 have hel:es.length≤16*n:=by rw[hok.len.2];exact hw.cl
 unfold getV openE;refine CallsS.of_body Tryz.func52 rfl rfl rfl ?_;refine Q.r ?_;(repeat (intro b1;refine Q.r ?_));refine opsS_ent (L':=rP p st.dim a es c a' is c' st.mark::roM M::pt b1 (cl [.int .u64 id] 31)::A) eG ?_;refine S.cr rfl (RBlocked_spec p st n M a es c a' is c' s (some ⟨b1,0,none⟩) 1 [id] _ hok hw hn ⟨rfl,.inr ⟨b1,0,rfl,RdC.row⟩⟩ (by simp)) ?_;rintro _ _ ⟨rfl,rfl⟩
 cases hb:blockedV st s [id] with
 |true=>
  refine Q.r ?_;exact N.u rfl rfl eG ⟨⟨none,rfl,λo ho=>(by cases ho),rfl⟩,rfl⟩
 |false=>
  by_cases hm:s<st.mark
  ·refine Q.r ?_
   simp only[Bool.false_eq_true,if_false,if_pos hm];exact N.u rfl rfl eG ⟨⟨none,rfl,λo ho=>(by cases ho),rfl⟩,rfl⟩
  ·refine Q.r ?_
   simp only[Bool.false_eq_true,if_false,if_neg hm];refine S.cr rfl (RChain_spec p st.dim a es c a' is c' st.mark id M _ hok.sE zo) ?_;rintro _ _ ⟨⟨e,he,rfl,rfl⟩|⟨rfl,hno⟩,rfl⟩
   ·have h3:=hok.esl hw he
    refine Q.r ?_;refine S.cr rfl (RAt_spec e.a e.c e.vs s _ (hok.oe e he).1.rd zo h3.1) ?_;rintro _ _ ⟨⟨u,rfl,hu,hat⟩,rfl⟩;refine Q.r ?_;rw[hok.chv he];exact N.u rfl rfl eG ⟨⟨u,rfl,λo ho=>(hok.oe e he).2 o (hu o ho),hat⟩,rfl⟩
   ·refine Q.r ?_
    refine S.cr rfl (RAt_spec none 0 [] s _ ⟨rfl,.inl rfl⟩ (by simp) List.Pairwise.nil) ?_;rintro _ _ ⟨⟨u,rfl,hu,hat⟩,rfl⟩;refine Q.r ?_;have hcv:chV st.ch id=[]:=by unfold chV;rw[hok.noC hno];rfl
    rw[hcv];exact N.u rfl rfl eG ⟨⟨u,rfl,λo ho=>(by have:=hu o ho;cases this),hat⟩,rfl⟩
theorem RScan_spec (p:Nat)(st:VS)(n:Nat)(M:OM)(a:OA)(es:List EV)(c:Nat)(a':OA)(is:List IV)(c':Nat)(s:Int)(A:HL)(hok:ROK M st a c es a' c' is)(hw:WF st n)(hn:n≤10000):
  CallsS Tryz.prog 54 [ptrV p,.int .u64 s] (rP p st.dim a es c a' is c' st.mark::roM M::A) (λr L'=>∃(a5:OA) (c5:Nat) (us:List OV),r=.tuple #[.slice a5 us.length c5,.int .i64 (openE st s [])]∧us.map OV.abs=scanV st s∧okR M us∧us.length≤es.length∧L'=slO 219 3 a5 us.length c5 (us.flatMap cH)::rP p st.dim a es c a' is c' st.mark::roM M::A):=by
 have hel:es.length≤16*n:=by rw[hok.len.2];exact hw.cl
 unfold scanV;rw[hok.ids];unfold openE;refine CallsS.of_body Tryz.func54 rfl rfl rfl ?_;refine Q.r ?_;refine S.cr rfl (RBlocked_spec p st n M a es c a' is c' s none 0 [] _ hok hw hn ⟨rfl,.inl rfl⟩ (by simp)) ?_;rintro _ _ ⟨rfl,rfl⟩
 cases hb:blockedV st s [] with
 |true=>
  refine Q.r ?_;exact N.u rfl rfl (Ent.trans eG slO_nil) ⟨none,0,[],rfl,rfl,λo ho=>(by cases ho),Nat.zero_le _,rfl⟩
 |false=>
  by_cases hm:s<st.mark
  ·refine Q.r ?_
   simp only[Bool.false_eq_true,if_false,if_pos hm];exact N.u rfl rfl (Ent.trans eG slO_nil) ⟨none,0,[],rfl,rfl,λo ho=>(by cases ho),Nat.zero_le _,rfl⟩
  ·simp only[Bool.false_eq_true,if_false,if_neg hm]
   rw[if_neg (show ¬((0:Int)≠0) by simp)];refine Q.r ?_;refine swp_cutB (σ:=OA×Nat×List OV) (λu=> [(6,.slice u.1 u.2.2.length u.2.1)]) (λu=>slO 219 3 u.1 u.2.2.length u.2.1 (u.2.2.flatMap cH)::rP p st.dim a es c a' is c' st.mark::roM M::A) (λu=>okR M u.2.2∧u.2.2.length≤es.length∧u.2.2.map OV.abs=(es.map (·.id)).flatMap (hitV st.ch s)) ?_ ?_
   ·refine swp_loop (σ:=Nat×OA×Nat×List OV) (λu=> [(1,.int .u64 s),(27,.slice a es.length c),(28,.int .i64 es.length),(6,.slice u.2.1 u.2.2.2.length u.2.2.1),(29,.int .i64 u.1)]) (λu=>slO 219 3 u.2.1 u.2.2.2.length u.2.2.1 (u.2.2.2.flatMap cH)::rP p st.dim a es c a' is c' st.mark::roM M::A)
     (λu=>u.1≤es.length∧okR M u.2.2.2∧u.2.2.2.length≤u.1∧u.2.2.2.map OV.abs=((es.take u.1).map (·.id)).flatMap (hitV st.ch s)) (λu=>es.length - u.1) (0,none,0,[]) zt (Ent.trans eG slO_nil) ⟨by omega,λo ho=>(by cases ho),Nat.zero_le _,rfl⟩ ?_
    rintro ⟨k,a3,c3,us⟩ ⟨hk,hou,hul,hus⟩;dsimp only at hk hou hul hus ⊢
    by_cases hlt:k<es.length
    ·obtain ⟨e,he⟩:=mem_get hlt
     have hme:e∈es:=List.mem_of_getElem? he;have h3:=hok.esl hw hme;have hrs:RdS (slO 219 3 a3 us.length c3 (us.flatMap cH)::rP p st.dim a es c a' is c' st.mark::roM M::A) a es.length 2 (es.flatMap EV.cells):=hok.sE.rd;obtain ⟨b,oo,hia,hr⟩:=RdS.elem (g:=EV.cells) (λ_=>rfl) hrs he rfl;clear hrs;rw[hia] at hr ⊢;have htk:((es.take (k+1)).map (·.id)).flatMap (hitV st.ch s)=us.map OV.abs++hitV st.ch s e.id:=by rw[take_snoc he,List.map_append,List.flatMap_append,←hus];simp
     have hh:hitV st.ch s e.id=if 0<(atV (e.vs.map OV.abs) s).length then [(e.id,atV (e.vs.map OV.abs) s)] else []:=by unfold hitV;rw[hok.chv hme]
     rw[hh] at htk;clear hh;refine Q.r ?_;(repeat (intro b1;refine Q.r ?_));refine S.cr rfl (RAt_spec e.a e.c e.vs s _ (hok.oe e hme).1.rd zo h3.1) ?_;rintro _ _ ⟨⟨u,rfl,hu,hat⟩,rfl⟩;rw[hat] at htk
     cases u with
     |none=>
      unfold cvO;refine Q.r ?_;refine ⟨(k+1,a3,c3,us),zt,by exact eG,⟨by dsimp only;omega,hou,by dsimp only;omega,by dsimp only;rw[htk];simp⟩,by dsimp only;omega⟩
     |some o=>
      have ho8:=h3.2.2 o (hu o rfl);unfold cvO;dsimp only[Option.map,Option.getD] at htk
      by_cases h0:0<o.vec.length
      ·rw[if_pos h0] at htk
       refine Q.r ?_;(repeat (intro b1;refine Q.r ?_));refine S.app rfl rfl (SrcS.sl RdC.row zr zr) zr zo zo (λa4 c4=> ?_);refine Q.r ?_;refine ⟨(k+1,a4,c4,us++[⟨e.id,o.a,o.c,o.vec⟩]),⟨rfl,rfl,rfl,congrArg some (by simp),rfl,trivial⟩,?_,⟨by dsimp only;omega,λw hw=> ?_,by simp;omega,by dsimp only;rw[htk,List.map_append];rfl⟩,by dsimp only;omega⟩
       ·dsimp only
        rw[len_snoc,flat_snoc];exact eG
       ·rcases List.mem_append.1 hw with hw|hw
        ·exact hou w hw
        ·obtain rfl:=List.mem_singleton.1 hw
         exact (hok.oe e hme).2 o (hu o rfl)
      ·rw[if_neg h0] at htk
       refine Q.r ?_;refine ⟨(k+1,a3,c3,us),zt,by exact eG,⟨by dsimp only;omega,hou,by dsimp only;omega,by dsimp only;rw[htk];simp⟩,by dsimp only;omega⟩
    ·have hke:k=es.length:=by omega
     subst hke;rw[List.take_length] at hus;refine Q.r ?_;exact ⟨(a3,c3,us),zt,by exact eG,hou,hul,hus⟩
   rintro ⟨a3,c3,us⟩ ⟨hou,hul,hus⟩;dsimp only at hou hul hus ⊢;refine Q.r ?_;exact N.u rfl rfl (Ent.refl _) ⟨a3,c3,us,rfl,hus,hou,hul,rfl⟩
theorem Mark_spec (v:Nat)(st:VS)(L:HL):
  CallsS Tryz.prog 106 [ptrV v] (vaultH v st::L) (λr L'=>r=.int .u64 st.mark∧L'=vaultH v st::L):=by
 refine calls_vault λmc mi M cs is hok=> ?_
 refine CallsS.of_body Tryz.func106 rfl rfl rfl ?_;refine Q.r ?_;exact N.t rfl (vault_shut (mc:=mc) (mi:=mi) hok) ⟨rfl,rfl⟩
theorem scan_len (ch:List (Int×VL))(s:Int)(ks:List Int):(ks.flatMap (hitV ch s)).length≤ks.length:=by
 induction ks with
 |nil=>simp
 |cons k ks ih=>
  rw[List.flatMap_cons,List.length_append,List.length_cons];have:(hitV ch s k).length≤1:=by unfold hitV;split<;>simp
  omega
theorem Scan_spec (v:Nat)(st:VS)(n:Nat)(s:Int)(L:HL)(hw:WF st n)(hn:n≤10000):
  CallsS Tryz.prog 114 [ptrV v,.int .u64 s] (vaultH v st::L)
   (λr L'=>∃(a5:OA) (c5:Nat) (us:List OV),r=.tuple #[.slice a5 us.length c5,.int .i64 (openE st s [])]∧us.map OV.abs=scanV st s∧(∀o∈us,o.vec.length=0∨∃b,o.a=some ⟨b,0,none⟩)∧us.length≤16*n∧L'=slO 219 3 a5 us.length c5 (us.flatMap cH)::vecsH us::vaultH v st::L):=by
 refine CallsS.of_body Tryz.func114 rfl rfl rfl ?_;refine Q.r ?_;refine S.cv v rfl (open_spec v st s none 0 [] _ hw.ops ⟨rfl,.inl rfl⟩ (by simp)) ?_;rintro _ _ ⟨rfl,rfl⟩;unfold scanV
 by_cases hE:openE st s []≠0
 ·rw[if_pos hE]
  refine Q.r ?_;refine N.u rfl rfl ?_ ⟨none,0,[],rfl,rfl,λo ho=>(by cases ho),Nat.zero_le _,rfl⟩;exact Ent.trans bodV_nil slO_nil
 rw[if_neg hE];have hE0:openE st s []=0:=by omega
 rw[hE0];refine Q.r ?_;refine opsS_vault v (λmc mi M cs is hok=> ?_);have hcl:cs.length=st.ch.length:=by rw[←hok.ch];simp
 have hcn:cs.length≤16*n:=by rw[hcl];exact hw.cl
 refine S.cr rfl (Ids_spec v mc mi st.dim st.mark cs _ zo) ?_;rintro _ _ ⟨a,c,rfl,rfl⟩;refine Q.r ?_;obtain ⟨ks,hks⟩:∃ks,ks=sortL (cs.map (·.1)):=⟨_,rfl⟩;have hkl:ks.length=cs.length:=by rw[hks,sortL_len,List.length_map]
 have hki:swIds st.ch=ks:=by rw[hks];unfold swIds;rw[←hok.ch,List.map_map];rfl
 rw[←hks,hki];have hkm:∀x∈ks,∃u∈cs,u.1=x:=λx hx=>by
  rw[hks] at hx;obtain ⟨u,hu,e⟩:=List.mem_map.1 ((sortL_perm _).mem_iff.1 hx);exact ⟨u,hu,e⟩
 clear hks hki;have hkk:keysOK (cs.map λc=>(c.1,c.2.2)):=by rw[hok.ch];exact hok.k1
 refine swp_addr a (λha=> ?_);rw[←hkl] at ha ⊢;refine swp_cutB (σ:=OA×Nat×List OV) (λu=> [(7,.slice u.1 u.2.2.length u.2.1)]) (λu=>slO 219 3 u.1 u.2.2.length u.2.1 (u.2.2.flatMap cH)::vecsH u.2.2::vP v mc mi st.dim st.mark::vC mc cs::vI mi is::chsH M cs::roM M::L) (λu=>u.2.2.map OV.abs=ks.flatMap (hitV st.ch s)∧∀o∈u.2.2,o.vec.length=0∨∃b,o.a=some ⟨b,0,none⟩) ?_ ?_
 ·refine swp_loop (σ:=Nat×OA×Nat×List OV) (λu=> [(0,ptrV v),(1,.int .u64 s),(19,.slice a ks.length c),(20,.int .i64 ks.length),(7,.slice u.2.1 u.2.2.2.length u.2.2.1),(21,.int .i64 u.1)])
   (λu=>slO 31 1 a ks.length c (ks.map U64)::slO 219 3 u.2.1 u.2.2.2.length u.2.2.1 (u.2.2.2.flatMap cH)::vecsH u.2.2.2::vP v mc mi st.dim st.mark::vC mc cs::vI mi is::chsH M cs::roM M::L)
   (λu=>u.1≤ks.length∧u.2.2.2.map OV.abs=(ks.take u.1).flatMap (hitV st.ch s)∧∀o∈u.2.2.2,o.vec.length=0∨∃b,o.a=some ⟨b,0,none⟩) (λu=>ks.length - u.1) (0,none,0,[]) zt ?_ ⟨by omega,rfl,λo ho=>(by cases ho)⟩ ?_
  ·refine Ent.cons ?_
   refine Ent.trans (Ent.trans ?_ bodV_nil) slO_nil;exact eG
  rintro ⟨k,a3,c3,us⟩ ⟨hk,hus,hua⟩;dsimp only at hk hus hua ⊢;have hul:us.length≤k:=by
   have h1:=congrArg List.length hus;have h2:=scan_len st.ch s (ks.take k);rw[←h1,List.length_map,List.length_take] at h2;omega
  by_cases hlt:k<ks.length
  ·obtain ⟨x,hx⟩:=mem_get hlt
   obtain ⟨u,hu,hux⟩:=hkm x (List.mem_of_getElem? hx)
   rcases ha with ha|⟨b,rfl⟩
   ·omega
   rcases cr_case cs hkk x with ⟨p,q,b2,vs,e0,e1,e2,e3,e4⟩|⟨e1,e2,e3⟩
   ·have hr:RdC (slO 31 1 (some ⟨b,0,none⟩) ks.length c (ks.map U64)::slO 219 3 a3 us.length c3 (us.flatMap cH)::vecsH us::vP v mc mi st.dim st.mark::vC mc cs::vI mi is::chsH M cs::roM M::L) b (0+k*1) (cU x):=RdC.elem (g:=cU) (λ_=>rfl) (by rw[flat_U];exact RdC.ofS) hx
    have hmc:(x,b2,vs)∈cs:=by rw[e0];simp
    obtain ⟨R,hR⟩:=chs_mem (M:=M) hmc;have hco:=hw.co (x,vs) (by rw[←hok.ch];exact List.mem_map_of_mem (f:=λc:CR=>(c.1,c.2.2)) hmc);have hcv:chV st.ch x=vs:=by unfold chV;rw[←hok.ch,e2];rfl
    have htk:(ks.take (k+1)).flatMap (hitV st.ch s)=us.map OV.abs++hitV st.ch s x:=by rw[take_snoc hx,List.flatMap_append,←hus];simp
    have hh:hitV st.ch s x=if 0<(atV vs s).length then [(x,atV vs s)] else []:=by unfold hitV;rw[hcv]
    rw[hh] at htk;clear hh;refine Q.r ?_;refine S.y (Y.lk false rfl rfl (λw=>Tryz.zeroValue197 w)) ?_;rw[e1];dsimp only;refine opsS_ent (L':=chainH M b2 vs::roM M::R::slO 31 1 (some ⟨b,0,none⟩) ks.length c (ks.map U64)::slO 219 3 a3 us.length c3 (us.flatMap cH)::vecsH us::vP v mc mi st.dim st.mark::vC mc cs::vI mi is::L) ?_ ?_
    ·refine Ent.trans (?_:Ent _ (chsH M cs::roM M::slO 31 1 (some ⟨b,0,none⟩) ks.length c (ks.map U64)::slO 219 3 a3 us.length c3 (us.flatMap cH)::vecsH us::vP v mc mi st.dim st.mark::vC mc cs::vI mi is::L)) ?_
     ·exact eG
     exact (hR _).1.trans (Ent.cons (Ent.perm (.swap _ _ _)))
    refine Q.r ?_;refine S.cr rfl (ChAt_spec M b2 vs s _ hco.1 (by have:=hco.2.1;dsimp only at this;omega) (λw hw=>by have:=hco.2.2 w hw;omega)) ?_;rintro _ _ ⟨a5,c5,rfl,rfl⟩;generalize atV vs s=w at htk ⊢;refine opsS_addr a5 (λha5=> ?_)
    by_cases h0:0<w.length
    ·rw[if_pos h0] at htk
     refine Q.r ?_;(repeat (intro b1;refine Q.r ?_));refine S.app rfl rfl (SrcS.sl RdC.row zr zr) zr zo zo (λa4 c4=> ?_);refine Q.r ?_;refine ⟨(k+1,a4,c4,us++[⟨x,a5,c5,w⟩]),⟨rfl,rfl,rfl,rfl,congrArg some (by simp),rfl,trivial⟩,?_,⟨by dsimp only;omega,by dsimp only;rw[htk,List.map_append];rfl,λo ho=> ?_⟩,by dsimp only;omega⟩
     ·dsimp only
      rw[len_snoc,flat_snoc];refine Ent.trans ?_ (Ent.cons (Ent.cons (vecs_snoc (o:=⟨x,a5,c5,w⟩) rfl)));refine Ent.pick (Ent.pick (Ent.pick (Ent.pick (Ent.pick (Ent.pick (Ent.pick ?_))))));refine Ent.trans ?_ (hR _).2;exact eG
     ·rcases List.mem_append.1 ho with ho|ho
      ·exact hua o ho
      ·obtain rfl:=List.mem_singleton.1 ho
       exact ha5
    ·rw[if_neg h0,List.append_nil] at htk
     refine Q.r ?_;refine ⟨(k+1,a3,c3,us),zt,?_,⟨by dsimp only;omega,htk.symm,hua⟩,by dsimp only;omega⟩;dsimp only;refine Ent.pick (Ent.pick (Ent.pick (Ent.pick (Ent.pick (Ent.pick ?_)))));refine Ent.trans ?_ (hR _).2;exact eG
   ·exact absurd hux (e3 u hu)
  ·have hke:k=ks.length:=by omega
   subst hke;rw[List.take_length] at hus;refine Q.r ?_;exact ⟨(a3,c3,us),⟨congrArg some (by simp),trivial⟩,by exact eG,hus,hua⟩
 rintro ⟨a3,c3,us⟩ ⟨hus,hua⟩;dsimp only at hus hua ⊢;have hul:us.length≤16*n:=by
  have h1:=congrArg List.length hus;have h2:=scan_len st.ch s ks;rw[←h1,List.length_map] at h2;omega
 refine Q.r ?_;exact N.u rfl rfl (Ent.cons (Ent.cons (vault_shut hok))) ⟨a3,c3,us,rfl,hus,hua,hul,rfl⟩
theorem allH_out {A:HP}{l L:HL}:Ent (allH (A::l)::L) (A::allH l::L):=Ent.trans Ent.open_all (Ent.cons Ent.shut_all)
theorem allH_snoc {A:HP}{l L:HL}:Ent (A::allH l::L) (allH (l++[A])::L):=by
 refine Ent.trans (Ent.cons Ent.open_all) (Ent.trans ?_ Ent.shut_all);rw[List.append_assoc];exact Ent.perm List.perm_middle.symm
abbrev opsH (e:IV):HP:=allH [slO 119 2 e.a e.ops.length e.c (e.ops.flatMap OV.cells),vecsH e.ops]
abbrev itsH (es:List IV):HP:=allH (es.map opsH)
abbrev verH (e:EV):HP:=allH [slO 116 2 e.a e.vs.length e.c (e.vs.flatMap OV.cells),vecsH e.vs]
abbrev entH (es:List EV):HP:=allH (es.map verH)
theorem pair_in {A B:HP}{L:HL}:Ent (A::B::L) (allH [A,B]::L):=Ent.shut_all (L:=[A,B])
theorem pair_out {A B:HP}{L:HL}:Ent (allH [A,B]::L) (A::B::L):=Ent.open_all
theorem its_snoc {es:List IV}{e:IV}{L:HL}:Ent (slO 119 2 e.a e.ops.length e.c (e.ops.flatMap OV.cells)::vecsH e.ops::itsH es::L) (itsH (es++[e])::L):=by
 show Ent _ (allH ((es++[e]).map opsH)::L)
 rw[List.map_append,List.map_cons,List.map_nil];exact Ent.trans pair_in allH_snoc
theorem ent_snoc {es:List EV}{e:EV}{L:HL}:Ent (slO 116 2 e.a e.vs.length e.c (e.vs.flatMap OV.cells)::vecsH e.vs::entH es::L) (entH (es++[e])::L):=by
 show Ent _ (allH ((es++[e]).map verH)::L)
 rw[List.map_append,List.map_cons,List.map_nil];exact Ent.trans pair_in allH_snoc
theorem perm_keys {α:Type}{m m':List (Int×α)}(h:keysOK m)(hn:(m'.map (·.1)).Perm (m.map (·.1)))(hs:∀u∈m',u∈m):m'.Perm m:=by
 have hn':keysOK m':=hn.nodup_iff.2 h;refine (List.perm_ext_iff_of_nodup (keys_nodup hn') (keys_nodup h)).2 λu=>⟨hs u,λhu=> ?_⟩
 obtain ⟨w,hw,e⟩:=List.mem_map.1 (hn.mem_iff.2 (List.mem_map_of_mem hu));have h1:=(lkL_iff h).2 (show (w.1,w.2)∈m from hs w hw);have h2:=(lkL_iff h).2 (show (u.1,u.2)∈m from hu);rw[e,h2] at h1;have h3:w=u:=Prod.ext e (Option.some.inj h1).symm;rw[←h3];exact hw
theorem nodup_lt {l:List Int}(h:l.Nodup)(hs:l.Pairwise (· ≤ ·)):l.Pairwise (· < ·):=
 (hs.and h).imp λ⟨h1,h2⟩=>by omega
theorem IntentsO_spec (v:Nat)(st:VS)(n:Nat)(L:HL)(hw:WF st n)(hn:n≤10000):
  CallsS Tryz.prog 105 [ptrV v] (vaultH v st::L) (λr L'=>∃(a:OA) (c:Nat) (es:List IV),r=.slice a es.length c∧(es.map IV.abs).Perm st.its∧(es.map (·.txn)).Pairwise (· < ·)∧L'=slO 100 3 a es.length c (es.flatMap IV.cells)::itsH es::vaultH v st::L):=by
 refine calls_vault λmc mi M cs is hok=> ?_
 have hcl:is.length=st.its.length:=by rw[←hok.its];simp
 have hcn:is.length≤n:=by rw[hcl];exact hw.il
 refine CallsS.of_body Tryz.func105 rfl rfl rfl ?_;refine Q.r ?_;refine S.cr rfl (MapKeysI_spec (some mi) _) ?_;rintro _ _ ⟨bm,rfl,rfl⟩;refine Q.r ?_;have hs:=KeysI_spec IV.val bm mi (is.map λi=>(i.txn,i)) (vP v mc mi st.dim st.mark::vC mc cs::chsH M cs::roM M::L);rw[List.length_map,List.map_map] at hs;refine opsS_ent (L':=pt bm (cl [.map (some mi)] 169)::vI mi is::vP v mc mi st.dim st.mark::vC mc cs::chsH M cs::roM M::L) eG ?_;refine S.cr rfl (Sorted_spec _ _ (is.map (·.txn)) _ _ (by rw[List.length_map];omega) (by rw[List.length_map];exact hs)) ?_;rintro _ _ ⟨a,c,rfl,rfl⟩;rw[List.length_map];refine Q.r ?_;obtain ⟨ks,hks⟩:∃ks,ks=sortL (is.map (·.txn)):=⟨_,rfl⟩;have hkl:ks.length=is.length:=by rw[hks,sortL_len,List.length_map]
 rw[←hks];have hkm:∀x∈ks,∃u∈is,u.txn=x:=λx hx=>by
  rw[hks] at hx;obtain ⟨u,hu,e⟩:=List.mem_map.1 ((sortL_perm _).mem_iff.1 hx);exact ⟨u,hu,e⟩
 have hkp:ks.Perm (is.map (·.txn)):=by rw[hks];exact sortL_perm _
 have hin:(is.map (·.txn)).Nodup:=by
  have:=hok.k2;unfold keysOK at this;rw[←hok.its,List.map_map] at this;exact this
 have hks2:ks.Pairwise (· < ·):=nodup_lt (hkp.nodup_iff.2 hin) (by rw[hks];exact sortL_sorted _);clear hks hs;refine swp_addr a (λha=> ?_);rw[←hkl] at ha ⊢;refine swp_cutB (σ:=OA×Nat×List IV) (λu=> [(3,.slice u.1 u.2.2.length u.2.1)]) (λu=>slO 100 3 u.1 u.2.2.length u.2.1 (u.2.2.flatMap IV.cells)::itsH u.2.2::vP v mc mi st.dim st.mark::vC mc cs::vI mi is::chsH M cs::roM M::L) (λu=>u.2.2.map (·.txn)=ks∧∀e∈u.2.2,e.abs∈st.its) ?_ ?_
 ·refine swp_loop (σ:=Nat×OA×Nat×List IV) (λu=> [(0,ptrV v),(13,.slice a ks.length c),(14,.int .i64 ks.length),(3,.slice u.2.1 u.2.2.2.length u.2.2.1),(15,.int .i64 u.1)])
   (λu=>slO 31 1 a ks.length c (ks.map U64)::slO 100 3 u.2.1 u.2.2.2.length u.2.2.1 (u.2.2.2.flatMap IV.cells)::itsH u.2.2.2::vP v mc mi st.dim st.mark::vC mc cs::vI mi is::chsH M cs::roM M::L)
   (λu=>u.1≤ks.length∧u.2.2.2.map (·.txn)=ks.take u.1∧∀e∈u.2.2.2,e.abs∈st.its) (λu=>ks.length - u.1) (0,none,0,[]) zt ?_ ⟨by omega,by simp,by simp⟩ ?_
  ·refine Ent.cons (Ent.trans (Ent.trans ?_ (Ent.shut_all (L:=[]))) slO_nil)
   exact eG
  rintro ⟨k,a3,c3,es⟩ ⟨hk,hes,hall⟩;dsimp only at hk hes hall ⊢;have hesl:es.length=k:=by
   have:=congrArg List.length hes
   simp at this;omega
  by_cases hlt:k<ks.length
  ·obtain ⟨x,hx⟩:=mem_get hlt
   obtain ⟨u,hu,hux⟩:=hkm x (List.mem_of_getElem? hx)
   rcases ha with ha|⟨b,rfl⟩
   ·omega
   cases hz:lkL (is.map λi=>(i.txn,i)) x with
   |none=>exact absurd hux (lk_none' hz _ (List.mem_map_of_mem (f:=λi:IV=>(i.txn,i)) hu))
   |some y=>
    obtain ⟨hmy,hyt⟩:=lk_mem hz;have hr:RdC (slO 31 1 (some ⟨b,0,none⟩) ks.length c (ks.map U64)::slO 100 3 a3 es.length c3 (es.flatMap IV.cells)::itsH es::vP v mc mi st.dim st.mark::vC mc cs::vI mi is::chsH M cs::roM M::L) b (0+k*1) (cU x):=RdC.elem (g:=cU) (λ_=>rfl) (by rw[flat_U];exact RdC.ofS) hx;have hyi:y.abs∈st.its:=by rw[←hok.its];exact List.mem_map_of_mem hmy
    have hio:=hw.io y.abs hyi;have hyl:y.ops.length≤16:=by simpa using hio.1
    refine Q.r ?_;refine S.y (Y.lk false rfl rfl (λw=>Tryz.zeroValue100 w)) ?_;rw[hz];dsimp only;refine S.cr rfl (copyOf_spec y _ ((hok.ok y hmy).rd) zo (λo ho=>by have:=(hio.2.2 o.abs (List.mem_map_of_mem (f:=OV.abs) ho)).1;dsimp only at this;omega)) ?_;rintro _ _ ⟨a5,c5,us,hus,rfl,rfl⟩;refine Q.r ?_;(repeat (intro b1;refine Q.r ?_));refine S.app rfl rfl (SrcS.sl RdC.row zr zr) zr zo zo (λa4 c4=> ?_);refine Q.r ?_;refine ⟨(k+1,a4,c4,es++[⟨y.txn,y.after,a5,c5,us⟩]),⟨rfl,rfl,rfl,congrArg some (by simp),rfl,trivial⟩,?_,⟨by dsimp only;omega,?_,λe he=> ?_⟩,by dsimp only;omega⟩
    ·dsimp only
     rw[len_snoc,flat_snoc];refine Ent.trans ?_ (Ent.cons (Ent.cons its_snoc));dsimp only;exact eG
    ·dsimp only
     rw[List.map_append,hes,take_snoc hx,List.map_cons,List.map_nil,hyt]
    ·rcases List.mem_append.1 he with he|he
     ·exact hall e he
     ·obtain rfl:=List.mem_singleton.1 he
      show (y.txn,y.after,us.map OV.abs)∈st.its
      rw[hus];exact hyi
  ·have hke:k=ks.length:=by omega
   subst hke;rw[List.take_length] at hes;refine Q.r ?_;exact ⟨(a3,c3,es),⟨congrArg some (by simp),trivial⟩,by exact eG,hes,hall⟩
 rintro ⟨a3,c3,es⟩ ⟨hes,hall⟩;dsimp only at hes hall ⊢;refine Q.r ?_;refine N.t rfl ?_ ⟨a3,c3,es,rfl,?_,by rw[hes];exact hks2,rfl⟩
 ·refine Ent.cons (Ent.cons ?_)
  exact vault_shut (mc:=mc) (mi:=mi) hok
 ·refine perm_keys hok.k2 ?_ (λu hu=>by obtain ⟨w,hw,rfl⟩:=List.mem_map.1 hu;exact hall w hw)
  rw[←hok.its,List.map_map,List.map_map]
  show (es.map (·.txn)).Perm (is.map (·.txn))
  rw[hes];exact hkp
theorem DumpO_spec (v:Nat)(st:VS)(n:Nat)(L:HL)(hw:WF st n)(hn:n≤10000):
  CallsS Tryz.prog 104 [ptrV v] (vaultH v st::L) (λr L'=>∃(a:OA) (c:Nat) (es:List EV),r=.slice a es.length c∧(es.map EV.abs).Perm st.ch∧(es.map (·.id)).Pairwise (· < ·)∧L'=slO 94 2 a es.length c (es.flatMap EV.cells)::entH es::vaultH v st::L):=by
 refine calls_vault λmc mi M cs is hok=> ?_
 have hcl:cs.length=st.ch.length:=by rw[←hok.ch];simp
 have hcn:cs.length≤16*n:=by rw[hcl];exact hw.cl
 refine CallsS.of_body Tryz.func104 rfl rfl rfl ?_;refine Q.r ?_;refine S.cr rfl (Ids_spec v mc mi st.dim st.mark cs _ zo) ?_;rintro _ _ ⟨a,c,rfl,rfl⟩;refine Q.r ?_;obtain ⟨ks,hks⟩:∃ks,ks=sortL (cs.map (·.1)):=⟨_,rfl⟩;have hkl:ks.length=cs.length:=by rw[hks,sortL_len,List.length_map]
 rw[←hks];have hkm:∀x∈ks,∃u∈cs,u.1=x:=λx hx=>by
  rw[hks] at hx;obtain ⟨u,hu,e⟩:=List.mem_map.1 ((sortL_perm _).mem_iff.1 hx);exact ⟨u,hu,e⟩
 have hkk:keysOK (cs.map λc=>(c.1,c.2.2)):=by rw[hok.ch];exact hok.k1
 have hin:(cs.map (·.1)).Nodup:=by
  unfold keysOK at hkk;rw[List.map_map] at hkk;exact hkk
 have hkp:ks.Perm (cs.map (·.1)):=by rw[hks];exact sortL_perm _
 have hks2:ks.Pairwise (· < ·):=nodup_lt (by rw[hks];exact (sortL_perm _).nodup_iff.2 hin) (by rw[hks];exact sortL_sorted _);clear hks;refine swp_addr a (λha=> ?_);rw[←hkl] at ha ⊢;refine swp_cutB (σ:=OA×Nat×List EV) (λu=> [(3,.slice u.1 u.2.2.length u.2.1)]) (λu=>slO 94 2 u.1 u.2.2.length u.2.1 (u.2.2.flatMap EV.cells)::entH u.2.2::vP v mc mi st.dim st.mark::vC mc cs::vI mi is::chsH M cs::roM M::L) (λu=>u.2.2.map (·.id)=ks∧∀e∈u.2.2,e.abs∈st.ch) ?_ ?_
 ·refine swp_loop (σ:=Nat×OA×Nat×List EV) (λu=> [(0,ptrV v),(9,.slice a ks.length c),(10,.int .i64 ks.length),(3,.slice u.2.1 u.2.2.2.length u.2.2.1),(11,.int .i64 u.1)])
   (λu=>slO 31 1 a ks.length c (ks.map U64)::slO 94 2 u.2.1 u.2.2.2.length u.2.2.1 (u.2.2.2.flatMap EV.cells)::entH u.2.2.2::vP v mc mi st.dim st.mark::vC mc cs::vI mi is::chsH M cs::roM M::L)
   (λu=>u.1≤ks.length∧u.2.2.2.map (·.id)=ks.take u.1∧∀e∈u.2.2.2,e.abs∈st.ch) (λu=>ks.length - u.1) (0,none,0,[]) zt ?_ ⟨by omega,by simp,by simp⟩ ?_
  ·refine Ent.cons (Ent.trans (Ent.trans ?_ (Ent.shut_all (L:=[]))) slO_nil)
   exact eG
  rintro ⟨k,a3,c3,es⟩ ⟨hk,hes,hall⟩;dsimp only at hk hes hall ⊢;have hesl:es.length=k:=by
   have:=congrArg List.length hes
   simp at this;omega
  by_cases hlt:k<ks.length
  ·obtain ⟨x,hx⟩:=mem_get hlt
   obtain ⟨u,hu,hux⟩:=hkm x (List.mem_of_getElem? hx)
   rcases ha with ha|⟨b,rfl⟩
   ·omega
   rcases cr_case cs hkk x with ⟨p,q,b2,vs,e0,e1,e2,e3,e4⟩|⟨e1,e2,e3⟩
   ·have hr:RdC (slO 31 1 (some ⟨b,0,none⟩) ks.length c (ks.map U64)::slO 94 2 a3 es.length c3 (es.flatMap EV.cells)::entH es::vP v mc mi st.dim st.mark::vC mc cs::vI mi is::chsH M cs::roM M::L) b (0+k*1) (cU x):=RdC.elem (g:=cU) (λ_=>rfl) (by rw[flat_U];exact RdC.ofS) hx
    have hmc:(x,b2,vs)∈cs:=by rw[e0];simp
    obtain ⟨R,hR⟩:=chs_mem (M:=M) hmc;have hxs:(x,vs)∈st.ch:=by rw[←hok.ch];exact List.mem_map_of_mem (f:=λc:CR=>(c.1,c.2.2)) hmc
    have hco:=hw.co (x,vs) hxs;refine Q.r ?_;refine S.y (Y.lk false rfl rfl (λw=>Tryz.zeroValue197 w)) ?_;rw[e1];dsimp only;refine opsS_ent (L':=chainH M b2 vs::roM M::R::slO 31 1 (some ⟨b,0,none⟩) ks.length c (ks.map U64)::slO 94 2 a3 es.length c3 (es.flatMap EV.cells)::entH es::vP v mc mi st.dim st.mark::vC mc cs::vI mi is::L) ?_ ?_
    ·refine Ent.trans (?_:Ent _ (chsH M cs::roM M::slO 31 1 (some ⟨b,0,none⟩) ks.length c (ks.map U64)::slO 94 2 a3 es.length c3 (es.flatMap EV.cells)::entH es::vP v mc mi st.dim st.mark::vC mc cs::vI mi is::L)) ?_
     ·exact eG
     exact (hR _).1.trans (Ent.cons (Ent.perm (.swap _ _ _)))
    refine S.cr rfl (List_spec M b2 vs _ (by have:=hco.2.1;dsimp only at this;omega) (λw hw=>by have:=hco.2.2 w hw;omega)) ?_;rintro _ _ ⟨a5,c5,ovs,hov,rfl,rfl⟩;refine Q.r ?_;(repeat (intro b1;refine Q.r ?_));refine S.app rfl rfl (SrcS.sl RdC.row zr zr) zr zo zo (λa4 c4=> ?_);refine Q.r ?_;refine ⟨(k+1,a4,c4,es++[⟨x,a5,c5,ovs⟩]),⟨rfl,rfl,rfl,congrArg some (by simp),rfl,trivial⟩,?_,⟨by dsimp only;omega,?_,λe he=> ?_⟩,by dsimp only;omega⟩
    ·dsimp only
     rw[len_snoc,flat_snoc];refine Ent.trans ?_ (Ent.cons (Ent.cons ent_snoc));dsimp only;unfold vecsH;refine Ent.pick (Ent.pick (Ent.pick (Ent.pick (Ent.pick (Ent.pick (Ent.pick (Ent.pick ?_)))))));refine Ent.trans ?_ (hR _).2;exact eG
    ·dsimp only
     rw[List.map_append,hes,take_snoc hx,List.map_cons,List.map_nil]
    ·rcases List.mem_append.1 he with he|he
     ·exact hall e he
     ·obtain rfl:=List.mem_singleton.1 he
      show (x,ovs.map OV.abs)∈st.ch
      rw[hov];exact hxs
   ·exact absurd hux (e3 u hu)
  ·have hke:k=ks.length:=by omega
   subst hke;rw[List.take_length] at hes;refine Q.r ?_;exact ⟨(a3,c3,es),⟨congrArg some (by simp),trivial⟩,by exact eG,hes,hall⟩
 rintro ⟨a3,c3,es⟩ ⟨hes,hall⟩;dsimp only at hes hall ⊢;refine Q.r ?_;refine N.t rfl (Ent.cons (Ent.cons (vault_shut hok))) ⟨a3,c3,es,rfl,?_,by rw[hes];exact hks2,rfl⟩;refine perm_keys hok.k1 ?_ (λu hu=>by obtain ⟨w,hw,rfl⟩:=List.mem_map.1 hu;exact hall w hw);rw[←hok.ch,List.map_map,List.map_map]
 show (es.map (·.id)).Perm (cs.map (·.1))
 rw[hes];exact hkp
theorem abs_all {α:Type}(f:α→HP)(g:(OM)→α→Prop)(mono:∀M M' x,leM M M'→g M x→g M' x)(one:∀(x:α) (L L0:HL) (M:OM) [PickM L M L0],Ent (f x::L) (exH (λM'=>allH [pureH (leM M M'∧g M' x),roM M'])::L0)):
  ∀(xs:List α) {L L0:HL} {M:OM} [hp:PickM L M L0],Ent (allH (xs.map f)::L) (exH (λM'=>allH [pureH (leM M M'∧∀x∈xs,g M' x),roM M'])::L0):=by
 intro xs
 induction xs with
 |nil=>
  intro L L0 M hp;refine Ent.drop (hp.ent.trans ?_);refine Ent.trans ?_ (Ent.shut_ex M);refine Ent.trans ?_ Ent.shut_all;exact Ent.shut_pure ⟨leM.refl M,λo ho=>by cases ho⟩
 |cons o us ih=>
  intro L L0 M hp;refine (allH_out (A:=f o) (l:=us.map f)).trans ?_;have hp2:PickM (allH (us.map f)::L) M (allH (us.map f)::L0):=inferInstance;refine (one o _ _ M).trans ?_;refine Ent.ex λM1=>Ent.open_all.trans (Ent.pure λhs=> ?_)
  refine Ent.trans (Ent.perm (.swap _ _ _)) ?_;refine (ih (M:=M1) (L:=roM M1::L0)).trans ?_;refine Ent.ex λM2=>Ent.open_all.trans (Ent.pure λhs2=> ?_)
  refine Ent.trans ?_ (Ent.shut_ex M2);refine Ent.trans ?_ Ent.shut_all;refine Ent.shut_pure ⟨hs.1.trans hs2.1,λu hu=> ?_⟩
  rcases List.mem_cons.1 hu with rfl|hu
  ·exact mono _ _ _ hs2.1 hs.2
  ·exact hs2.2 u hu
theorem pair_abs {t sz m c:Nat}{a:OA}{cs:List Value}{us:List OV}{L L0:HL}{M:OM}[hp:PickM L M L0]:Ent (allH [slO t sz a m c cs,vecsH us]::L) (exH (λM'=>allH [pureH (leM M M'∧SlM M' a m sz cs∧okR M' us),roM M'])::L0):=by
 refine pair_out.trans ?_;have hp2:PickM (vecsH us::L) M (vecsH us::L0):=inferInstance;refine Ent.absorb.trans ?_;refine Ent.ex λM1=>Ent.open_all.trans (Ent.pure λhs=> ?_)
 refine Ent.trans (Ent.perm (.swap _ _ _)) ?_;refine (vecs_abs (M:=M1) (L:=roM M1::L0) us).trans ?_;refine Ent.ex λM2=>Ent.open_all.trans (Ent.pure λhs2=> ?_)
 refine Ent.trans ?_ (Ent.shut_ex M2);refine Ent.trans ?_ Ent.shut_all;exact Ent.shut_pure ⟨hs.1.trans hs2.1,hs.2.mono hs2.1,hs2.2⟩
theorem its_abs (es:List IV){L L0:HL}{M:OM}[hp:PickM L M L0]:Ent (itsH es::L) (exH (λM'=>allH [pureH (leM M M'∧∀e∈es,okI M' e),roM M'])::L0):=
 abs_all opsH okI (λM M' x hl h=>h.mono hl) (λx L L0 M _=>pair_abs) es
theorem ent_abs (es:List EV){L L0:HL}{M:OM}[hp:PickM L M L0]:Ent (entH es::L) (exH (λM'=>allH [pureH (leM M M'∧∀e∈es,okE M' e),roM M'])::L0):=
 abs_all verH okE (λM M' x hl h=>h.mono hl) (λx L L0 M _=>pair_abs) es
theorem opsS_absI (es:List IV){n:Nat}{ops rest:List Oper}{Q:Post}{f:Env}{L L0 L1:HL}{M:OM}[h:Pick (itsH es) L L0][h1:PickM L0 M L1](hk:∀M',leM M M'→(∀e∈es,okI M' e)→opsS Tryz.prog n ops rest Q f (roM M'::L1)):opsS Tryz.prog n ops rest Q f L:=
 opsS_ent (h.ent.trans (its_abs es)) (opsS_ex λM'=>opsS_all (opsS_pure λhh=>hk M' hh.1 hh.2))
theorem opsS_absE (es:List EV){n:Nat}{ops rest:List Oper}{Q:Post}{f:Env}{L L0 L1:HL}{M:OM}[h:Pick (entH es) L L0][h1:PickM L0 M L1](hk:∀M',leM M M'→(∀e∈es,okE M' e)→opsS Tryz.prog n ops rest Q f (roM M'::L1)):opsS Tryz.prog n ops rest Q f L:=
 opsS_ent (h.ent.trans (ent_abs es)) (opsS_ex λM'=>opsS_all (opsS_pure λhh=>hk M' hh.1 hh.2))
theorem LastP_spec (v:Nat)(st:VS)(n:Nat)(L:HL)(hw:WF st n)(hn:n≤10000):
  CallsS Tryz.prog 112 [ptrV v] (vaultH v st::L)
   (λr L'=>(∃m:Int,r=.int .u64 m∧(∀c∈st.ch,lastS c.2≤m)∧(m=0∨∃c∈st.ch,lastS c.2=m)∧0≤m)∧L'=vaultH v st::L):=by
 refine calls_vault λmc mi M cs is hok=> ?_
 refine CallsS.of_body Tryz.func112 rfl rfl rfl ?_;refine Q.r ?_;refine S.rg rfl (λr=> ?_);refine Q.r ?_;refine swp_cutB (σ:=Int) (λm=> [(3,.int .u64 m)]) (λ_=>vP v mc mi st.dim st.mark::vC mc cs::vI mi is::chsH M cs::roM M::L) (λm=>(∀c∈cs,lastS c.2.2≤m)∧(m=0∨∃c∈cs,lastS c.2.2=m)∧0≤m) ?_ ?_
 ·refine swp_loop (σ:=List Nat×Int) (λu=> [(12,.pointer (some ⟨r,0,none⟩)),(3,.int .u64 u.2)])
   (λu=>vP v mc mi st.dim st.mark::itO U64 ptrV mc r (cs.map λc=>(c.1,c.2.1)) u.1::vI mi is::chsH M cs::roM M::L)
   (λu=>u.1.Nodup∧(∀i∈u.1,i<cs.length)∧(∀i∈u.1,∀x,cs[i]? =some x→lastS x.2.2≤u.2)∧(u.2=0∨∃c∈cs,lastS c.2.2=u.2)∧0≤u.2) (λu=>cs.length - u.1.length) ([],0) zt eG ⟨by simp,by simp,by simp,.inl rfl,by simp⟩ ?_
  rintro ⟨vis,m⟩ ⟨hv1,hv2,hv3,hv4,hv5⟩;dsimp only at hv1 hv2 hv3 hv4 hv5 ⊢;refine Q.r ?_;refine S.nx rfl (λhend=> ?_) (λi p hp hi=> ?_)
  ·rw[List.length_map] at hend
   refine Q.r ?_;refine ⟨m,zt,Ent.cons itO_map,λc hc=> ?_,hv4,hv5⟩;obtain ⟨i,hi⟩:=List.mem_iff_getElem?.1 hc;exact hv3 i (hend i (List.getElem?_eq_some_iff.1 hi).1) c hi
  have hx:∃x,cs[i]? =some x∧p=(x.1,x.2.1):=by
   rw[List.getElem?_map] at hp
   cases hx:cs[i]? with
   |none=>rw[hx] at hp;cases hp
   |some x=>rw[hx] at hp;exact ⟨x,rfl,(Option.some.inj hp).symm⟩
  obtain ⟨⟨id,b2,vs⟩,hx,rfl⟩:=hx;have hmc:(id,b2,vs)∈cs:=List.mem_of_getElem? hx;obtain ⟨m1,m2,m3⟩:=vis_more hv1 hv2 (List.getElem?_eq_some_iff.1 hx).1 hi;obtain ⟨R,hR⟩:=chs_mem (M:=M) hmc;have hco:=hw.co (id,vs) (by rw[←hok.ch];exact List.mem_map_of_mem (f:=λc:CR=>(c.1,c.2.2)) hmc)
  repeat (first|(refine GQ.y ?_;refine Q.y ?_)|refine Q.go ?_|(refine GQ.g ?_;refine Q.gq ?_)|(refine GQ.s ?_;refine Q.st ?_)|(refine GQ.a ?_;refine Q.al (λb1=> ?_)))
  refine S.y (Y.en rfl hp) ?_;refine Q.r ?_;refine opsS_ent (L':=chainH M b2 vs::R::vP v mc mi st.dim st.mark::itO U64 ptrV mc r (cs.map λc=>(c.1,c.2.1)) (vis++[i])::vI mi is::roM M::L) ?_ ?_
  ·refine Ent.trans (?_:Ent _ (chsH M cs::vP v mc mi st.dim st.mark::itO U64 ptrV mc r (cs.map λc=>(c.1,c.2.1)) (vis++[i])::vI mi is::roM M::L)) ?_
   ·exact eG
   exact (hR _).1
  refine S.cr rfl (ChLast_spec M b2 vs _ (by have:=hco.2.1;dsimp only at this;omega)) ?_;rintro _ _ ⟨rfl,rfl⟩;refine Q.r ?_;refine ⟨(vis++[i],max m (lastS vs)),zt,?_,⟨m1,m2,λj hj y hy=> ?_,?_,by dsimp only;omega⟩,by simp;omega⟩
  ·dsimp only
   refine Ent.trans ((hR _).2) ?_;exact eG
  ·dsimp only
   rcases List.mem_append.1 hj with hj|hj
   ·have:=hv3 j hj y hy;omega
   ·obtain rfl:=List.mem_singleton.1 hj
    rw[hx] at hy;obtain rfl:=Option.some.inj hy;dsimp only;omega
  ·dsimp only
   by_cases hm:lastS vs≤m
   ·rw[show max m (lastS vs)=m by omega];exact hv4
   ·rw[show max m (lastS vs)=lastS vs by omega];exact .inr ⟨_,hmc,rfl⟩
 rintro m ⟨h1,h2,h3⟩;refine Q.r ?_;refine N.t rfl (vault_shut hok) ⟨⟨m,rfl,λc hc=> ?_,?_,h3⟩,rfl⟩
 ·rw[←hok.ch] at hc
  obtain ⟨u,hu,rfl⟩:=List.mem_map.1 hc;exact h1 u hu
 ·rcases h2 with h2|⟨c,hc,h2⟩
  ·exact .inl h2
  ·exact .inr ⟨(c.1,c.2.2),by rw[←hok.ch];exact List.mem_map_of_mem (f:=λc:CR=>(c.1,c.2.2)) hc,h2⟩
theorem at_len {st:VS}{n:Nat}(hw:WF st n)(id s:Int):(atV (chV st.ch id) s).length≤8:=by
 unfold atV
 split
 ·simp
 cases hz:(chV st.ch id)[aftN (chV st.ch id) s - 1]? with
 |none=>simp
 |some v=>
  have hm:=List.mem_of_getElem? hz;unfold chV at hm
  cases hy:lkL st.ch id with
  |none=>rw[hy] at hm;cases hm
  |some vs=>
   rw[hy] at hm;exact (hw.co _ (lk_memL hy)).2.2 v hm
theorem RLast_spec (p:Nat)(st:VS)(n:Nat)(M:OM)(a:OA)(es:List EV)(c:Nat)(a':OA)(is:List IV)(c':Nat)(A:HL)(hok:ROK M st a c es a' c' is)(hw:WF st n)(hn:n≤10000):
  CallsS Tryz.prog 59 [ptrV p] (rP p st.dim a es c a' is c' st.mark::roM M::A) (λr L'=>(∃m:Int,r=.int .u64 m∧(∀c∈st.ch,lastS c.2≤m)∧(m=0∨∃c∈st.ch,lastS c.2=m)∧0≤m)∧L'=rP p st.dim a es c a' is c' st.mark::roM M::A):=by
 have hel:es.length≤16*n:=by rw[hok.len.2];exact hw.cl
 refine CallsS.of_body Tryz.func59 rfl rfl rfl ?_;refine Q.r ?_;refine swp_cutB (σ:=Int) (λm=> [(3,.int .u64 m)]) (λ_=>rP p st.dim a es c a' is c' st.mark::roM M::A) (λm=>(∀e∈es,lastS (e.vs.map OV.abs)≤m)∧(m=0∨∃e∈es,lastS (e.vs.map OV.abs)=m)∧0≤m) ?_ ?_
 ·refine swp_loop (σ:=Nat×Int) (λu=> [(11,.slice a es.length c),(12,.int .i64 es.length),(3,.int .u64 u.2),(13,.int .i64 u.1)]) (λ_=>rP p st.dim a es c a' is c' st.mark::roM M::A)
   (λu=>u.1≤es.length∧(∀e∈es.take u.1,lastS (e.vs.map OV.abs)≤u.2)∧(u.2=0∨∃e∈es,lastS (e.vs.map OV.abs)=u.2)∧0≤u.2) (λu=>es.length - u.1) (0,0) zt (Ent.refl _) ⟨by omega,by simp,.inl rfl,by simp⟩ ?_
  rintro ⟨k,m⟩ ⟨hk,h1,h2,h3⟩;dsimp only at hk h1 h2 h3 ⊢
  by_cases hlt:k<es.length
  ·obtain ⟨e,he⟩:=mem_get hlt
   have hme:e∈es:=List.mem_of_getElem? he;have h4:=hok.esl hw hme;have hrs:RdS (rP p st.dim a es c a' is c' st.mark::roM M::A) a es.length 2 (es.flatMap EV.cells):=hok.sE.rd;obtain ⟨b,oo,hia,hr⟩:=RdS.elem (g:=EV.cells) (λ_=>rfl) hrs he rfl;clear hrs;rw[hia] at hr ⊢;refine Q.r ?_;(repeat (intro b1;refine Q.r ?_));refine S.cr rfl (Rlast_spec e.a e.c e.vs _ (hok.oe e hme).1.rd zo) ?_;rintro _ _ ⟨rfl,rfl⟩;refine Q.r ?_;refine ⟨(k+1,max m (lastS (e.vs.map OV.abs))),zt,by exact eG,⟨by dsimp only;omega,λf hf=> ?_,?_,by dsimp only;omega⟩,by dsimp only;omega⟩
   ·dsimp only at hf ⊢
    rw[take_snoc he] at hf
    rcases List.mem_append.1 hf with hf|hf
    ·have:=h1 f hf;omega
    ·obtain rfl:=List.mem_singleton.1 hf
     omega
   ·dsimp only
    by_cases hm:lastS (e.vs.map OV.abs)≤m
    ·rw[show max m (lastS (e.vs.map OV.abs))=m by omega];exact h2
    ·rw[show max m (lastS (e.vs.map OV.abs))=lastS (e.vs.map OV.abs) by omega];exact .inr ⟨_,hme,rfl⟩
  ·have hke:k=es.length:=by omega
   subst hke;rw[List.take_length] at h1;refine Q.r ?_;exact ⟨m,zt,Ent.refl _,h1,h2,h3⟩
 rintro m ⟨h1,h2,h3⟩;refine Q.r ?_;refine N.t rfl (Ent.refl _) ⟨⟨m,rfl,λu hu=> ?_,?_,h3⟩,rfl⟩
 ·obtain ⟨e,he,rfl⟩:=List.mem_map.1 (hok.ch.mem_iff.2 hu)
  exact h1 e he
 ·rcases h2 with h2|⟨e,he,h2⟩
  ·exact .inl h2
  ·exact .inr ⟨e.abs,hok.ch.mem_iff.1 (List.mem_map_of_mem he),h2⟩
structure okN (M:OM)(n:NV):Prop where
 p:SlM M n.pa n.parts.length 1 (n.parts.map I64)
 o:SlM M n.oa n.ops.length 2 (n.ops.flatMap OV.cells)∧okR M n.ops
 v:SlM M n.va n.vec.length 1 (n.vec.map I32)
 h:SlM M n.ha n.hits.length 3 (n.hits.flatMap HV.cells)
 hv:∀h∈n.hits,SlM M h.a h.vec.length 1 (h.vec.map I32)
theorem okN.mono {M M':OM}{n:NV}(h:okN M n)(hl:leM M M'):okN M' n:=⟨h.p.mono hl,⟨h.o.1.mono hl,λo ho=>(h.o.2 o ho).mono hl⟩,h.v.mono hl,h.h.mono hl,λx hx=>(h.hv x hx).mono hl⟩
theorem okN.rd {M:OM}{n:NV}(h:okN M n){L:HL}[HasM M L]:RdN L n:=⟨h.p.rd,⟨h.o.1.rd,λo ho=>(h.o.2 o ho).rd⟩,h.v.rd,h.h.rd,λx hx=>(h.hv x hx).rd⟩
def TabM (M:OM):Prop:=SlM M (some ⟨0,0,none⟩) 46 1 sortsC
theorem TabM.mono {M M':OM}(h:TabM M)(hl:leM M M'):TabM M':=SlM.mono h hl
theorem TabM.rd {M:OM}(h:TabM M){L:HL}[HasM M L]:RdC L 0 0 sortsC:=by
 have h1:RdS L (some ⟨0,0,none⟩) 46 1 sortsC:=SlM.rd h
 rcases h1.2 with h2|⟨b,o,e,r⟩
 ·cases h2
 ·cases e;exact r
structure NumN (n:NV):Prop where
 kind:0≤n.kind∧n.kind≤255
 txn:0≤n.txn
 stamp:0≤n.stamp
 mark:0≤n.mark
 after:0≤n.after
abbrev NA.nv (r:NA):NV:=⟨r.kind,r.txn,r.batch,r.stamp,r.after,r.mark,r.query,r.id,r.k,r.ef,r.code,r.who,none,0,[],none,0,[],none,0,[],none,0,[]⟩
theorem SlM.nil0 {M:OM}{a:OA}{sz:Nat}:SlM M a 0 sz []:=⟨by simp,.inl rfl⟩
theorem okN.nv {M:OM}(r:NA):okN M r.nv:=⟨SlM.nil0,⟨SlM.nil0,λo ho=>by cases ho⟩,SlM.nil0,SlM.nil0,λo ho=>by cases ho⟩
theorem OkN.nv (r:NA):OkN r.nv:=⟨Nat.zero_le _,Nat.zero_le _,(λo ho=>by cases ho),Nat.zero_le _,Nat.zero_le _,(λo ho=>by cases ho)⟩
abbrev ptrJ (p:Nat):Value:=.pointer (some ⟨p,0,none⟩)
theorem lockS_dim (st:VS)(t a:Int)(ops:VL):(lockS st t a ops).dim=st.dim:=by
 unfold lockS
 split<;>rfl
theorem applyS_dim (st:VS)(t s:Int):(applyS st t s).dim=st.dim:=by
 unfold applyS
 split
 ·rfl
 ·split<;>rfl
theorem sweepS_dim (st:VS)(s:Int):(sweepS st s).dim=st.dim:=by
 unfold sweepS
 split<;>rfl
structure PV where
 a:OA
 c:Nat
 l:List Int
abbrev PV.val (v:PV):Value:=.slice v.a v.l.length v.c
structure JQ (M:OM)(j:JS)(sf:Int)(ps:List (Int×PV)):Prop where
 s1:1≤sf
 s2:sf=j.v.dim
 pt:ps.map (λu=>(u.1,u.2.l))=j.parts
 ok:∀u∈ps,SlM M u.2.a u.2.l.length 1 (u.2.l.map I64)
theorem JQ.mono {M M':OM}{j:JS}{self:Int}{ps:List (Int×PV)}(h:JQ M j self ps)(hl:leM M M'):JQ M' j self ps:=⟨h.s1,h.s2,h.pt,λu hu=>(h.ok u hu).mono hl⟩
abbrev jP (p v:Nat)(self dim:Int)(mp md:Nat):HP:=pt p (cl [ptrV v,.int .i64 self,.int .i64 dim,.map (some mp),.map (some md)] 63)
abbrev jT (mp:Nat)(ps:List (Int×PV)):HP:=mpO U64 PV.val mp ps
abbrev jD (md:Nat)(d:List (Int×Int)):HP:=mpO U64 U64 md d
structure JX where
 v:Nat
 mp:Nat
 md:Nat
 self:Int
 ps:List (Int×PV)
def jurH (M:OM)(p:Nat)(j:JS):HP:=exH λx:JX=>allH [pureH (JQ M j x.self x.ps),jP p x.v x.self j.v.dim x.mp x.md,vaultH x.v j.v,jT x.mp x.ps,jD x.md j.done]
theorem jur_shut {p v mp md:Nat}{self dim:Int}{M:OM}{j:JS}{ps:List (Int×PV)}{L:HL}(h:JQ M j self ps)(hd:dim=j.v.dim):Ent (jP p v self dim mp md::vaultH v j.v::jT mp ps::jD md j.done::L) (jurH M p j::L):=by
 subst hd;exact Ent.trans (Ent.shut_pure h) (Ent.trans (Ent.shut_all (L:=[_,_,_,_,_])) (Ent.shut_ex (P:=λx:JX=>allH [pureH (JQ M j x.self x.ps),jP p x.v x.self j.v.dim x.mp x.md,vaultH x.v j.v,jT x.mp x.ps,jD x.md j.done]) ⟨v,mp,md,self,ps⟩))
theorem jur_open {p:Nat}{M:OM}{j:JS}{L L':HL}(h:∀v mp md self ps,JQ M j self ps→Ent (jP p v self j.v.dim mp md::vaultH v j.v::jT mp ps::jD md j.done::L) L'):Ent (jurH M p j::L) L':=
 Ent.ex λx=>Ent.open_all.trans (Ent.pure λhx=>h x.v x.mp x.md x.self x.ps hx)
theorem jur_mono {p:Nat}{M M':OM}{j:JS}{L:HL}(hl:leM M M'):Ent (jurH M p j::L) (jurH M' p j::L):=jur_open λ_ _ _ _ _ hq=>jur_shut (hq.mono hl) rfl
theorem calls_jur {g:FuncId}{args:List Value}{R:Value→HL→Prop}{p:Nat}{M:OM}{j:JS}{L:HL}
  (h:∀v mp md self ps,JQ M j self ps→CallsS Tryz.prog g args (jP p v self j.v.dim mp md::vaultH v j.v::jT mp ps::jD md j.done::L) R):CallsS Tryz.prog g args (jurH M p j::L) R:=
 CallsS.ex λx=>CallsS.all (CallsS.pure λhx=>h x.v x.mp x.md x.self x.ps hx)
class PickJ (p:Nat)(L:HL)(M:outParam (OM))(j:outParam JS)(L0:outParam (HL)):Prop where
 ent:Ent L (jurH M p j::L0)
instance PickJ.here {p:Nat}{M:OM}{L:HL}{j:JS}:PickJ p (jurH M p j::L) M j L:=⟨Ent.refl _⟩
instance (priority :=low) PickJ.there {p:Nat} {M:OM} {A:HP} {L L0:HL} {j:JS} [h:PickJ p L M j L0]:PickJ p (A::L) M j (A::L0):=⟨(h.ent.cons).trans (Ent.perm (.swap _ _ _))⟩
section
variable {n : Nat} {ops rest : List Oper} {cd : Code} {Q : Post} {f : Env} {L L0 : HL} {M : OM} {j : JS}
theorem swp_jur (p:Nat)[hp:PickJ p L M j L0](h:∀v mp md self ps,JQ M j self ps→swp Tryz.prog n cd Q f (jP p v self j.v.dim mp md::vaultH v j.v::jT mp ps::jD md j.done::L0)):swp Tryz.prog n cd Q f L:=
 swp_ent hp.ent (swp_ex λx=>swp_all (swp_pure λhx=>h x.v x.mp x.md x.self x.ps hx))
theorem opsS_jur (p:Nat)[hp:PickJ p L M j L0](h:∀v mp md self ps,JQ M j self ps→opsS Tryz.prog n ops rest Q f (jP p v self j.v.dim mp md::vaultH v j.v::jT mp ps::jD md j.done::L0)):opsS Tryz.prog n ops rest Q f L:=
 opsS_ent hp.ent (opsS_ex λx=>opsS_all (opsS_pure λhx=>h x.v x.mp x.md x.self x.ps hx))
theorem S.cj {d:Tmp}{ty:TypeId}{pos:String}{af:Array Edge}{g:FuncId}{xs:Array Operand}{ats:Array TypeId}{args:List Value}{R:Value→HL→Prop}{M2:OM}{L1:HL}(p:Nat)[hp:PickJ p L M j L0][hm:PickM L0 M2 L1][he:Enters Tryz.prog g](hx:argsL f xs.toList=some args)(hc:CallsS Tryz.prog g args (jurH M p j::roM M2::L1) R)(hk:∀v L',R v L'→opsS Tryz.prog n ops rest Q (upd f d v) L'):
  opsS Tryz.prog n ops (⟨some d,.call ⟨.value (.func g),xs,ats⟩,ty,pos,af,none⟩::rest) Q f L:=opsS_ent (hp.ent.trans (Ent.cons hm.ent)) (S.cr hx hc hk)
theorem S.cjn {d:Tmp}{ty:TypeId}{pos:String}{af:Array Edge}{g:FuncId}{xs:Array Operand}{ats:Array TypeId}{args:List Value}{R:Value→HL→Prop}(p:Nat)[hp:PickJ p L M j L0][he:Enters Tryz.prog g](hx:argsL f xs.toList=some args)(hc:CallsS Tryz.prog g args (jurH M p j::L0) R)(hk:∀v L',R v L'→opsS Tryz.prog n ops rest Q (upd f d v) L'):
  opsS Tryz.prog n ops (⟨some d,.call ⟨.value (.func g),xs,ats⟩,ty,pos,af,none⟩::rest) Q f L:=opsS_ent hp.ent (S.cr hx hc hk)
end
theorem jclose {p v mp md:Nat}{sf dim:Int}{M:OM}{j:JS}{ps:List (Int×PV)}{L L0 L1 L2 L3:HL}[h1:Pick (jP p v sf dim mp md) L L0][h2:Pick (vaultH v j.v) L0 L1][h3:Pick (jT mp ps) L1 L2][h4:Pick (jD md j.done) L2 L3](hq:JQ M j sf ps)(hd:dim=j.v.dim):Ent L (jurH M p j::L3):=
 Ent.trans h1.ent (Ent.trans (Ent.cons (Ent.trans h2.ent (Ent.cons (Ent.trans h3.ent (Ent.cons h4.ent))))) (jur_shut hq hd))
theorem vaultOf_spec (p v:Nat)(self dim:Int)(mp md:Nat)(L:HL):
  CallsS Tryz.prog 103 [ptrJ p] (jP p v self dim mp md::L) (λr L'=>r=ptrV v∧L'=jP p v self dim mp md::L):=by
 refine CallsS.of_body Tryz.func103 rfl rfl rfl ?_;refine Q.r ?_;exact N.t rfl (Ent.refl _) ⟨rfl,rfl⟩
theorem JMark_spec (M:OM)(p:Nat)(j:JS)(L:HL):
  CallsS Tryz.prog 39 [ptrJ p] (jurH M p j::L) (λr L'=>r=.int .u64 j.v.mark∧L'=jurH M p j::L):=by
 refine calls_jur λv mp md self ps hq=> ?_
 refine CallsS.of_body Tryz.func39 rfl rfl rfl ?_;refine Q.r ?_;refine S.cr rfl (vaultOf_spec p v self j.v.dim mp md _) ?_;rintro _ _ ⟨rfl,rfl⟩;refine Q.r ?_;refine S.cv v rfl (Mark_spec v j.v _) ?_;rintro _ _ ⟨rfl,rfl⟩;refine Q.r ?_;exact N.t rfl (Ent.trans (Ent.perm (.swap _ _ _)) (jur_shut hq rfl)) ⟨rfl,rfl⟩
theorem JIntents_spec (M:OM)(p:Nat)(j:JS)(n:Nat)(L:HL)(hw:WF j.v n)(hn:n≤10000):
  CallsS Tryz.prog 38 [ptrJ p] (jurH M p j::roM M::L) (λr L'=>∃(a:OA) (c:Nat) (es:List IV) (M':OM),r=.slice a es.length c∧leM M M'∧SlM M' a es.length 3 (es.flatMap IV.cells)∧(∀e∈es,okI M' e)∧(es.map IV.abs).Perm j.v.its∧L'=jurH M' p j::roM M'::L):=by
 refine calls_jur λv mp md self ps hq=> ?_
 refine CallsS.of_body Tryz.func38 rfl rfl rfl ?_;refine Q.r ?_;refine S.cr rfl (vaultOf_spec p v self j.v.dim mp md _) ?_;rintro _ _ ⟨rfl,rfl⟩;refine Q.r ?_;refine S.cv v rfl (IntentsO_spec v j.v n _ hw hn) ?_;rintro _ _ ⟨a,c,es,rfl,hp,hs,rfl⟩;refine opsS_abs a (λM1 hl1 hs1=> ?_);refine opsS_absI es (λM2 hl2 hs2=> ?_);refine Q.r ?_;refine N.t rfl (Ent.trans (M:=jP p v self j.v.dim mp md::vaultH v j.v::jT mp ps::jD md j.done::roM M2::L) eG (jur_shut (hq.mono (hl1.trans hl2)) rfl)) ⟨a,c,es,M2,rfl,hl1.trans hl2,hs1.mono hl2,hs2,hp,rfl⟩
theorem JDump_spec (M:OM)(p:Nat)(j:JS)(n:Nat)(L:HL)(hw:WF j.v n)(hn:n≤10000):
  CallsS Tryz.prog 37 [ptrJ p] (jurH M p j::roM M::L) (λr L'=>∃(a:OA) (c:Nat) (es:List EV) (M':OM),r=.slice a es.length c∧leM M M'∧SlM M' a es.length 2 (es.flatMap EV.cells)∧(∀e∈es,okE M' e)∧(es.map EV.abs).Perm j.v.ch∧L'=jurH M' p j::roM M'::L):=by
 refine calls_jur λv mp md self ps hq=> ?_
 refine CallsS.of_body Tryz.func37 rfl rfl rfl ?_;refine Q.r ?_;refine S.cr rfl (vaultOf_spec p v self j.v.dim mp md _) ?_;rintro _ _ ⟨rfl,rfl⟩;refine Q.r ?_;refine S.cv v rfl (DumpO_spec v j.v n _ hw hn) ?_;rintro _ _ ⟨a,c,es,rfl,hp,hs,rfl⟩;refine opsS_abs a (λM1 hl1 hs1=> ?_);refine opsS_absE es (λM2 hl2 hs2=> ?_);refine Q.r ?_;refine N.t rfl (Ent.trans (M:=jP p v self j.v.dim mp md::vaultH v j.v::jT mp ps::jD md j.done::roM M2::L) eG (jur_shut (hq.mono (hl1.trans hl2)) rfl)) ⟨a,c,es,M2,rfl,hl1.trans hl2,hs1.mono hl2,hs2,hp,rfl⟩
theorem JDone_spec (M:OM)(p:Nat)(j:JS)(t:Int)(L:HL):
  CallsS Tryz.prog 49 [ptrJ p,.int .u64 t] (jurH M p j::L) (λr L'=>r=.tuple #[.int .u64 ((lkL j.done t).getD 0),.bool (lkL j.done t).isSome]∧L'=jurH M p j::L):=by
 refine calls_jur λv mp md self ps hq=> ?_
 refine CallsS.of_body Tryz.func49 rfl rfl rfl ?_;refine Q.r ?_;refine S.y (Y.lk true rfl rfl (λw=>Tryz.zeroValue31 w)) ?_
 cases hz:lkL j.done t with
 |none=>
  dsimp only;refine Q.r ?_;exact N.u rfl rfl (jur_shut hq rfl) ⟨rfl,rfl⟩
 |some s=>
  dsimp only;refine Q.r ?_;exact N.u rfl rfl (jur_shut hq rfl) ⟨rfl,rfl⟩
abbrev mailC (m:Int×NA):List Value:=Value.int .i64 m.1::m.2.nv.cells
theorem vote_spec (t c:Int)(L:HL):
  CallsS Tryz.prog 130 [.int .u64 t,.int .i64 c] L (λr L'=>r=.agg (mailC (voteN t c)).toArray∧L'=L):=by
 refine CallsS.of_body Tryz.func130 rfl rfl rfl ?_;refine Q.r ?_;(repeat (intro b1;refine Q.r ?_));exact N.r1 RV.c (Ent.drop (Ent.refl _)) ⟨rfl,rfl⟩
end Go.Proofs.YtjlgabojhnnbaaaGreatDoor
