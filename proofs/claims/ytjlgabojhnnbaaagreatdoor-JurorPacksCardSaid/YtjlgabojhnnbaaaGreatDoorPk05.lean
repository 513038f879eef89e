/- slices.Sort, slices.Sorted(maps.Keys(..)) at numbers of type uint64. The vault: ids, Dump (its length), Intents (its length), Get, Last. The vault: Get, Last. The vault's law: Few, awake. VaultApplies, walked. The ref's vault: what it is; Right, Check, Holds, Find, last, Chain, SameOps. The ref's vault: Free, SameOps, Check. The ref's vault: SameOps, Check. A slice's length is at most its capacity, as an entailment. The ref's vault: Lock. The ref's vault: Put, set. The ref's vault: Apply. The ref's vault: Apply, walked. Chains: Clone of versions, Sweep. The vault: Sweep. The ref's vault: the chain's Sweep, set of nothing. No condition. -/
import Derived.Test.YtjlgabojhnnbaaaGreatDoorPk04
set_option linter.unusedVariables false
set_option linter.unusedSimpArgs false
set_option linter.unusedSectionVars false
set_option maxHeartbeats 4000000
namespace Go.Proofs.YtjlgabojhnnbaaaGreatDoor
open Go Go.SX
attribute [local irreducible] swp opsS thenS blockS retS CallsS St Ent YieldS anyS drawS
def sortL (xs:List Int):List Int:=xs.mergeSort λx y=>decide (x≤y)
theorem sortL_perm (xs:List Int):(sortL xs).Perm xs:=List.mergeSort_perm _ _
theorem sortL_len (xs:List Int):(sortL xs).length=xs.length:=(sortL_perm xs).length_eq
theorem sortL_sorted (xs:List Int):(sortL xs).Pairwise (· ≤ ·):=by
 have:=List.pairwise_mergeSort (le:=λx y:Int=>decide (x≤y)) (λa b c h1 h2=>by simp at*;omega) (λa b=>by simp;omega) xs;exact this.imp λh=>by simpa using h
theorem sorted_uniq :∀{l1 l2:List Int},l1.Perm l2→l1.Pairwise (· ≤ ·)→l2.Pairwise (· ≤ ·)→l1=l2
 | [],l2,h,_,_=>by simpa using h
 |x::l1,[],h,_,_=>by simp at h
 |x::l1,y::l2,h,h1,h2=>by
  have hx:x∈y::l2:=h.subset (by simp);have hy:y∈x::l1:=h.symm.subset (by simp);have e:x=y:=by
   rcases List.mem_cons.1 hx with e|hx
   ·exact e
   ·rcases List.mem_cons.1 hy with e|hy
    ·exact e.symm
    ·have a:=(List.pairwise_cons.1 h2).1 x hx
     have b:=(List.pairwise_cons.1 h1).1 y hy;omega
  subst e;rw[sorted_uniq ((List.perm_cons x).1 h) (List.pairwise_cons.1 h1).2 (List.pairwise_cons.1 h2).2]
theorem sortL_eq {xs ys:List Int}(h:xs.Perm ys):sortL xs=sortL ys:=sorted_uniq ((sortL_perm xs).trans (h.trans (sortL_perm ys).symm)) (sortL_sorted _) (sortL_sorted _)
theorem insertionSort_zero (sv:Value)(L:HL):CallsS Tryz.prog 179 [sv,.int .i64 (0:Nat),.int .i64 (0:Nat)] L (λv L'=>v=.tuple #[]∧L'=L):=by
 refine CallsS.of_body Tryz.func179 rfl rfl rfl ?_;refine Q.rn ?_;refine swp_loop (σ:=Unit) (λs=> [(2,.int .i64 (0:Nat)),(6,.int .i64 (1:Nat))]) (λs=>L) (λs=>True) (λs=>0) () zt (Ent.refl _) trivial ?_;intro _ _;refine Q.rn ?_;exact N.n0 RV.nil (Ent.refl _) ⟨rfl,rfl⟩
theorem pdq_zero (sv:Value)(lim:Nat)(L:HL):CallsS Tryz.prog 171 [sv,.int .i64 (0:Nat),.int .i64 (0:Nat),.int .i64 lim] L (λv L'=>v=.tuple #[]∧L'=L):=by
 refine CallsS.of_body Tryz.func171 rfl rfl rfl ?_;refine Q.rn ?_;refine swp_loop (σ:=Unit) (λs=> [(0,sv),(1,.int .i64 (0:Nat)),(2,.int .i64 (0:Nat))]) (λs=>L) (λs=>True) (λs=>0) () zt (Ent.refl _) trivial ?_;intro _ _;refine Q.rn ?_;refine S.cr rfl (insertionSort_zero _ _) ?_;rintro _ _ ⟨rfl,rfl⟩;refine Q.rn ?_;exact N.r0 RV.nil (Ent.refl _) ⟨rfl,rfl⟩
theorem ar_toList {k:IntKind}{d:Array Int}{rs:List Value}:ar k d rs=d.toList.map (Value.int k)++rs:=rfl
theorem Sort_spec (a:OA)(m c:Nat)(xs:List Int)(L:HL)(hm:m=xs.length)(hn:m≤17592186044416):
  CallsS Tryz.prog 149 [.slice a m c] (slO 31 1 a m c (xs.map U64)::L) (λv L'=>v=.tuple #[]∧L'=slO 31 1 a m c ((sortL xs).map U64)::L):=by
 have hu:IntKind.u64.wrap (m:Int)=(m:Int):=wrap_u64 zo zo;have hl:Sort.bitsLen m≤45:=(Sort.bitsLen_le_iff m 45).2 zo
 by_cases h0:m=0
 ·have hx:xs=[]:=List.eq_nil_of_length_eq_zero zo
  subst hx;have hs:sortL []=[]:=by simp[sortL]
  rw[hs];refine CallsS.of_body Tryz.func149 rfl rfl rfl ?_;refine Q.rn ?_;refine S.y (Y.cvi rfl) ?_;rw[hu];refine Q.rn ?_;refine S.cr rfl (Len_spec m zo _) ?_;rintro _ _ ⟨rfl,rfl⟩;subst h0;refine S.cr rfl (pdq_zero _ (Sort.bitsLen 0) _) ?_;rintro _ _ ⟨rfl,rfl⟩;refine Q.rn ?_;exact N.n0 RV.nil (Ent.refl _) ⟨rfl,rfl⟩
 refine CallsS.slO zo λb rest ha hmc hlen=> ?_
 subst ha;refine CallsS.of_body Tryz.func149 rfl rfl rfl ?_;refine Q.rn ?_;refine S.y (Y.cvi rfl) ?_;rw[hu];refine Q.rn ?_;refine S.cr rfl (Len_spec m zo _) ?_;rintro _ _ ⟨rfl,rfl⟩;have hd:xs.toArray.size=m:=by simp[hm]
 refine S.cr rfl (pdq_spec b m c rest _ hn m 0 m (Sort.bitsLen m) xs.toArray zo hd zo (Nat.le_refl _) zo (.inl rfl)) ?_;rintro _ _ ⟨rfl,e,rfl,h1,h2⟩;have he:e.toList=sortL xs:=by
  have:=Sort.sorted_unique_holds (lt:=Sort.ltInt) Sort.swo_ltInt (λx y h1 h2=>by simp[Sort.ltInt] at h1 h2;omega) xs.toArray e (by rw[hd];exact h1) (by rw[hd];exact h2);rw[this];unfold sortL
  congr 1
  funext x y
  simp[Sort.ltInt]
  by_cases h:x≤y<;>simp[h]<;>omega
 refine Q.rn ?_;refine N.n0 RV.nil ?_ ⟨rfl,rfl⟩;have hen:(ar .u64 e rest)=(sortL xs).map U64++rest:=by rw[ar_toList,he]
 unfold AR;rw[hen];exact slO_shut (by simp[sortL_len,hm]) hmc (by simpa[sortL_len] using hlen)
theorem Sorted_spec (gf:FuncId)(lb:List Value)[he:Enters Tryz.prog gf](ks:List Int)(A A':HL)(hk:ks.length≤17592186044416)(hseq:SeqS Tryz.prog gf lb U64 ks.length (λxs=>xs.Perm ks) A A'):
  CallsS Tryz.prog 108 [.func (.func gf) #[] lb.toArray] A (λv L'=>∃a c,v=.slice a ks.length c∧L'=slO 31 1 a ks.length c ((sortL ks).map U64)::A'):=by
 refine CallsS.of_body Tryz.func108 rfl rfl rfl ?_;refine Q.r ?_;refine S.cr rfl (Collect_spec gf lb _ A A' (hseq.mono hk)) ?_;rintro _ _ ⟨xs,a,c,hp,rfl,rfl⟩;have hl:=hp.length_eq;refine Q.r ?_;refine S.cr rfl (Sort_spec a xs.length c xs A' rfl zo) ?_;rintro _ _ ⟨rfl,rfl⟩;rw[sortL_eq hp,hl];refine Q.r ?_;exact N.t rfl (Ent.refl _) ⟨a,c,rfl,rfl⟩
theorem chs_mem {M:OM}{cs:List CR}{x:CR}(h:x∈cs):∃R:HP,∀L,Ent (chsH M cs::L) (chainH M x.2.1 x.2.2::R::L)∧Ent (chainH M x.2.1 x.2.2::R::L) (chsH M cs::L):=by
 obtain ⟨p,q,rfl⟩:=List.append_of_mem h;exact ⟨_,λL=>⟨chs_out,chs_in⟩⟩
theorem Ids_spec (v mc mi:Nat)(dim mark:Int)(cs:List CR)(A:HL)(hn:cs.length≤17592186044416):
  CallsS Tryz.prog 135 [ptrV v] (vP v mc mi dim mark::vC mc cs::A) (λr L'=>∃a c,r=.slice a cs.length c∧L'=slO 31 1 a cs.length c ((sortL (cs.map (·.1))).map U64)::vP v mc mi dim mark::vC mc cs::A):=by
 refine CallsS.of_body Tryz.func135 rfl rfl rfl ?_;refine Q.r ?_;refine S.cr rfl (MapKeysC_spec (some mc) _) ?_;rintro _ _ ⟨bm,rfl,rfl⟩;refine Q.r ?_;refine opsS_ent (Ent.cons (Ent.perm (.swap _ _ _))) ?_;have hs:=KeysC_spec ptrV bm mc (cs.map λc=>(c.1,c.2.1)) (vP v mc mi dim mark::A);rw[List.length_map,List.map_map] at hs;refine S.cr rfl (Sorted_spec _ _ (cs.map (·.1)) _ _ (by rw[List.length_map];exact hn) (by rw[List.length_map];exact hs)) ?_;rintro _ _ ⟨a,c,rfl,rfl⟩;refine Q.r ?_;rw[List.length_map];exact N.t rfl (Ent.cons (Ent.perm (.swap _ _ _))) ⟨a,c,rfl,rfl⟩
def getV (st:VS)(id s:Int):List Int:=if openE st s [id]≠0 then [] else atV (chV st.ch id) s
theorem Get_spec (v:Nat)(st:VS)(n:Nat)(id s:Int)(L:HL)(hw:WF st n)(hn:n≤10000):
  CallsS Tryz.prog 111 [ptrV v,.int .u64 id,.int .u64 s] (vaultH v st::L)
   (λr L'=>∃a c,r=.tuple #[.slice a (getV st id s).length c,.bool (decide (0<(getV st id s).length)),.int .i64 (openE st s [id])]∧L'=slO 21 1 a (getV st id s).length c ((getV st id s).map I32)::vaultH v st::L):=by
 refine CallsS.of_body Tryz.func111 rfl rfl rfl ?_;refine Q.r ?_;(repeat (intro b1;refine Q.r ?_));refine S.cv v rfl (open_spec v st s (some ⟨b1,0,none⟩) 1 [id] _ hw.ops ?_ (by simp)) ?_
 ·exact ⟨rfl,.inr ⟨b1,0,rfl,RdC.row⟩⟩
 rintro _ _ ⟨rfl,rfl⟩;unfold getV
 by_cases hE:openE st s [id]≠0
 ·rw[if_pos hE]
  refine Q.r ?_;refine N.r3 (RV.tmp rfl (RV.tmp rfl (RV.tmp rfl RV.nil))) ?_ ⟨none,0,rfl,rfl⟩;refine Ent.trans ?_ slO_nil;exact eG
 ·rw[if_neg hE]
  have hE0:openE st s [id]=0:=by omega
  rw[hE0];refine Q.r ?_;refine opsS_vault v (λmc mi M cs is hok=> ?_);have hkk:keysOK (cs.map λc=>(c.1,c.2.2)):=by rw[hok.ch];exact hok.k1
  refine Q.r ?_;refine S.y (Y.lk false rfl rfl (λw=>Tryz.zeroValue197 w)) ?_
  rcases cr_case cs hkk id with ⟨p,q,b2,vs,e0,e1,e2,e3,e4⟩|⟨e1,e2,e3⟩
  ·have hcv:chV st.ch id=vs:=by unfold chV;rw[←hok.ch,e2];rfl
   have hmc:(id,b2,vs)∈cs:=by rw[e0];simp
   obtain ⟨R,hR⟩:=chs_mem (M:=M) hmc;have hco:=hw.co (id,vs) (by rw[←hok.ch];exact List.mem_map_of_mem (f:=λc:CR=>(c.1,c.2.2)) hmc);rw[e1,hcv];refine Q.r ?_;dsimp only;refine opsS_ent (L':=chainH M b2 vs::roM M::R::pt b1 (cl [.int .u64 id] 31)::vP v mc mi st.dim st.mark::vC mc cs::vI mi is::L) ?_ ?_
   ·refine Ent.trans (?_:Ent _ (chsH M cs::roM M::pt b1 (cl [.int .u64 id] 31)::vP v mc mi st.dim st.mark::vC mc cs::vI mi is::L)) ?_
    ·exact eG
    exact (hR _).1.trans (Ent.cons (Ent.perm (.swap _ _ _)))
   refine S.cr rfl (ChAt_spec M b2 vs s _ hco.1 (by have:=hco.2.1;dsimp only at this;omega) (λw hw=>by have:=hco.2.2 w hw;omega)) ?_;rintro _ _ ⟨a5,c5,rfl,rfl⟩;refine Q.r ?_;refine N.r3 (RV.tmp rfl (RV.tmp rfl (RV.tmp rfl RV.nil))) ?_ ⟨a5,c5,rfl,rfl⟩;refine Ent.cons ?_;refine Ent.trans ?_ (vault_shut (mc:=mc) (mi:=mi) hok);refine Ent.pick (Ent.pick (Ent.pick ?_));refine Ent.trans ?_ (hR _).2;exact eG
  ·have hcv:chV st.ch id=[]:=by unfold chV;rw[←hok.ch,e2];rfl
   rw[e1,hcv];refine Q.r ?_;refine S.cr rfl (AtN_spec s _) ?_;rintro _ _ ⟨rfl,rfl⟩;refine Q.r ?_;have hat:atV [] s=[]:=by unfold atV aftN;simp
   rw[hat];refine N.r3 (RV.tmp rfl (RV.tmp rfl (RV.tmp rfl RV.nil))) ?_ ⟨none,0,rfl,rfl⟩;refine Ent.trans ?_ slO_nil;refine Ent.trans ?_ (vault_shut (mc:=mc) (mi:=mi) hok);exact eG
def fewV (k:Nat)(ops:VL):VL:=(ops.take k).map λo=>(o.1,o.2.take 10)
theorem fewV_all {n:Nat}{l:VL}(h:l.length≤n):fewV n l=l.map λo=>(o.1,o.2.take 10):=by unfold fewV;rw[List.take_of_length_le h]
theorem FewA_spec (n:Nat)(a:OA)(c:Nat)(ops:List OV)(A:HL)(h:RdO A a ops)(hc:∀o∈ops,o.vec.length≤o.c)(hn:ops.length≤9223372036854775807)(hnn:n≤1000000):
  CallsS Tryz.prog 76 [.slice a ops.length c,.int .i64 n] A (λv L'=>∃(a':OA) (c':Nat) (us:List OV),us.map OV.abs=fewV n (ops.map OV.abs)∧(∀o∈us,o.vec.length=0∨∃b,o.a=some ⟨b,0,none⟩)∧v=.slice a' us.length c'∧L'=slO 119 2 a' us.length c' (us.flatMap OV.cells)::vecsH us::A):=by
 refine CallsS.of_body Tryz.func76 rfl rfl rfl ?_;refine Q.r ?_;refine swp_loop (σ:=Nat×OA×Nat×List OV) (λs=> [(1,.int .i64 n),(8,.slice a ops.length c),(9,.int .i64 ops.length),(5,.slice s.2.1 s.2.2.2.length s.2.2.1),(10,.int .i64 s.1)])
  (λs=>slO 119 2 s.2.1 s.2.2.2.length s.2.2.1 (s.2.2.2.flatMap OV.cells)::vecsH s.2.2.2::A)
  (λs=>s.1≤ops.length∧s.2.2.2.map OV.abs=fewV n ((ops.take s.1).map OV.abs)∧∀o∈s.2.2.2,o.vec.length=0∨∃b,o.a=some ⟨b,0,none⟩) (λs=>ops.length - s.1) (0,none,0,[]) zt ?_ ⟨by omega,by simp[fewV],by simp⟩ ?_
 ·exact Ent.trans (Ent.trans bodV_nil slO_nil) (Ent.refl _)
 rintro ⟨k,a3,c3,us⟩ ⟨hk,hus,hua⟩;dsimp only at hk hus hua ⊢;have hul:us.length=min n k:=by
  have:=congrArg List.length hus
  simp[fewV] at this;omega
 by_cases hlt:k<ops.length
 ·obtain ⟨o,ho⟩:=mem_get hlt
  have hmo:o∈ops:=List.mem_of_getElem? ho;obtain ⟨b,oo,hia,hr⟩:=RdS.elem (g:=OV.cells) (λ_=>rfl) h.1 ho rfl;rw[hia]
  repeat (first|(refine GQ.y ?_;refine Q.y ?_)|refine Q.go ?_|(refine GQ.g ?_;refine Q.gq ?_)|(refine GQ.s ?_;refine Q.st ?_)|(refine GQ.a ?_;refine Q.al (λb1=> ?_)))
  by_cases hkn:k<n
  ·refine Q.r ?_;(repeat (intro b1;refine Q.r ?_))
   refine Q.dgo [true,false,false] [5,7,8] [] [0,1,2,3,4,5,6,7,8,9] ?_;refine Q.rd ?_;refine D.e rfl rfl rfl ?_;refine S.cr rfl (CutVec_spec o.a o.c 10 o.vec _ ((h.2 o hmo).sub) (hc o hmo) zo) ?_;rintro _ _ ⟨a',c',rfl,rfl⟩;refine opsS_addr a' (λha'=> ?_);refine Q.r ?_;refine Q.rd ?_;(repeat (intro b1;refine Q.rd ?_));refine D.e rfl rfl rfl ?_;refine S.app rfl rfl (SrcS.sl RdC.row zr zr) zr zo zo (λa4 c4=> ?_);refine Q.r ?_;refine Q.rd ?_;refine Q.r ?_;refine ⟨(k+1,a4,c4,us++[⟨o.id,a',c',o.vec.take 10⟩]),⟨rfl,rfl,rfl,congrArg some (by simp),rfl,trivial⟩,?_,⟨by dsimp only;omega,?_,?_⟩,by dsimp only;omega⟩
   ·dsimp only
    rw[len_snoc,flat_snoc];refine Ent.pick (Ent.trans ?_ (vecs_snoc (o:=⟨o.id,a',c',o.vec.take 10⟩) rfl));exact eG
   ·dsimp only
    rw[List.map_append,hus,fewV_all (l:=(ops.take k).map OV.abs) (by simp;omega),fewV_all (l:=(ops.take (k+1)).map OV.abs) (by simp;omega),take_snoc ho,List.map_append,List.map_append];rfl
   ·intro u hu
    rcases List.mem_append.1 hu with hu|hu
    ·exact hua u hu
    ·obtain rfl:=List.mem_singleton.1 hu
     exact ha'
  ·refine Q.r ?_;(repeat (intro b1;refine Q.r ?_))
   refine ⟨(k+1,a3,c3,us),zt,by exact eG,⟨by dsimp only;omega,?_,hua⟩,by dsimp only;omega⟩;dsimp only;rw[hus];unfold fewV;rw[←List.map_take,←List.map_take,List.take_take,List.take_take,show min n k=min n (k+1) by omega]
 ·have hke:k=ops.length:=by omega
  subst hke;rw[List.take_length] at hus;refine Q.r ?_;exact N.t rfl eG ⟨a3,c3,us,hus,hua,rfl,rfl⟩
theorem Few_spec (n:Nat)(a:OA)(c:Nat)(ops:List OV)(A:HL)(h:RdO A a ops)(hc:∀o∈ops,o.vec.length≤o.c)(hn:ops.length≤9223372036854775807)(hnn:n≤1000000):
  CallsS Tryz.prog 76 [.slice a ops.length c,.int .i64 n] A (λv L'=>∃(a':OA) (c':Nat) (us:List OV),us.map OV.abs=fewV n (ops.map OV.abs)∧v=.slice a' us.length c'∧L'=slO 119 2 a' us.length c' (us.flatMap OV.cells)::vecsH us::A):=
 (FewA_spec n a c ops A h hc hn hnn).mono λv L' ⟨a',c',us,h1,_,h2,h3⟩=>⟨a',c',us,h1,h2,h3⟩
structure EV where
 id:Int
 a:OA
 c:Nat
 vs:List OV
abbrev EV.cells (e:EV):List Value:=[.int .u64 e.id,.slice e.a e.vs.length e.c]
abbrev EV.abs (e:EV):Int×VL:=(e.id,e.vs.map OV.abs)
def okE (M:OM)(e:EV):Prop:=SlM M e.a e.vs.length 2 (e.vs.flatMap OV.cells)∧okR M e.vs
theorem okE.mono {M M':OM}{e:EV}(h:okE M e)(hl:leM M M'):okE M' e:=⟨h.1.mono hl,λo ho=>(h.2 o ho).mono hl⟩
abbrev rP (p:Nat)(dim:Int)(a:OA)(es:List EV)(c:Nat)(a':OA)(is:List IV)(c':Nat)(mark:Int):HP:=pt p (cl [.int .i64 dim,.slice a es.length c,.slice a' is.length c',.int .u64 mark] 68)
structure ROK (M:OM)(st:VS)(a:OA)(c:Nat)(es:List EV)(a':OA)(c':Nat)(is:List IV):Prop where
 ch:(es.map EV.abs).Perm st.ch
 cs:(es.map (·.id)).Pairwise (· < ·)
 its:(is.map IV.abs).Perm st.its
 ss:(is.map (·.txn)).Pairwise (· < ·)
 oe:∀e∈es,okE M e
 oi:∀i∈is,okI M i
 sE:SlM M a es.length 2 (es.flatMap EV.cells)
 sI:SlM M a' is.length 3 (is.flatMap IV.cells)
 cE:es.length≤c
 cI:is.length≤c'
 k1:keysOK st.ch
 k2:keysOK st.its
 oc:∀i∈is,∀o∈i.ops,o.vec.length≤o.c
structure RX where
 a:OA
 c:Nat
 es:List EV
 a':OA
 c':Nat
 is:List IV
 M:OM
def refH (p:Nat)(st:VS):HP:=exH λx:RX=>allH [pureH (ROK x.M st x.a x.c x.es x.a' x.c' x.is),rP p st.dim x.a x.es x.c x.a' x.is x.c' st.mark,roM x.M]
theorem ref_shut {p:Nat}{M:OM}{st:VS}{a a':OA}{c c':Nat}{es:List EV}{is:List IV}{L:HL}(h:ROK M st a c es a' c' is):Ent (rP p st.dim a es c a' is c' st.mark::roM M::L) (refH p st::L):=
 Ent.trans (Ent.shut_pure h) (Ent.trans (Ent.shut_all (L:=[_,_,_])) (Ent.shut_ex (P:=λx:RX=>allH [pureH (ROK x.M st x.a x.c x.es x.a' x.c' x.is),rP p st.dim x.a x.es x.c x.a' x.is x.c' st.mark,roM x.M]) ⟨a,c,es,a',c',is,M⟩))
theorem calls_ref {g:FuncId}{args:List Value}{R:Value→HL→Prop}{p:Nat}{st:VS}{L:HL}
  (h:∀M a c es a' c' is,ROK M st a c es a' c' is→CallsS Tryz.prog g args (rP p st.dim a es c a' is c' st.mark::roM M::L) R):CallsS Tryz.prog g args (refH p st::L) R:=
 CallsS.ex λx=>CallsS.all (CallsS.pure λhx=>h x.M x.a x.c x.es x.a' x.c' x.is hx)
class PickR (p:Nat)(L:HL)(st:outParam VS)(L0:outParam (HL)):Prop where
 ent:Ent L (refH p st::L0)
instance PickR.here {p:Nat}{L:HL}{st:VS}:PickR p (refH p st::L) st L:=⟨Ent.refl _⟩
instance (priority :=low) PickR.there {p:Nat} {A:HP} {L L0:HL} {st:VS} [h:PickR p L st L0]:PickR p (A::L) st (A::L0):=⟨(h.ent.cons).trans (Ent.perm (.swap _ _ _))⟩
section
variable {n : Nat} {ops rest : List Oper} {cd : Code} {Q : Post} {f : Env} {L L0 : HL} {st : VS}
theorem swp_ref (p:Nat)[hp:PickR p L st L0](h:∀M a c es a' c' is,ROK M st a c es a' c' is→swp Tryz.prog n cd Q f (rP p st.dim a es c a' is c' st.mark::roM M::L0)):swp Tryz.prog n cd Q f L:=
 swp_ent hp.ent (swp_ex λx=>swp_all (swp_pure λhx=>h x.M x.a x.c x.es x.a' x.c' x.is hx))
theorem S.cf {d:Tmp}{ty:TypeId}{pos:String}{af:Array Edge}{g:FuncId}{xs:Array Operand}{ats:Array TypeId}{args:List Value}{R:Value→HL→Prop}(p:Nat)[hp:PickR p L st L0][he:Enters Tryz.prog g](hx:argsL f xs.toList=some args)(hc:CallsS Tryz.prog g args (refH p st::L0) R)(hk:∀v L',R v L'→opsS Tryz.prog n ops rest Q (upd f d v) L'):
  opsS Tryz.prog n ops (⟨some d,.call ⟨.value (.func g),xs,ats⟩,ty,pos,af,none⟩::rest) Q f L:=opsS_ent hp.ent (S.cr hx hc hk)
end
theorem RRight_spec (a:OA)(c:Nat)(xs:List Int)(A:HL)(h:RdS A a xs.length 1 (xs.map I32))(hn:xs.length≤4611686018427387904):
  CallsS Tryz.prog 124 [.slice a xs.length c] A (λv L'=>v=.bool (rightV xs)∧L'=A):=by
 refine CallsS.of_body Tryz.func124 rfl rfl rfl ?_;unfold rightV;refine Q.r ?_;refine swp_loop (σ:=Nat) (λk=> [(0,.slice a xs.length c),(5,.slice a xs.length c),(6,.int .i64 xs.length),(7,.int .i64 k)]) (λ_=>A)
  (λk=>k≤xs.length∧(xs.take k).any badC=false) (λk=>xs.length - k) 0 zt (Ent.refl _) ⟨by omega,by simp⟩ ?_
 rintro k ⟨hk,hany⟩
 by_cases hlt:k<xs.length
 ·obtain ⟨x,hx⟩:=mem_get hlt
  have hmx:x∈xs:=List.mem_of_getElem? hx;obtain ⟨b,o,rfl,hr⟩:=RdS.elem (g:=cI) (l:=xs) (λ_=>rfl) (by rw[flat_I];exact h) hx rfl
  by_cases h1:268435456<x
  ·have hb:badC x=true:=by simp[badC];omega
   refine Q.r ?_;exact N.t rfl (Ent.refl _) ⟨by rw[show xs.any badC=true from List.any_eq_true.2 ⟨x,hmx,hb⟩];simp,rfl⟩
  by_cases h2:x< -268435456
  ·have hb:badC x=true:=by simp[badC];omega
   refine Q.r ?_;exact N.t rfl (Ent.refl _) ⟨by rw[show xs.any badC=true from List.any_eq_true.2 ⟨x,hmx,hb⟩];simp,rfl⟩
  ·have hb:badC x=false:=by simp[badC];omega
   refine Q.r ?_;exact ⟨k+1,zt,Ent.refl _,⟨by omega,by rw[take_snoc hx,List.any_append,hany,List.any_cons,hb];rfl⟩,by omega⟩
 ·have hke:k=xs.length:=by omega
  subst hke;rw[List.take_length] at hany;rw[hany]
  by_cases h0:0<xs.length
  ·by_cases h8:xs.length≤8
   ·refine Q.r ?_
    exact N.t rfl (Ent.refl _) ⟨by simp[h0,h8];try omega,rfl⟩
   ·refine Q.r ?_
    exact N.t rfl (Ent.refl _) ⟨by simp[h0,h8];try omega,rfl⟩
  ·refine Q.r ?_
   exact N.t rfl (Ent.refl _) ⟨by simp[h0],rfl⟩
theorem RHolds_spec (i:IV)(id:Int)(A:HL)(h:RdO A i.a i.ops)(hn:i.ops.length≤1000000):
  CallsS Tryz.prog 87 [i.val,.int .u64 id] A (λv L'=>v=.bool (holdsV (i.ops.map OV.abs) id)∧L'=A):=by
 rw[holds_abs];refine CallsS.of_body Tryz.func87 rfl rfl rfl ?_;refine Q.r ?_;(repeat (intro b1;refine Q.r ?_));refine swp_loop (σ:=Nat) (λk=> [(1,.int .u64 id),(8,.slice i.a i.ops.length i.c),(9,.int .i64 i.ops.length),(10,.int .i64 k)]) (λ_=>A)
  (λk=>k≤i.ops.length∧(i.ops.take k).any (λo=>decide (o.id=id))=false) (λk=>i.ops.length - k) 0 zt eG ⟨by omega,by simp⟩ ?_
 rintro k ⟨hk,hany⟩
 by_cases hlt:k<i.ops.length
 ·obtain ⟨o,ho⟩:=mem_get hlt
  have hmo:o∈i.ops:=List.mem_of_getElem? ho;obtain ⟨b,oo,hia,hr⟩:=RdS.elem (g:=OV.cells) (λ_=>rfl) h.1 ho rfl;rw[hia]
  by_cases he:o.id=id
  ·refine Q.r ?_;(repeat (intro b1;refine Q.r ?_))
   exact N.t rfl eG ⟨by rw[show (i.ops.any λo=>decide (o.id=id))=true from List.any_eq_true.2 ⟨o,hmo,decide_eq_true he⟩],rfl⟩
  ·refine Q.r ?_;(repeat (intro b1;refine Q.r ?_))
   exact ⟨k+1,zt,by exact eG,⟨by omega,by rw[take_snoc ho,List.any_append,hany,List.any_cons,decide_eq_false he];rfl⟩,by omega⟩
 ·have hke:k=i.ops.length:=by omega
  subst hke;rw[List.take_length] at hany;rw[hany];refine Q.r ?_;exact N.t rfl (Ent.refl _) ⟨rfl,rfl⟩
theorem Find_spec (p:Nat)(dim:Int)(a:OA)(es:List EV)(c:Nat)(a':OA)(is:List IV)(c':Nat)(mark txn:Int)(M:OM)(A:HL)(h:SlM M a' is.length 3 (is.flatMap IV.cells))(hn:is.length≤1000000):
  CallsS Tryz.prog 84 [ptrV p,.int .u64 txn] (rP p dim a es c a' is c' mark::roM M::A)
   (λv L'=>((∃(k:Nat) (i:IV),v=.int .i64 k∧is[k]? =some i∧i.txn=txn)∨(v=.int .i64 (-1)∧∀i∈is,i.txn≠txn))∧L'=rP p dim a es c a' is c' mark::roM M::A):=by
 refine CallsS.of_body Tryz.func84 rfl rfl rfl ?_;refine Q.r ?_;refine swp_loop (σ:=Nat) (λk=> [(1,.int .u64 txn),(10,.slice a' is.length c'),(11,.int .i64 is.length),(12,.int .i64 k)]) (λ_=>rP p dim a es c a' is c' mark::roM M::A)
  (λk=>k≤is.length∧∀i∈is.take k,i.txn≠txn) (λk=>is.length - k) 0 zt (Ent.refl _) ⟨by omega,by simp⟩ ?_
 rintro k ⟨hk,hno⟩
 by_cases hlt:k<is.length
 ·obtain ⟨i,hi⟩:=mem_get hlt
  have hrs:RdS (rP p dim a es c a' is c' mark::roM M::A) a' is.length 3 (is.flatMap IV.cells):=h.rd;obtain ⟨b,oo,hia,hr⟩:=RdS.elem (g:=IV.cells) (λ_=>rfl) hrs hi rfl;clear hrs;rw[hia] at hr ⊢
  by_cases he:i.txn=txn
  ·refine Q.r ?_;(repeat (intro b1;refine Q.r ?_))
   exact N.t rfl eG ⟨.inl ⟨k,i,rfl,hi,he⟩,rfl⟩
  ·refine Q.r ?_;(repeat (intro b1;refine Q.r ?_))
   refine ⟨k+1,zt,by exact eG,⟨by omega,?_⟩,by omega⟩;rw[take_snoc hi];intro j hj
   rcases List.mem_append.1 hj with hj|hj
   ·exact hno j hj
   ·obtain rfl:=List.mem_singleton.1 hj
    exact he
 ·have hke:k=is.length:=by omega
  subst hke;rw[List.take_length] at hno;refine Q.r ?_;exact N.t rfl (Ent.refl _) ⟨.inr ⟨rfl,hno⟩,rfl⟩
theorem Rlast_spec (a:OA)(c:Nat)(vs:List OV)(A:HL)(h:RdS A a vs.length 2 (vs.flatMap OV.cells))(hn:vs.length≤1000000):
  CallsS Tryz.prog 116 [.slice a vs.length c] A (λv L'=>v=.int .u64 (lastS (vs.map OV.abs))∧L'=A):=by
 refine CallsS.of_body Tryz.func116 rfl rfl rfl ?_
 by_cases h0:vs.length=0
 ·refine Q.r ?_
  have:vs=[]:=List.eq_nil_of_length_eq_zero h0;subst this;exact N.t rfl (Ent.refl _) ⟨rfl,rfl⟩
 ·obtain ⟨o,ho⟩:=mem_get (l:=vs) (k:=vs.length - 1) zo
  obtain ⟨b,oo,hia,hr⟩:=RdS.elem (g:=OV.cells) (λ_=>rfl) h ho rfl;rw[hia];refine Q.rd6 ?_;have hl:lastS (vs.map OV.abs)=o.id:=by
   unfold lastS;rw[List.getLast?_eq_getElem?,List.length_map,List.getElem?_map,ho];rfl
  rw[hl];exact N.t rfl (Ent.refl _) ⟨rfl,rfl⟩
theorem RChain_spec (p:Nat)(dim:Int)(a:OA)(es:List EV)(c:Nat)(a':OA)(is:List IV)(c':Nat)(mark id:Int)(M:OM)(A:HL)(h:SlM M a es.length 2 (es.flatMap EV.cells))(hn:es.length≤1000000):
  CallsS Tryz.prog 88 [ptrV p,.int .u64 id] (rP p dim a es c a' is c' mark::roM M::A)
   (λv L'=>((∃e∈es,e.id=id∧v=.slice e.a e.vs.length e.c)∨(v=.slice none 0 0∧∀e∈es,e.id≠id))∧L'=rP p dim a es c a' is c' mark::roM M::A):=by
 refine CallsS.of_body Tryz.func88 rfl rfl rfl ?_;refine Q.r ?_;refine swp_loop (σ:=Nat) (λk=> [(1,.int .u64 id),(10,.slice a es.length c),(11,.int .i64 es.length),(12,.int .i64 k)]) (λ_=>rP p dim a es c a' is c' mark::roM M::A)
  (λk=>k≤es.length∧∀i∈es.take k,i.id≠id) (λk=>es.length - k) 0 zt (Ent.refl _) ⟨by omega,by simp⟩ ?_
 rintro k ⟨hk,hno⟩
 by_cases hlt:k<es.length
 ·obtain ⟨i,hi⟩:=mem_get hlt
  have hrs:RdS (rP p dim a es c a' is c' mark::roM M::A) a es.length 2 (es.flatMap EV.cells):=h.rd;obtain ⟨b,oo,hia,hr⟩:=RdS.elem (g:=EV.cells) (λ_=>rfl) hrs hi rfl;clear hrs;rw[hia] at hr ⊢
  by_cases he:i.id=id
  ·refine Q.r ?_;(repeat (intro b1;refine Q.r ?_))
   exact N.t rfl eG ⟨.inl ⟨i,List.mem_of_getElem? hi,he,rfl⟩,rfl⟩
  ·refine Q.r ?_;(repeat (intro b1;refine Q.r ?_))
   refine ⟨k+1,zt,by exact eG,⟨by omega,?_⟩,by omega⟩;rw[take_snoc hi];intro j hj
   rcases List.mem_append.1 hj with hj|hj
   ·exact hno j hj
   ·obtain rfl:=List.mem_singleton.1 hj
    exact he
 ·have hke:k=es.length:=by omega
  subst hke;rw[List.take_length] at hno;refine Q.r ?_;exact N.t rfl (Ent.refl _) ⟨.inr ⟨rfl,hno⟩,rfl⟩
theorem flat_take {α:Type}{g:α→List Value}{sz:Nat}(hg:∀x,(g x).length=sz):∀(l:List α) (k:Nat),(l.flatMap g).take (k*sz)=(l.take k).flatMap g
 | [],k=>by simp
 |x::l,0=>by simp
 |x::l,k+1=>by
  rw[List.flatMap_cons,List.take_succ_cons,List.flatMap_cons,←flat_take hg l k,Nat.add_mul,Nat.one_mul,Nat.add_comm,←hg x,List.take_length_add_append]
theorem flat_drop {α:Type}{g:α→List Value}{sz:Nat}(hg:∀x,(g x).length=sz):∀(l:List α) (k:Nat),(l.flatMap g).drop (k*sz)=(l.drop k).flatMap g
 | [],k=>by simp
 |x::l,0=>by simp
 |x::l,k+1=>by
  rw[List.flatMap_cons,List.drop_succ_cons,←flat_drop hg l k,Nat.add_mul,Nat.one_mul,Nat.add_comm,←hg x,List.drop_length_add_append]
theorem IV_one (xs:List IV):(xs.flatMap IV.cells).all (·.oneCell')=true:=by simp[Value.oneCell']
theorem EV_one (xs:List EV):(xs.flatMap EV.cells).all (·.oneCell')=true:=by simp[Value.oneCell']
theorem erase_filter {α:Type}(key:α→Int):∀{l:List α} {k:Nat} {i:α},(l.map key).Pairwise (· < ·)→l[k]? =some i→l.eraseIdx k=l.filter λj=> !decide (key j=key i)
 | [],_,_,_,h=>by simp at h
 |x::l,0,i,hs,h=>by
  simp only[List.getElem?_cons_zero,Option.some.injEq] at h;subst h;rw[List.map_cons,List.pairwise_cons] at hs;rw[List.eraseIdx_cons_zero,List.filter_cons];simp only[decide_true,Bool.not_true,Bool.false_eq_true,if_false]
  symm
  rw[List.filter_eq_self];intro y hy;have:=hs.1 (key y) (List.mem_map_of_mem hy)
  simp;omega
 |x::l,k+1,i,hs,h=>by
  rw[List.getElem?_cons_succ] at h;rw[List.map_cons,List.pairwise_cons] at hs;have:=hs.1 (key i) (List.mem_map_of_mem (List.mem_of_getElem? h));rw[List.eraseIdx_cons_succ,List.filter_cons,if_pos (by simp;omega),erase_filter key hs.2 h]
theorem lkL_iff {κ α:Type}[DecidableEq κ]{m:List (κ×α)}(h:keysOK m){x:κ}{a:α}:lkL m x=some a↔(x,a)∈m:=by
 refine ⟨lk_memL,λhm=> ?_⟩
 rcases keyCase m h x with ⟨p,b,q,rfl,hp,hq⟩|hn
 ·rw[lkL_mid hp]
  rcases List.mem_append.1 hm with hm|hm
  ·exact absurd rfl (hp _ hm)
  rcases List.mem_cons.1 hm with hm|hm
  ·cases hm;rfl
  ·exact absurd rfl (hq _ hm)
 ·exact absurd rfl (hn _ hm)
theorem keys_perm {κ α:Type}[DecidableEq κ]{m m':List (κ×α)}(h:keysOK m)(hp:m'.Perm m):keysOK m':=(hp.map (λu:κ×α=>u.1)).nodup_iff.2 h
theorem lkL_perm {κ α:Type}[DecidableEq κ]{m m':List (κ×α)}(h:keysOK m)(hp:m'.Perm m)(x:κ):lkL m' x=lkL m x:=by
 apply Option.ext;intro a;rw[lkL_iff (keys_perm h hp),lkL_iff h,hp.mem_iff]
theorem pw_filter {α:Type}{key:α→Int}{l:List α}(h:(l.map key).Pairwise (· < ·))(p:α→Bool):((l.filter p).map key).Pairwise (· < ·):=by
 rw[List.pairwise_map] at h ⊢;exact h.filter p
theorem ROK.del {M:OM}{st:VS}{a a':OA}{c c':Nat}{es:List EV}{is:List IV}(h:ROK M st a c es a' c' is){M2:OM}(hl:leM M M2){a2:OA}{c2:Nat}(t:Int)
  (hs:SlM M2 a2 (is.filter λj=> !decide (j.txn=t)).length 3 ((is.filter λj=> !decide (j.txn=t)).flatMap IV.cells)) (hc:(is.filter λj=> !decide (j.txn=t)).length≤c2):ROK M2 {st with its:=delL st.its t} a c es a2 c2 (is.filter λj=> !decide (j.txn=t)):=by
 refine ⟨h.ch,h.cs,?_,pw_filter h.ss _,λe he=>(h.oe e he).mono hl,λi hi=>(h.oi i (List.mem_filter.1 hi).1).mono hl,h.sE.mono hl,hs,h.cE,hc,h.k1,delL_ok h.k2 t,λi hi=>h.oc i (List.mem_filter.1 hi).1⟩;have:=h.its.filter (λu=> !decide (u.1=t));rw[List.filter_map] at this;exact this
theorem ROK.noT {M:OM}{st:VS}{a a':OA}{c c':Nat}{es:List EV}{is:List IV}(h:ROK M st a c es a' c' is){t:Int}(hn:∀i∈is,i.txn≠t):lkL st.its t=none:=by
 rw[←lkL_perm h.k2 h.its];exact lkL_none λu hu=>by obtain ⟨w,hw,rfl⟩:=List.mem_map.1 hu;exact hn w hw
theorem ROK.hasT {M:OM}{st:VS}{a a':OA}{c c':Nat}{es:List EV}{is:List IV}(h:ROK M st a c es a' c' is){k:Nat}{i:IV}(hi:is[k]? =some i):lkL st.its i.txn=some (i.after,i.ops.map OV.abs):=by
 rw[←lkL_perm h.k2 h.its];exact (lkL_iff (keys_perm h.k2 h.its)).2 (List.mem_map_of_mem (f:=IV.abs) (List.mem_of_getElem? hi))
theorem ROK.len {M:OM}{st:VS}{a a':OA}{c c':Nat}{es:List EV}{is:List IV}(h:ROK M st a c es a' c' is):is.length=st.its.length∧es.length=st.ch.length:=by
 have h1:=h.its.length_eq;have h2:=h.ch.length_eq
 simp at h1 h2
 exact ⟨h1,h2⟩
theorem RFree_spec (p:Nat)(st:VS)(txn:Int)(L:HL)(hn:st.its.length≤1000000):
  CallsS Tryz.prog 82 [ptrV p,.int .u64 txn] (refH p st::L) (λr L'=>r=.int .i64 (if (lkL st.its txn).isSome then 0 else 6)∧L'=refH p {st with its:=delL st.its txn}::L):=by
 refine calls_ref λM a c es a' c' is hok=> ?_
 have hil:is.length≤1000000:=by rw[hok.len.1];exact hn
 refine CallsS.of_body Tryz.func82 rfl rfl rfl ?_;refine Q.r ?_;refine S.cr rfl (Find_spec p st.dim a es c a' is c' st.mark txn M L hok.sI zo) ?_;rintro _ _ ⟨⟨k,i,rfl,hi,rfl⟩|⟨rfl,hno⟩,rfl⟩
 ·rw[hok.hasT hi]
  have hik:k<is.length:=(List.getElem?_eq_some_iff.1 hi).1;have hrs:RdS (rP p st.dim a es c a' is c' st.mark::roM M::L) a' is.length 3 (is.flatMap IV.cells):=hok.sI.rd;obtain ⟨b2,o2,hia,hr⟩:=RdS.elem (g:=IV.cells) (λ_=>rfl) hrs hi rfl;subst hia;clear hr hrs;have hcI:=hok.cI;refine Q.r ?_;refine Q.dgo [true,false] [1,8,16,19] [19] [0,2,3,4,5,6,7,9,10,11,12,13,14,15,1,8,16,17,18,19] ?_;refine Q.rd7 ?_;refine D.yp rfl rfl rfl (Y.slT (h:=k) rfl rfl rfl zo) ?_;refine Q.rd7 ?_;refine D.yp rfl rfl rfl (Y.slF (l:=k+1) rfl rfl (by simp) zo) ?_;refine D.e rfl rfl rfl ?_;refine S.bs rfl rfl rfl rfl rfl (λb=> ?_);refine opsS_ent (slO_fold (sz:=3) (m:=0) rfl) ?_
  repeat (first|(refine GQ.y ?_;refine Q.y ?_)|refine Q.go ?_|(refine GQ.g ?_;refine Q.gq ?_)|(refine GQ.s ?_;refine Q.st ?_))
  refine D.e rfl rfl rfl ?_;have hrd:∀L,HasM M L→RdS L (some ⟨b2,o2,none⟩) is.length 3 (is.flatMap IV.cells):=λL _=>hok.sI.rd
  refine S.app0 rfl rfl rfl (SrcS.rd (RdS.take (k:=k) (hrd _ inferInstance) zo) ?_) zr zo zo (λa5 c5=> ?_)
  ·rw[flat_take (sz:=3) (λ_=>rfl)];exact IV_one _
  repeat (first|(refine GQ.y ?_;refine Q.y ?_)|refine Q.go ?_|(refine GQ.g ?_;refine Q.gq ?_)|(refine GQ.s ?_;refine Q.st ?_))
  refine D.e rfl rfl rfl ?_;refine S.app rfl rfl (SrcS.rd (RdS.from2 (l:=k+1) (hrd _ inferInstance) zo hcI) ?_) zr zo zo (λa6 c6=> ?_)
  ·rw[flat_drop (sz:=3) (λ_=>rfl)];exact IV_one _
  repeat (first|(refine GQ.y ?_;refine Q.y ?_)|refine Q.go ?_|(refine GQ.g ?_;refine Q.gq ?_)|(refine GQ.s ?_;refine Q.st ?_))
  refine Q.rd7 ?_;refine Q.dc rfl rfl rfl rfl ?_
  repeat (first|(refine GQ.y ?_;refine Q.y ?_)|refine Q.go ?_|(refine GQ.g ?_;refine Q.gq ?_)|(refine GQ.s ?_;refine Q.st ?_))
  refine Q.rd7 ?_
  first|refine N.tn ?_|skip
  refine swp_cap a6 λhc6=>swp_abs a6 λM2 hle hsl=> ?_
  repeat (first|(refine GQ.y ?_;refine Q.y ?_)|refine Q.go ?_|(refine GQ.g ?_;refine Q.gq ?_)|(refine GQ.s ?_;refine Q.st ?_))
  rw[flat_take (sz:=3) (λ_=>rfl),flat_drop (sz:=3) (λ_=>rfl),←List.flatMap_append,←List.eraseIdx_eq_take_drop_succ] at hsl;have hel:=List.length_eraseIdx_of_lt (l:=is) (i:=k) zo;have e1:k+(is.length - (k+1))=(is.eraseIdx k).length:=by omega
  rw[e1] at hsl hc6 ⊢;rw[erase_filter (·.txn) hok.ss hi] at hsl hc6 ⊢;refine N.t rfl ?_ ⟨rfl,rfl⟩;refine Ent.trans ?_ (ref_shut (hok.del hle i.txn hsl hc6));exact eG
 ·have hl:=hok.noT hno
  rw[hl];have e:delL st.its txn=st.its:=delL_none (lk_none' hl);rw[e];refine Q.r ?_;exact N.t rfl (ref_shut hok) ⟨rfl,rfl⟩
theorem SameOps_spec (a:OA)(c:Nat)(xs:List OV)(a':OA)(c':Nat)(ys:List OV)(A:HL)(h:RdO A a xs)(h':RdO A a' ys)(hn:xs.length≤1000000)(hv:∀o∈xs,o.vec.length≤1000000)(he:xs.map OV.abs=ys.map OV.abs):
  CallsS Tryz.prog 90 [.slice a xs.length c,.slice a' ys.length c'] A (λv L'=>v=.bool true∧L'=A):=by
 have hl:ys.length=xs.length:=by
  have:=congrArg List.length he
  simp at this;omega
 refine CallsS.of_body Tryz.func90 rfl rfl rfl ?_;refine Q.r ?_;refine swp_loop (σ:=Nat) (λk=> [(0,.slice a xs.length c),(1,.slice a' ys.length c'),(12,.int .i64 xs.length),(13,.int .i64 k)]) (λ_=>A)
  (λk=>k≤xs.length) (λk=>xs.length - k) 0 zt (Ent.refl _) zo ?_
 intro k hk
 by_cases hlt:k<xs.length
 ·obtain ⟨x,hx⟩:=mem_get hlt
  obtain ⟨y,hy⟩:=mem_get (l:=ys) (k:=k) zo;have hxy:x.abs=y.abs:=by
   have h1:(xs.map OV.abs)[k]? =some x.abs:=by simp[hx]
   have h2:(ys.map OV.abs)[k]? =some y.abs:=by simp[hy]
   rw[he,h2] at h1;exact (Option.some.inj h1).symm
  have hid:x.id=y.id:=congrArg Prod.fst hxy;have hvc:x.vec=y.vec:=congrArg Prod.snd hxy;have hmx:x∈xs:=List.mem_of_getElem? hx;have hmy:y∈ys:=List.mem_of_getElem? hy;have hrx:=h.2 x hmx;have hry:=h'.2 y hmy;have hvx:=hv x hmx;obtain ⟨b,o,rfl,hr⟩:=RdS.elem (g:=OV.cells) (l:=xs) (λ_=>rfl) h.1 hx rfl;obtain ⟨b',o',rfl,hr'⟩:=RdS.elem (g:=OV.cells) (l:=ys) (λ_=>rfl) h'.1 hy rfl;clear hx hy hmx hmy hxy he;obtain ⟨xi,xa,xc,xv⟩:=x;obtain ⟨yi,ya,yc,yv⟩:=y;dsimp only at hid hvc hrx hry hvx;subst hid hvc
  replace hr:RdC A b (o+k*2) [.int .u64 xi,.slice xa xv.length xc]:=hr
  replace hr':RdC A b' (o'+k*2) [.int .u64 xi,.slice ya xv.length yc]:=hr'
  refine Q.r ?_;refine D.start [22] [22] [0,1,2,3,4,5,6,7,8,9,10,11,12,13,14,15,16,17,18,19,20,21,22,23,24] _ [] rfl zk rfl zk NoPanic.no (Ent.refl _) ?_;refine Q.rd5 ?_;refine Q.dF rfl rfl rfl ?_ (by simp);refine Q.rd5 ?_;refine Q.dc rfl rfl rfl rfl ?_;rw[List.append_nil];refine S.guard rfl ?_;refine S.cr rfl (SameVec_spec xa xc xv ya yc xv _ hrx.sub hry.sub zo) ?_;rintro _ _ ⟨rfl,rfl⟩;refine Q.r ?_;refine Q.rd5 ?_;refine Q.r ?_;exact ⟨k+1,zt,Ent.refl _,by omega,by omega⟩
 ·have hke:k=xs.length:=by omega
  subst hke;refine Q.r ?_;exact N.t rfl (Ent.refl _) ⟨rfl,rfl⟩
theorem RCheck_spec (dim:Int)(a:OA)(c:Nat)(ops:List OV)(A:HL)(h:RdO A a ops)(hc:ops.length≤c)(hn:ops.length≤1000000)(hv:∀o∈ops,o.vec.length≤1000000)(hd: -9223372036854775808≤dim∧dim≤9223372036854775807):
  CallsS Tryz.prog 85 [.int .i64 dim,.slice a ops.length c] A (λv L'=>v=.int .i64 (checkV dim (ops.map OV.abs))∧L'=A):=by
 unfold checkV;rw[List.length_map];refine CallsS.of_body Tryz.func85 rfl rfl rfl ?_
 by_cases h1:dim<1∨8<dim
 ·rw[if_pos h1]
  by_cases h1a:dim<1
  ·refine Q.r ?_
   exact N.t rfl (Ent.refl _) ⟨rfl,rfl⟩
  ·refine Q.r ?_
   exact N.t rfl (Ent.refl _) ⟨rfl,rfl⟩
 rw[if_neg h1]
 by_cases h2:ops.length=0
 ·rw[if_pos h2]
  refine Q.r ?_;exact N.t rfl (Ent.refl _) ⟨rfl,rfl⟩
 rw[if_neg h2]
 by_cases h3:16<ops.length
 ·rw[if_pos h3]
  refine Q.r ?_;exact N.t rfl (Ent.refl _) ⟨rfl,rfl⟩
 rw[if_neg h3];have hall:(ops.map OV.abs).any (badO dim)=ops.any λo=>badO dim o.abs:=by rw[List.any_map];rfl
 rw[hall];refine Q.r ?_;refine swp_cutB (σ:=Unit) (λ_=> [(1,.slice a ops.length c)]) (λ_=>A) (λ_=>(ops.any λo=>badO dim o.abs)=false) ?_ ?_
 ·refine swp_loop (σ:=Nat) (λk=> [(0,.int .i64 dim),(1,.slice a ops.length c),(23,.slice a ops.length c),(24,.int .i64 ops.length),(25,.int .i64 k)]) (λ_=>A)
   (λk=>k≤ops.length∧(ops.take k).any (λo=>badO dim o.abs)=false) (λk=>ops.length - k) 0 zt (Ent.refl _) ⟨by omega,by simp⟩ ?_
  rintro k ⟨hk,hany⟩
  by_cases hlt:k<ops.length
  ·obtain ⟨o,ho⟩:=mem_get hlt
   have hmo:o∈ops:=List.mem_of_getElem? ho;have hlen:=hv o hmo;obtain ⟨b2,o2,hia,hr⟩:=RdS.elem (g:=OV.cells) (λ_=>rfl) h.1 ho rfl;rw[hia];have hT:badO dim o.abs=true→(ops.any λo=>badO dim o.abs)=true:=λhb=>List.any_eq_true.2 ⟨o,hmo,hb⟩
   have hF:badO dim o.abs=false→(ops.take (k+1)).any (λo=>badO dim o.abs)=false:=λhb=>by rw[take_snoc ho,List.any_append,hany,List.any_cons,hb];rfl
   by_cases c1:1099511627776<o.id
   ·rw[hT (by simp[badO,c1])]
    refine Q.r ?_;(repeat (intro b1;refine Q.r ?_));exact N.t rfl eG ⟨rfl,rfl⟩
   by_cases c2:0<o.vec.length
   ·refine Q.r ?_;(repeat (intro b1;refine Q.r ?_))
    refine S.cr rfl (RRight_spec o.a o.c o.vec _ ((h.2 o hmo).sub) zo) ?_;rintro _ _ ⟨rfl,rfl⟩
    cases hrt:rightV o.vec with
    |false=>
     rw[hT (by simp[badO,c1,c2,hrt])];refine Q.r ?_;exact N.t rfl eG ⟨rfl,rfl⟩
    |true=>
     by_cases c3:(o.vec.length:Int)=dim
     ·have:=hF (by simp[badO,c1,c2,hrt,c3])
      refine Q.r ?_;exact ⟨k+1,zt,by exact eG,⟨by omega,this⟩,by omega⟩
     ·rw[hT (by simp[badO,c1,c2,hrt,c3])]
      refine Q.r ?_;exact N.t rfl eG ⟨rfl,rfl⟩
   ·have:=hF (by simp[badO,c1,c2])
    refine Q.r ?_;(repeat (intro b1;refine Q.r ?_));exact ⟨k+1,zt,by exact eG,⟨by omega,this⟩,by omega⟩
  ·have hke:k=ops.length:=by omega
   subst hke;rw[List.take_length] at hany;refine Q.r ?_;exact ⟨(),zt,Ent.refl _,hany⟩
 intro uu hany;rw[hany];simp only[Bool.false_eq_true,if_false];have hmm:(ops.map OV.abs).map (·.1)=ops.map (·.id):=by rw[List.map_map];rfl
 rw[hmm];refine Q.r ?_;refine swp_loop (σ:=Nat) (λk=> [(1,.slice a ops.length c),(52,.slice a ops.length c),(53,.int .i64 ops.length),(54,.int .i64 k)]) (λ_=>A)
  (λk=>k≤ops.length∧((ops.take k).map (·.id)).Nodup) (λk=>ops.length - k) 0 zt (Ent.refl _) ⟨by omega,by simp⟩ ?_
 rintro k ⟨hk,hnd⟩
 by_cases hlt:k<ops.length
 ·obtain ⟨o,ho⟩:=mem_get hlt
  obtain ⟨b2,o2,hia,hr⟩:=RdS.elem (g:=OV.cells) (λ_=>rfl) h.1 ho rfl;rw[hia];refine Q.r ?_;(repeat (intro b1;refine Q.r ?_));refine S.y (Y.slT (h:=k) rfl rfl rfl zo) ?_;refine Q.r ?_;refine swp_loop (σ:=Nat) (λj=> [(1,.slice (some ⟨b2,o2,none⟩) ops.length c),(8,.pointer (some ⟨b1,0,none⟩)),(52,.slice (some ⟨b2,o2,none⟩) ops.length c),(53,.int .i64 ops.length),(54,.int .i64 k),(61,.slice (some ⟨b2,o2,none⟩) k c),(62,.int .i64 k),(63,.int .i64 j)]) (λ_=>pt b1 (cl o.cells 119)::A)
    (λj=>j≤k∧o.id∉(ops.take j).map (·.id)) (λj=>k - j) 0 zt (Ent.refl _) ⟨by omega,by simp⟩ ?_
  rintro j ⟨hj,hno⟩
  by_cases hjk:j<k
  ·obtain ⟨u,hu⟩:=mem_get (l:=ops) (k:=j) zo
   obtain ⟨b3,o3,hia3,hr3⟩:=RdS.elem (g:=OV.cells) (λ_=>rfl) h.1 hu rfl;rw[hia] at hia3
   cases hia3
   by_cases he:u.id=o.id
   ·have hnn:¬(ops.map (·.id)).Nodup:=λhh=>by
     have h1':(ops.map (·.id))[j]? =some o.id:=by simp[hu,he]
     have h2':(ops.map (·.id))[k]? =some o.id:=by simp[ho]
     have:=(List.getElem?_inj (by simp;omega) hh).1 (h1'.trans h2'.symm);omega
    rw[if_neg hnn];refine Q.r ?_;(repeat (intro b1;refine Q.r ?_));exact N.t rfl eG ⟨rfl,rfl⟩
   ·refine Q.r ?_;(repeat (intro b1;refine Q.r ?_))
    refine ⟨j+1,zt,by exact eG,⟨by omega,?_⟩,by omega⟩;rw[take_snoc hu,List.map_append];intro hm
    rcases List.mem_append.1 hm with hm|hm
    ·exact hno hm
    ·simp at hm;exact he hm.symm
  ·have hke:j=k:=by omega
   subst hke;refine Q.r ?_;refine ⟨j+1,zt,by exact eG,⟨by omega,?_⟩,by omega⟩;rw[take_snoc ho,List.map_append,List.nodup_append];refine ⟨hnd,by simp,λx hx y hy=> ?_⟩
   simp at hy
   subst hy;exact λe=>hno (e▸hx)
 ·have hke:k=ops.length:=by omega
  subst hke;rw[List.take_length] at hnd;rw[if_pos hnd];refine Q.r ?_;exact N.t rfl (Ent.refl _) ⟨rfl,rfl⟩
end Go.Proofs.YtjlgabojhnnbaaaGreatDoor
namespace Go.SX
open Go
theorem slO_cap {t sz m c:Nat}{a:OA}{cs:List Value}{L:HL}:Ent (slO t sz a m c cs::L) (pureH (m≤c)::slO t sz a m c cs::L):=λw F H=>by
 have hc:m≤c:=UpdS.cap (a:=a) (L:=slO t sz a m c cs::L) inferInstance H;have e:Ent (slO t sz a m c cs::L) (pureH (m≤c)::slO t sz a m c cs::L):=Ent.shut_pure hc;exact e w F H
end Go.SX
namespace Go.Proofs.YtjlgabojhnnbaaaGreatDoor
open Go Go.SX
attribute [local irreducible] swp opsS thenS blockS retS CallsS St Ent YieldS anyS drawS
theorem ins_split {α:Type}(key:α→Int)(t:Int):∀{l:List α},(l.map key).Pairwise (· < ·)→l.take (l.filter λj=>decide (key j<t)).length=l.filter (λj=>decide (key j<t))∧l.drop (l.filter λj=>decide (key j<t)).length=l.filter (λj=> !decide (key j<t))
 | [],_=>by simp
 |x::l,hs=>by
  rw[List.map_cons,List.pairwise_cons] at hs
  by_cases h:key x<t
  ·have ih:=ins_split key t hs.2
   simp only[List.filter_cons,h,decide_true,if_true,Bool.not_true,Bool.false_eq_true,if_false,List.length_cons,List.take_succ_cons,List.drop_succ_cons];exact ⟨by rw[ih.1],ih.2⟩
  ·have hn:l.filter (λj=>decide (key j<t))=[]:=by
    rw[List.filter_eq_nil_iff];intro y hy;have:=hs.1 (key y) (List.mem_map_of_mem hy)
    simp;omega
   have ha:l.filter (λj=> !decide (key j<t))=l:=by
    rw[List.filter_eq_self];intro y hy;have:=hs.1 (key y) (List.mem_map_of_mem hy)
    simp;omega
   simp[List.filter_cons,h,hn,ha]
theorem keys_snoc {κ α:Type}[DecidableEq κ]{m:List (κ×α)}(h:keysOK m){x:κ}(a:α)(hx:lkL m x=none):keysOK (m++[(x,a)]):=by
 have hn:=lk_none' hx;unfold keysOK;rw[List.map_append,List.nodup_append];refine ⟨h,by simp,λy hy z hz=> ?_⟩
 simp at hz
 subst hz;obtain ⟨u,hu,rfl⟩:=List.mem_map.1 hy;exact hn u hu
theorem ROK.ins {M:OM}{st:VS}{a a':OA}{c c':Nat}{es:List EV}{is:List IV}(h:ROK M st a c es a' c' is){M2:OM}(hl:leM M M2){a2:OA}{c2:Nat}{nw:IV}(hnw:okI M2 nw)(hx:lkL st.its nw.txn=Option.none)(hnc:∀o∈nw.ops,o.vec.length≤o.c)
  {is2:List IV} (e:is2=is.filter (λj=>decide (j.txn<nw.txn))++nw::is.filter (λj=> !decide (j.txn<nw.txn)))
  (hs:SlM M2 a2 is2.length 3 (is2.flatMap IV.cells)) (hc:is2.length≤c2):ROK M2 {st with its:=st.its++[nw.abs]} a c es a2 c2 is2:=by
 have hn:∀i∈is,i.txn≠nw.txn:=λi hi e=>by
  have:=lk_none' hx i.abs (h.its.mem_iff.1 (List.mem_map_of_mem hi));exact this e
 have hp:is2.Perm (is++[nw]):=by
  rw[e];refine List.perm_middle.trans ?_;refine List.Perm.trans ?_ (List.perm_append_singleton nw is).symm;exact (List.filter_append_perm _ _).cons _
 refine ⟨h.ch,h.cs,?_,?_,λe he=>(h.oe e he).mono hl,λi hi=> ?_,h.sE.mono hl,hs,h.cE,hc,h.k1,keys_snoc h.k2 _ hx,λi hi=> ?_⟩
 ·refine (hp.map _).trans ?_
  rw[List.map_append];exact h.its.append_right _
 ·rw[e,List.map_append,List.map_cons,List.pairwise_append]
  refine ⟨pw_filter h.ss _,List.pairwise_cons.2 ⟨λy hy=> ?_,pw_filter h.ss _⟩,λx hx y hy=> ?_⟩
  ·obtain ⟨u,hu,rfl⟩:=List.mem_map.1 hy
   have h1:=(List.mem_filter.1 hu).2;have h2:=hn u (List.mem_filter.1 hu).1
   simp at h1;omega
  ·obtain ⟨u,hu,rfl⟩:=List.mem_map.1 hx
   have h1:=(List.mem_filter.1 hu).2
   simp at h1
   rcases List.mem_cons.1 hy with rfl|hy
   ·exact h1
   ·obtain ⟨w,hw,rfl⟩:=List.mem_map.1 hy
    have h3:=(List.mem_filter.1 hw).2
    simp at h3;omega
 ·rcases List.mem_append.1 (hp.mem_iff.1 hi) with hi|hi
  ·exact (h.oi i hi).mono hl
  ·obtain rfl:=List.mem_singleton.1 hi
   exact hnw
 ·rcases List.mem_append.1 (hp.mem_iff.1 hi) with hi|hi
  ·exact h.oc i hi
  ·obtain rfl:=List.mem_singleton.1 hi
   exact hnc
theorem vecs_abs2 {L L0:HL}{M:OM}[hp:PickM L M L0]:∀us:List OV,Ent (vecsH us::L) (exH (λM'=>allH [pureH (leM M M'∧okR M' us∧∀o∈us,o.vec.length≤o.c),roM M'])::L0):=by
 intro us
 induction us generalizing M L with
 |nil=>
  refine Ent.drop (hp.ent.trans ?_);refine Ent.trans ?_ (Ent.shut_ex M);refine Ent.trans ?_ Ent.shut_all;exact Ent.shut_pure ⟨leM.refl M,λo ho=>by (cases ho),λo ho=>by (cases ho)⟩
 |cons o us ih=>
  have h1:Ent (vecsH (o::us)::L) (slO 21 1 o.a o.vec.length o.c (o.vec.map I32)::vecsH us::L):=by
   unfold vecsH;exact bodV_out' (p:=[]) (by simp)
  refine h1.trans (slO_cap.trans (Ent.pure λhc=> ?_));have hp2:PickM (vecsH us::L) M (vecsH us::L0):=inferInstance;refine (Ent.absorb (h:=hp2)).trans ?_;refine Ent.ex λM1=>Ent.open_all.trans (Ent.pure λhs=> ?_)
  refine Ent.trans (Ent.perm (.swap _ _ _)) ?_;refine (ih (M:=M1) (L:=roM M1::L0) (hp:=inferInstance)).trans ?_;refine Ent.ex λM2=>Ent.open_all.trans (Ent.pure λhs2=> ?_)
  refine Ent.trans ?_ (Ent.shut_ex M2);refine Ent.trans ?_ Ent.shut_all;refine Ent.shut_pure ⟨hs.1.trans hs2.1,λu hu=> ?_,λu hu=> ?_⟩
  ·rcases List.mem_cons.1 hu with rfl|hu
   ·exact hs.2.mono hs2.1
   ·exact hs2.2.1 u hu
  ·rcases List.mem_cons.1 hu with rfl|hu
   ·exact hc
   ·exact hs2.2.2 u hu
theorem swp_absVc (us:List OV){n:Nat}{cd:Code}{Q:Post}{f:Env}{L L0 L1:HL}{M:OM}[h:Pick (vecsH us) L L0][h1:PickM L0 M L1](hk:∀M',leM M M'→okR M' us→(∀o∈us,o.vec.length≤o.c)→swp Tryz.prog n cd Q f (roM M'::L1)):swp Tryz.prog n cd Q f L:=
 swp_ent (h.ent.trans (vecs_abs2 us)) (swp_ex λM'=>swp_all (swp_pure λhh=>hk M' hh.1 hh.2.1 hh.2.2))
theorem few_id {k:Nat}{l:VL}(h:l.length≤k)(hv:∀o∈l,o.2.length≤10):fewV k l=l:=by
 rw[fewV_all h]
 conv=>rhs;rw[←List.map_id l]
 exact List.map_congr_left λo ho=>by rw[List.take_of_length_le (hv o ho)];rfl
theorem check_ok {dim:Int}{ops:VL}(h:checkV dim ops=0):1≤dim∧dim≤8∧1≤ops.length∧ops.length≤16∧(ops.map (·.1)).Nodup∧∀o∈ops,o.2.length≤8∧(0<o.2.length→rightV o.2=true):=by
 unfold checkV at h
 by_cases h1:dim<1∨8<dim
 ·rw[if_pos h1] at h;cases h
 rw[if_neg h1] at h
 by_cases h3:ops.length=0
 ·rw[if_pos h3] at h;cases h
 rw[if_neg h3] at h
 by_cases h4:16<ops.length
 ·rw[if_pos h4] at h;cases h
 rw[if_neg h4] at h
 by_cases h5:ops.any (badO dim)=true
 ·rw[if_pos h5] at h;cases h
 rw[if_neg h5] at h
 by_cases h6:(ops.map (·.1)).Nodup
 ·refine ⟨by omega,by omega,by omega,by omega,h6,λo ho=> ?_⟩
  have hb:badO dim o=false:=by
   cases hb:badO dim o with
   |false=>rfl
   |true=>exact absurd (List.any_eq_true.2 ⟨o,ho,hb⟩) h5
  unfold badO at hb;simp only[Bool.or_eq_false_iff,Bool.and_eq_false_iff,decide_eq_false_iff_not,Bool.not_eq_false',Decidable.not_not] at hb;obtain ⟨_,hb⟩:=hb
  rcases hb with hb|hb
  ·exact ⟨by omega,λh=>absurd h hb⟩
  ·exact ⟨by omega,λ_=>hb.1⟩
 ·rw[if_neg h6] at h;cases h
def subA (a:OA)(c l sz:Nat):OA:=if l=0 then a else a.map λad=>⟨ad.block,if c=l then ad.off else ad.off+l*sz,ad.spot⟩
section
variable {P : Program} {n : Nat} {ops : List Oper} {f : Env} {A : HL} {d : Tmp} {ty : TypeId} {pos : String} {af : Array Edge}
theorem Y.slFa {x lo:Operand}{t e:TypeId}{a:OA}{m c sz bts l:Nat}{ag:Bool}{zs:List Value}{i:Int}{kl:IntKind}[hs:SlTy P t e][h2:Ty P e ag sz zs bts](hx:ev f x=some (.slice a m c))
  (hl:ev f lo=some (.int kl i)) (el:i=(l:Int)) (h1:l≤m) (ha:m=0∨∃b o,a=some ⟨b,o,none⟩):YieldS P n ops ⟨some d,.slice t x (some lo) none none,ty,pos,af,none⟩ f A (.slice (subA a c l sz) (m - l) (c - l)):=by
 by_cases h0:l=0
 ·subst h0
  unfold subA;rw[if_pos rfl,Nat.sub_zero,Nat.sub_zero]
  cases a with
  |none=>
   rcases ha with rfl|⟨b,o,h⟩
   ·exact Y.slFn (hs:=hs) (h2:=h2) hx hl el
   ·cases h
  |some ad=>
   refine Y.of (λac w s=> ?_);subst el;have e1:∀ad:Addr,ad.add 0=ad:=λ_=>rfl
   by_cases hc:c=0<;>simp[execOp,s.eval hx,s.eval hl,Instr.sliceAt,hs.und,Instr.slice,Instr.sliceBounds,h2.size,Instr.sliceBound,asIntOf,hc,e1]
 ·rcases ha with rfl|⟨b,o,rfl⟩
  ·omega
  ·unfold subA
   rw[if_neg h0];exact Y.slF (hs:=hs) (h2:=h2) hx hl el h1
end
theorem RdS.fromA {L:HL}{a:OA}{m c l sz:Nat}{cs:List Value}(h:RdS L a m sz cs)(h1:l≤m)(h2:m≤c):RdS L (subA a c l sz) (m - l) sz (cs.drop (l*sz)):=by
 by_cases h0:l=0
 ·subst h0
  unfold subA;rw[if_pos rfl,Nat.zero_mul,List.drop_zero];exact h
 ·obtain ⟨b,o,rfl⟩:∃b o,a=some ⟨b,o,none⟩:=by
   rcases h.2 with h3|⟨b,o,h3,_⟩
   ·omega
   ·exact ⟨b,o,h3⟩
  unfold subA;rw[if_neg h0];exact RdS.from2 h h1 h2
theorem SlM.at {M:OM}{a:OA}{m sz:Nat}{cs:List Value}(h:SlM M a m sz cs):m=0∨∃b o,a=some ⟨b,o,none⟩:=by
 have:=h.rd (L:=[roM M])
 rcases this.2 with h3|⟨b,o,h3,_⟩
 ·exact .inl h3
 ·exact .inr ⟨b,o,h3⟩
theorem RLock_spec (p:Nat)(st:VS)(n:Nat)(i:IV)(L:HL)(hw:WF st n)(hn:n≤10000)(h:RdO L i.a i.ops)(hic:i.ops.length≤i.c)(hc:∀o∈i.ops,o.vec.length≤o.c)(hil:i.ops.length≤1000000)(hv:∀o∈i.ops,o.vec.length≤1000000):
  CallsS Tryz.prog 65 [ptrV p,i.val] (refH p st::L) (λr L'=>r=.int .i64 (lockE st i.txn i.after (i.ops.map OV.abs))∧L'=refH p (lockS st i.txn i.after (i.ops.map OV.abs))::L):=by
 have hst:∀e,lockE st i.txn i.after (i.ops.map OV.abs)=e→e≠0→lockS st i.txn i.after (i.ops.map OV.abs)=st:=λe h1 h2=>by unfold lockS;rw[if_neg (by rw[h1];exact h2)]
 refine calls_ref λM a c es a' c' is hok=> ?_
 have hlen:is.length≤n:=by rw[hok.len.1];exact hw.il
 refine CallsS.of_body Tryz.func65 rfl rfl rfl ?_
 by_cases h1:1099511627776<i.after
 ·have hE:lockE st i.txn i.after (i.ops.map OV.abs)=1:=by unfold lockE;rw[if_pos h1]
  rw[hst _ hE zd,hE];refine Q.r ?_;(repeat (intro b1;refine Q.r ?_));refine N.t rfl ?_ ⟨rfl,rfl⟩;refine Ent.trans ?_ (ref_shut hok);exact eG
 refine Q.r ?_;(repeat (intro b1;refine Q.r ?_));refine Q.dgo [true,true,false] [6] [] [0,1,2,3,4,5,6,7] ?_;refine Q.rd ?_;refine D.e rfl rfl rfl ?_;refine S.cr rfl (RCheck_spec st.dim i.a i.c i.ops _ h.sub hic hil hv (by have:=hw.d1;have:=hw.d2;omega)) ?_;rintro _ _ ⟨rfl,rfl⟩
 by_cases h2:checkV st.dim (i.ops.map OV.abs)≠0
 ·have hE:lockE st i.txn i.after (i.ops.map OV.abs)=checkV st.dim (i.ops.map OV.abs):=by unfold lockE;rw[if_neg h1,if_pos h2]
  rw[hst _ hE h2,hE];generalize checkV st.dim (i.ops.map OV.abs)=ce at h2 ⊢;refine Q.r ?_;refine Q.rd ?_;refine Q.r ?_;refine N.t rfl ?_ ⟨rfl,rfl⟩;refine Ent.trans ?_ (ref_shut hok);exact eG
 have h2':checkV st.dim (i.ops.map OV.abs)=0:=Decidable.not_not.1 h2;obtain ⟨kd1,kd2,k1,k2,k3,k4⟩:=check_ok h2';rw[h2'];refine Q.r ?_;refine Q.rd ?_;refine Q.r ?_;refine opsS_ent (L':=rP p st.dim a es c a' is c' st.mark::roM M::pt b1 (cl [.int .u64 i.txn,.int .u64 i.after,.slice i.a i.ops.length i.c] 151)::L) eG ?_;refine S.cr rfl (Find_spec p st.dim a es c a' is c' st.mark i.txn M _ hok.sI zo) ?_;rintro _ _ ⟨⟨k,j,rfl,hj,hjt⟩|⟨rfl,hno⟩,rfl⟩
 ·have hl:=hok.hasT hj
  rw[hjt] at hl;have hE:lockE st i.txn i.after (i.ops.map OV.abs)=7:=by unfold lockE;rw[if_neg h1,if_neg h2,hl];rfl
  rw[hst _ hE zd,hE];refine Q.r ?_;refine N.t rfl ?_ ⟨rfl,rfl⟩;refine Ent.trans ?_ (ref_shut hok);exact eG
 have hno':=hok.noT hno;have hE1:lockE st i.txn i.after (i.ops.map OV.abs)=if i.ops.any (λo=>st.its.any λi=>holdsV i.2.2 o.id) then 11 else 0:=by
  unfold lockE;rw[if_neg h1,if_neg h2,hno',List.any_map];rfl
 have hst0:lockE st i.txn i.after (i.ops.map OV.abs)=0→lockS st i.txn i.after (i.ops.map OV.abs)={st with its:=st.its++[(i.txn,i.after,i.ops.map OV.abs)]}:=λh=>by unfold lockS;rw[if_pos h]
 refine Q.r ?_;refine swp_cutB (σ:=Unit) (λ_=> [(0,ptrV p),(3,.pointer (some ⟨b1,0,none⟩))]) (λ_=>rP p st.dim a es c a' is c' st.mark::roM M::pt b1 (cl [.int .u64 i.txn,.int .u64 i.after,.slice i.a i.ops.length i.c] 151)::L) (λ_=>∀j∈is,∀o∈i.ops,holdsV (j.ops.map OV.abs) o.id=false) ?_ ?_
 ·refine swp_loop (σ:=Nat) (λk=> [(0,ptrV p),(3,.pointer (some ⟨b1,0,none⟩)),(36,.slice a' is.length c'),(37,.int .i64 is.length),(38,.int .i64 k)]) (λ_=>rP p st.dim a es c a' is c' st.mark::roM M::pt b1 (cl [.int .u64 i.txn,.int .u64 i.after,.slice i.a i.ops.length i.c] 151)::L)
   (λk=>k≤is.length∧∀j∈is.take k,∀o∈i.ops,holdsV (j.ops.map OV.abs) o.id=false) (λk=>is.length - k) 0 zt eG ⟨by omega,by simp⟩ ?_
  rintro k ⟨hk,hok2⟩
  by_cases hlt:k<is.length
  ·obtain ⟨x,hx⟩:=mem_get hlt
   have hmx:x∈is:=List.mem_of_getElem? hx;have hox:=hok.oi x hmx;have hxl:x.ops.length≤16:=by
    have:=(hw.io x.abs (hok.its.mem_iff.1 (List.mem_map_of_mem hmx))).1
    simpa using this
   have hrs:RdS (rP p st.dim a es c a' is c' st.mark::roM M::pt b1 (cl [.int .u64 i.txn,.int .u64 i.after,.slice i.a i.ops.length i.c] 151)::L) a' is.length 3 (is.flatMap IV.cells):=hok.sI.rd;obtain ⟨b,oo,hia,hr⟩:=RdS.elem (g:=IV.cells) (λ_=>rfl) hrs hx rfl;clear hrs;rw[hia] at hr ⊢;refine Q.r ?_;(repeat (intro b1;refine Q.r ?_));rename_i bx;refine swp_loop (σ:=Nat) (λj=> [(0,ptrV p),(3,.pointer (some ⟨bx,0,none⟩)),(7,.pointer (some ⟨b1,0,none⟩)),(36,.slice (some ⟨b,oo,none⟩) is.length c'),(37,.int .i64 is.length),(38,.int .i64 k),(43,.slice i.a i.ops.length i.c),(44,.int .i64 i.ops.length),(45,.int .i64 j)])
    (λj=>pt b1 (cl x.cells 151)::rP p st.dim a es c (some ⟨b,oo,none⟩) is c' st.mark::roM M::pt bx (cl [.int .u64 i.txn,.int .u64 i.after,.slice i.a i.ops.length i.c] 151)::L)
    (λj=>j≤i.ops.length∧∀o∈i.ops.take j,holdsV (x.ops.map OV.abs) o.id=false) (λj=>i.ops.length - j) 0 zt eG ⟨by omega,by simp⟩ ?_
   rintro j ⟨hj,hjn⟩
   by_cases hjl:j<i.ops.length
   ·obtain ⟨o,ho⟩:=mem_get hjl
    have hmo:o∈i.ops:=List.mem_of_getElem? ho;have hrs:RdO (pt b1 (cl x.cells 151)::rP p st.dim a es c (some ⟨b,oo,none⟩) is c' st.mark::roM M::pt bx (cl [.int .u64 i.txn,.int .u64 i.after,.slice i.a i.ops.length i.c] 151)::L) i.a i.ops:=h.sub;obtain ⟨b4,o4,hia4,hr4⟩:=RdS.elem (g:=OV.cells) (λ_=>rfl) hrs.1 ho rfl;rw[hia4] at hr4 ⊢;refine Q.r ?_;(repeat (intro b1;refine Q.r ?_));refine S.cr rfl (RHolds_spec x o.id _ hox.rd zo) ?_;rintro _ _ ⟨rfl,rfl⟩
    cases hh:holdsV (x.ops.map OV.abs) o.id with
    |true=>
     have hany:(i.ops.any λo=>st.its.any λi=>holdsV i.2.2 o.id)=true:=List.any_eq_true.2 ⟨o,hmo,List.any_eq_true.2 ⟨x.abs,hok.its.mem_iff.1 (List.mem_map_of_mem hmx),hh⟩⟩;rw[hany,if_pos rfl] at hE1;rw[hst _ hE1 zd,hE1];refine Q.r ?_;refine N.t rfl ?_ ⟨rfl,rfl⟩;refine Ent.trans ?_ (ref_shut hok);rw[hia];exact eG
    |false=>
     refine Q.r ?_;refine ⟨j+1,zt,by exact eG,⟨by omega,?_⟩,by omega⟩;rw[take_snoc ho];intro u hu
     rcases List.mem_append.1 hu with hu|hu
     ·exact hjn u hu
     ·obtain rfl:=List.mem_singleton.1 hu
      exact hh
   ·have hje:j=i.ops.length:=by omega
    subst hje;rw[List.take_length] at hjn;refine Q.r ?_;refine ⟨k+1,zt,by exact eG,⟨by omega,?_⟩,by omega⟩;rw[take_snoc hx];intro u hu
    rcases List.mem_append.1 hu with hu|hu
    ·exact hok2 u hu
    ·obtain rfl:=List.mem_singleton.1 hu
     exact hjn
  ·have hke:k=is.length:=by omega
   subst hke;rw[List.take_length] at hok2;refine Q.r ?_;exact ⟨(),zt,Ent.refl _,hok2⟩
 intro uu hnh;have hany:(i.ops.any λo=>st.its.any λi=>holdsV i.2.2 o.id)=false:=by
  rw[List.any_eq_false];intro o ho hh;obtain ⟨w,hw',hh⟩:=List.any_eq_true.1 hh;obtain ⟨j,hj,rfl⟩:=List.mem_map.1 (hok.its.mem_iff.2 hw');have:=hnh j hj o ho;rw[show holdsV j.abs.2.2 o.id=holdsV (j.ops.map OV.abs) o.id from rfl,this] at hh
  cases hh
 rw[hany,if_neg Bool.false_ne_true] at hE1;rw[hst0 hE1,hE1];obtain ⟨q,hq⟩:∃q,q=(is.filter λj=>decide (j.txn<i.txn)).length:=⟨_,rfl⟩;have hspl:=ins_split (λj:IV=>j.txn) i.txn hok.ss;rw[←hq] at hspl;have hqn:q≤is.length:=by rw[hq];exact List.length_filter_le _ _
 refine Q.r ?_;refine swp_cutB (σ:=Unit) (λ_=> [(0,ptrV p),(3,.pointer (some ⟨b1,0,none⟩)),(10,.int .i64 q)]) (λ_=>rP p st.dim a es c a' is c' st.mark::roM M::pt b1 (cl [.int .u64 i.txn,.int .u64 i.after,.slice i.a i.ops.length i.c] 151)::L) (λ_=>True) ?_ ?_
 ·refine swp_loop (σ:=Nat) (λk=> [(0,ptrV p),(3,.pointer (some ⟨b1,0,none⟩)),(58,.slice a' is.length c'),(59,.int .i64 is.length),(10,.int .i64 ((is.take k).filter λj=>decide (j.txn<i.txn)).length),(60,.int .i64 k)]) (λ_=>rP p st.dim a es c a' is c' st.mark::roM M::pt b1 (cl [.int .u64 i.txn,.int .u64 i.after,.slice i.a i.ops.length i.c] 151)::L)
   (λk=>k≤is.length) (λk=>is.length - k) 0 zt eG zo ?_
  intro k hk
  by_cases hlt:k<is.length
  ·obtain ⟨x,hx⟩:=mem_get hlt
   have hrs:RdS (rP p st.dim a es c a' is c' st.mark::roM M::pt b1 (cl [.int .u64 i.txn,.int .u64 i.after,.slice i.a i.ops.length i.c] 151)::L) a' is.length 3 (is.flatMap IV.cells):=hok.sI.rd;obtain ⟨b,oo,hia,hr⟩:=RdS.elem (g:=IV.cells) (λ_=>rfl) hrs hx rfl;clear hrs;rw[hia] at hr ⊢;have hfl:=List.length_filter_le (λj:IV=>decide (j.txn<i.txn)) (is.take k);rw[List.length_take] at hfl
   by_cases hxt:x.txn<i.txn
   ·have e:((is.take (k+1)).filter λj=>decide (j.txn<i.txn)).length=((is.take k).filter λj=>decide (j.txn<i.txn)).length+1:=by rw[take_snoc hx,List.filter_append];simp[hxt]
    refine Q.r ?_;(repeat (intro b1;refine Q.r ?_));refine ⟨k+1,⟨rfl,rfl,rfl,rfl,?_,rfl,trivial⟩,by exact eG,by omega,by omega⟩;rw[e];rfl
   ·have e:((is.take (k+1)).filter λj=>decide (j.txn<i.txn)).length=((is.take k).filter λj=>decide (j.txn<i.txn)).length:=by rw[take_snoc hx,List.filter_append];simp[hxt]
    refine Q.r ?_;(repeat (intro b1;refine Q.r ?_));refine ⟨k+1,⟨rfl,rfl,rfl,rfl,?_,rfl,trivial⟩,by exact eG,by omega,by omega⟩;rw[e];rfl
  ·have hke:k=is.length:=by omega
   subst hke;refine Q.r ?_;refine ⟨(),⟨rfl,rfl,?_,trivial⟩,Ent.refl _,trivial⟩;rw[hq,List.take_length];rfl
 intro uu2 _;refine Q.r ?_;refine S.cr rfl (Few_spec 100 i.a i.c i.ops _ h.sub hc zo zo) ?_;rintro _ _ ⟨a5,c5,us,hus,rfl,rfl⟩;rw[few_id (by rw[List.length_map] at k2 ⊢;omega) (λo ho=>by have:=(k4 o ho).1;omega)] at hus;refine Q.r ?_;refine swp_abs a5 (λM1 hl1 hs1=> ?_);refine swp_absVc us (λM2 hl2' hs2 hsc=> ?_);have hcI:=hok.cI;have hrd:∀L,HasM M2 L→RdS L a' is.length 3 (is.flatMap IV.cells):=λL _=>(hok.sI.mono (hl1.trans hl2')).rd
 have hat:=SlM.at hok.sI;obtain ⟨nw,hnw⟩:∃nw:IV,nw=⟨i.txn,i.after,a5,c5,us⟩:=⟨_,rfl⟩;refine Q.r ?_;refine swp_cutT (σ:=OA×Nat) (λ_=> []) (λs=>slO 151 3 s.1 (q+1+(is.length - q)) s.2 ((is.flatMap IV.cells).take (q*3)++nw.cells++(is.flatMap IV.cells).drop (q*3))::pt p (cl [.int .i64 st.dim,.slice a es.length c,.slice s.1 (q+1+(is.length - q)) s.2,.int .u64 st.mark] 68)::roM M2::L) (λ_=>True) ?_ ?_
 ·rw[hnw]
  refine Q.dgo [false,true,true] [1,8,10,11,18,21] [21] [0,2,3,4,5,6,7,9,12,13,14,15,16,17,99999,0,0,0,0,0,0,0] ?_;refine Q.rd7 ?_;refine D.yp rfl rfl rfl (Y.slT (h:=q) rfl rfl rfl zo) ?_;refine Q.rd7 ?_;refine D.yp rfl rfl rfl (Y.slFa (l:=q) rfl rfl rfl hqn hat) ?_;refine D.two 1 10 [99999,0,0,0,0,0,0] [1,8,11,18,19,20,21] zk rfl rfl rfl rfl zk zk ?_ ?_
  ·refine S.bs rfl rfl rfl rfl rfl (λbz=> ?_);refine opsS_ent (slO_fold (sz:=3) (m:=0) rfl) ?_;(repeat (first|(refine GQ.y ?_;refine Q.y ?_)|refine Q.go ?_|(refine GQ.g ?_;refine Q.gq ?_)|(refine GQ.s ?_;refine Q.st ?_)))
   refine D.two 8 10 [10,11,18,19,20,21] [8,11,18,19,20,21] zk rfl rfl rfl rfl zk zk ?_ ?_
   ·refine S.app0 rfl rfl rfl (SrcS.rd (RdS.take (k:=q) (hrd _ inferInstance) zo) (by rw[flat_take (sz:=3) (λ_=>rfl)];exact IV_one _)) zr zo zo (λa6 c6=> ?_);(repeat (first|(refine GQ.y ?_;refine Q.y ?_)|refine Q.go ?_|(refine GQ.g ?_;refine Q.gq ?_)|(refine GQ.s ?_;refine Q.st ?_)))
    refine D.e rfl rfl rfl ?_;refine S.bs rfl rfl rfl rfl (by repeat (first|exact nz|(apply cz;exact rfl)|exact rfl)) (λb8=> ?_);(repeat (first|(refine GQ.y ?_;refine Q.y ?_)|refine Q.go ?_|(refine GQ.g ?_;refine Q.gq ?_)|(refine GQ.s ?_;refine Q.st ?_)));refine D.e rfl rfl rfl ?_;refine S.app rfl rfl (SrcS.sl RdC.row zr zr) zr zo zo (λa7 c7=> ?_);(repeat (first|(refine GQ.y ?_;refine Q.y ?_)|refine Q.go ?_|(refine GQ.g ?_;refine Q.gq ?_)|(refine GQ.s ?_;refine Q.st ?_)));refine D.e rfl rfl rfl ?_;refine S.app rfl rfl (SrcS.rd (RdS.fromA (l:=q) (hrd _ inferInstance) zo hcI) (by rw[flat_drop (sz:=3) (λ_=>rfl)];exact IV_one _)) zr zo zo (λa8 c8=> ?_);(repeat (first|(refine GQ.y ?_;refine Q.y ?_)|refine Q.go ?_|(refine GQ.g ?_;refine Q.gq ?_)|(refine GQ.s ?_;refine Q.st ?_)));(refine Q.rd7 ?_);refine Q.dc rfl rfl rfl rfl ?_;(repeat (first|(refine GQ.y ?_;refine Q.y ?_)|refine Q.go ?_|(refine GQ.g ?_;refine Q.gq ?_)|(refine GQ.s ?_;refine Q.st ?_)));(refine Q.rd7 ?_);refine N.tn ⟨(a8,c8),trivial,?_,trivial⟩
    (try dsimp only);exact eG
   ·refine S.bs rfl rfl rfl rfl (by repeat (first|exact nz|(apply cz;exact rfl)|exact rfl)) (λb8=> ?_);(repeat (first|(refine GQ.y ?_;refine Q.y ?_)|refine Q.go ?_|(refine GQ.g ?_;refine Q.gq ?_)|(refine GQ.s ?_;refine Q.st ?_)))
    refine D.e rfl rfl rfl ?_;refine S.app0 rfl rfl rfl (SrcS.rd (RdS.take (k:=q) (hrd _ inferInstance) zo) (by rw[flat_take (sz:=3) (λ_=>rfl)];exact IV_one _)) zr zo zo (λa6 c6=> ?_);(repeat (first|(refine GQ.y ?_;refine Q.y ?_)|refine Q.go ?_|(refine GQ.g ?_;refine Q.gq ?_)|(refine GQ.s ?_;refine Q.st ?_)));refine D.e rfl rfl rfl ?_;refine S.app rfl rfl (SrcS.sl RdC.row zr zr) zr zo zo (λa7 c7=> ?_);(repeat (first|(refine GQ.y ?_;refine Q.y ?_)|refine Q.go ?_|(refine GQ.g ?_;refine Q.gq ?_)|(refine GQ.s ?_;refine Q.st ?_)));refine D.e rfl rfl rfl ?_;refine S.app rfl rfl (SrcS.rd (RdS.fromA (l:=q) (hrd _ inferInstance) zo hcI) (by rw[flat_drop (sz:=3) (λ_=>rfl)];exact IV_one _)) zr zo zo (λa8 c8=> ?_);(repeat (first|(refine GQ.y ?_;refine Q.y ?_)|refine Q.go ?_|(refine GQ.g ?_;refine Q.gq ?_)|(refine GQ.s ?_;refine Q.st ?_)));(refine Q.rd7 ?_);refine Q.dc rfl rfl rfl rfl ?_;(repeat (first|(refine GQ.y ?_;refine Q.y ?_)|refine Q.go ?_|(refine GQ.g ?_;refine Q.gq ?_)|(refine GQ.s ?_;refine Q.st ?_)));(refine Q.rd7 ?_);refine N.tn ⟨(a8,c8),trivial,?_,trivial⟩
    (try dsimp only);exact eG
  ·refine S.bs rfl rfl rfl rfl (by repeat (first|exact nz|(apply cz;exact rfl)|exact rfl)) (λb8=> ?_);(repeat (first|(refine GQ.y ?_;refine Q.y ?_)|refine Q.go ?_|(refine GQ.g ?_;refine Q.gq ?_)|(refine GQ.s ?_;refine Q.st ?_)))
   refine D.e rfl rfl rfl ?_;refine S.bs rfl rfl rfl rfl rfl (λbz=> ?_);refine opsS_ent (slO_fold (sz:=3) (m:=0) rfl) ?_;(repeat (first|(refine GQ.y ?_;refine Q.y ?_)|refine Q.go ?_|(refine GQ.g ?_;refine Q.gq ?_)|(refine GQ.s ?_;refine Q.st ?_)));refine D.e rfl rfl rfl ?_;refine S.app0 rfl rfl rfl (SrcS.rd (RdS.take (k:=q) (hrd _ inferInstance) zo) (by rw[flat_take (sz:=3) (λ_=>rfl)];exact IV_one _)) zr zo zo (λa6 c6=> ?_);(repeat (first|(refine GQ.y ?_;refine Q.y ?_)|refine Q.go ?_|(refine GQ.g ?_;refine Q.gq ?_)|(refine GQ.s ?_;refine Q.st ?_)));refine D.e rfl rfl rfl ?_;refine S.app rfl rfl (SrcS.sl RdC.row zr zr) zr zo zo (λa7 c7=> ?_);(repeat (first|(refine GQ.y ?_;refine Q.y ?_)|refine Q.go ?_|(refine GQ.g ?_;refine Q.gq ?_)|(refine GQ.s ?_;refine Q.st ?_)));refine D.e rfl rfl rfl ?_;refine S.app rfl rfl (SrcS.rd (RdS.fromA (l:=q) (hrd _ inferInstance) zo hcI) (by rw[flat_drop (sz:=3) (λ_=>rfl)];exact IV_one _)) zr zo zo (λa8 c8=> ?_);(repeat (first|(refine GQ.y ?_;refine Q.y ?_)|refine Q.go ?_|(refine GQ.g ?_;refine Q.gq ?_)|(refine GQ.s ?_;refine Q.st ?_)));(refine Q.rd7 ?_);refine Q.dc rfl rfl rfl rfl ?_;(repeat (first|(refine GQ.y ?_;refine Q.y ?_)|refine Q.go ?_|(refine GQ.g ?_;refine Q.gq ?_)|(refine GQ.s ?_;refine Q.st ?_)));(refine Q.rd7 ?_);refine N.tn ⟨(a8,c8),trivial,?_,trivial⟩
   (try dsimp only);exact eG
 rintro ⟨a9,c9⟩ -;dsimp only;refine swp_cap a9 λhc9=>swp_abs a9 λM3 hl3 hsl=> ?_
 refine Q.r ?_;obtain ⟨is2,his2⟩:∃is2,is2=is.take q++nw::is.drop q:=⟨_,rfl⟩;have hl2:is2.length=q+1+(is.length - q):=by rw[his2];simp;omega
 have hcells:(is.flatMap IV.cells).take (q*3)++nw.cells++(is.flatMap IV.cells).drop (q*3)=is2.flatMap IV.cells:=by
  rw[flat_take (sz:=3) (λ_=>rfl),flat_drop (sz:=3) (λ_=>rfl),his2,List.flatMap_append,List.flatMap_cons,List.append_assoc]
 rw[hcells] at hsl;rw[←hl2] at hsl hc9 ⊢;have habs:nw.abs=(i.txn,i.after,i.ops.map OV.abs):=by rw[hnw];show (i.txn,i.after,us.map OV.abs)=_;rw[hus]
 have hnt:nw.txn=i.txn:=by rw[hnw]
 have hins:=hok.ins (hl1.trans (hl2'.trans hl3)) (nw:=nw) (by rw[hnw];exact ⟨hs1.mono (hl2'.trans hl3),λo ho=>(hs2 o ho).mono hl3⟩) (by rw[hnt];exact hno') (by rw[hnw];exact hsc) (is2:=is2) (by rw[his2,hspl.1,hspl.2,hnt]) hsl hc9;rw[habs] at hins;refine N.t rfl ?_ ⟨rfl,rfl⟩;refine Ent.trans ?_ (ref_shut hins);exact eG
theorem RPut_spec (a:OA)(c:Nat)(ovs:List OV)(o:OV)(L:HL)(h:RdS L a ovs.length 2 (ovs.flatMap OV.cells))(ho:RdS L o.a o.vec.length 1 (o.vec.map I32))(hoc:o.vec.length≤o.c)(hov:o.vec.length≤10)(hn:ovs.length≤1000000)
  (h1:1≤o.id) (h2:o.id≤1099511627776) (h3:0<o.vec.length→rightV o.vec=true) (h4:∀u∈ovs,u.id<o.id):
  CallsS Tryz.prog 119 [.slice a ovs.length c,o.val] L (λr L'=>∃a2 c2 a' c',r=.tuple #[.slice a2 (ovs.length+1) c2,.int .i64 0]∧L'=slO 149 2 a2 (ovs.length+1) c2 (ovs.flatMap OV.cells++OV.cells ⟨o.id,a',c',o.vec⟩)::slO 21 1 a' o.vec.length c' (o.vec.map I32)::L):=by
 refine CallsS.of_body Tryz.func119 rfl rfl rfl ?_;refine Q.r ?_;(repeat (intro b1;refine Q.r ?_));refine opsS_cutT (σ:=Unit) (λ_=> [(0,.slice a ovs.length c),(3,.pointer (some ⟨b1,0,none⟩)),(26,.bool false)]) (λ_=>pt b1 (cl o.cells 149)::L) (λ_=>True) ?_ ?_
 ·by_cases h0:0<o.vec.length
  ·refine Q.r ?_
   refine S.cr rfl (RRight_spec o.a o.c o.vec _ ho.sub zo) ?_;rintro _ _ ⟨rfl,rfl⟩;rw[h3 h0];refine Q.r ?_;exact ⟨(),zt,Ent.refl _,trivial⟩
  ·refine Q.r ?_
   exact ⟨(),⟨rfl,rfl,by rw[decide_eq_false zo];rfl,trivial⟩,Ent.refl _,trivial⟩
 intro _ _;refine Q.r ?_;rename_i bx;refine swp_loop (σ:=Nat) (λk=> [(0,.slice a ovs.length c),(3,.pointer (some ⟨b1,0,none⟩)),(28,.slice a ovs.length c),(29,.int .i64 ovs.length),(30,.int .i64 k)]) (λ_=>pt b1 (cl o.cells 149)::L)
  (λk=>k≤ovs.length) (λk=>ovs.length - k) 0 zt (Ent.refl _) zo ?_
 intro k hk
 by_cases hlt:k<ovs.length
 ·obtain ⟨x,hx⟩:=mem_get hlt
  have h5:=h4 x (List.mem_of_getElem? hx);have hrs:RdS (pt b1 (cl o.cells 149)::L) a ovs.length 2 (ovs.flatMap OV.cells):=h.sub;obtain ⟨b,oo,hia,hr⟩:=RdS.elem (g:=OV.cells) (λ_=>rfl) hrs hx rfl;clear hrs;rw[hia];refine Q.r ?_;(repeat (intro b1;refine Q.r ?_));exact ⟨k+1,zt,by exact eG,by omega,by omega⟩
 ·have hke:k=ovs.length:=by omega
  subst hke;refine Q.r ?_;refine Q.dgo [true] [0,2,7,9,10] [] [1,3,4,5,6,0,2,7,8,9,10,11,12] ?_;refine Q.rd7 ?_;refine D.e rfl rfl rfl ?_;refine S.bs rfl rfl rfl rfl rfl (λbz=> ?_);refine opsS_ent (slO_fold (sz:=2) (m:=0) rfl) ?_
  repeat (first|(refine GQ.y ?_;refine Q.y ?_)|refine Q.go ?_|(refine GQ.g ?_;refine Q.gq ?_)|(refine GQ.s ?_;refine Q.st ?_))
  refine Q.rd7 ?_;refine D.e rfl rfl rfl ?_;refine S.app0 rfl rfl rfl (SrcS.rd h.sub (OV_one _)) zr zo zo (λa6 c6=> ?_)
  repeat (first|(refine GQ.y ?_;refine Q.y ?_)|refine Q.go ?_|(refine GQ.g ?_;refine Q.gq ?_)|(refine GQ.s ?_;refine Q.st ?_))
  refine Q.rd7 ?_;refine D.e rfl rfl rfl ?_;refine S.cr rfl (CutVec_spec o.a o.c 100 o.vec _ ho.sub hoc zo) ?_;rintro _ _ ⟨a',c2,rfl,rfl⟩;rw[List.take_of_length_le (l:=o.vec) (i:=100) zo];refine Q.r ?_;refine Q.rd7 ?_;refine D.e rfl rfl rfl ?_;refine S.bs rfl rfl rfl rfl (by repeat (first|exact nz|(apply cz;exact rfl)|exact rfl)) (λb8=> ?_)
  repeat (first|(refine GQ.y ?_;refine Q.y ?_)|refine Q.go ?_|(refine GQ.g ?_;refine Q.gq ?_)|(refine GQ.s ?_;refine Q.st ?_))
  refine Q.rd7 ?_;refine D.e rfl rfl rfl ?_;refine S.app rfl rfl (SrcS.sl RdC.row zr zr) zr zo zo (λa7 c7=> ?_)
  repeat (first|(refine GQ.y ?_;refine Q.y ?_)|refine Q.go ?_|(refine GQ.g ?_;refine Q.gq ?_)|(refine GQ.s ?_;refine Q.st ?_))
  refine Q.rd7 ?_;refine Q.r ?_;exact N.u rfl rfl eG ⟨a7,c7,a',c2,rfl,rfl⟩
def insE (es:List EV)(nw:EV):List EV:=es.filter (λe=>decide (e.id<nw.id))++nw::es.filter (λe=>decide (nw.id<e.id))
theorem insE_none {es:List EV}{nw:EV}(h:∀e∈es,e.id<nw.id):insE es nw=es++[nw]:=by
 unfold insE;rw[List.filter_eq_self.2 (λe he=>by have:=h e he;simp;omega),List.filter_eq_nil_iff.2 (λe he=>by have:=h e he;simp;omega)]
theorem insE_at {es:List EV}{nw e:EV}(h:∀e∈es,e.id<nw.id)(he:nw.id=e.id):insE (es++[e]) nw=es++[nw]:=by
 unfold insE;have h1:es.filter (λe=>decide (e.id<nw.id))=es:=List.filter_eq_self.2 (λe he=>by have:=h e he;simp;omega);have h2:es.filter (λe=>decide (nw.id<e.id))=[]:=List.filter_eq_nil_iff.2 (λe he=>by have:=h e he;simp;omega);rw[List.filter_append,List.filter_append,h1,h2]
 simp[List.filter_cons,he]
theorem insE_bef {es:List EV}{nw e:EV}(h:∀e∈es,e.id<nw.id)(he:nw.id<e.id):insE (es++[e]) nw=es++[nw]++[e]:=by
 unfold insE;have h1:es.filter (λe=>decide (e.id<nw.id))=es:=List.filter_eq_self.2 (λe he=>by have:=h e he;simp;omega);have h2:es.filter (λe=>decide (nw.id<e.id))=[]:=List.filter_eq_nil_iff.2 (λe he=>by have:=h e he;simp;omega);rw[List.filter_append,List.filter_append,h1,h2];have:¬e.id<nw.id:=by omega
 simp[List.filter_cons,he,this]
theorem insE_aft {es:List EV}{nw e:EV}(he:nw.id<e.id):insE (es++[e]) nw=insE es nw++[e]:=by
 unfold insE;rw[List.filter_append,List.filter_append];have:¬e.id<nw.id:=by omega
 simp[List.filter_cons,he,this]
theorem RSet_spec (p:Nat)(dim:Int)(a:OA)(es:List EV)(c:Nat)(a':OA)(is:List IV)(c':Nat)(mark:Int)(nw:EV)(M:OM)(A:HL)(h:SlM M a es.length 2 (es.flatMap EV.cells))(hn:es.length≤1000000)(hs:(es.map (·.id)).Pairwise (· < ·))(hv:0<nw.vs.length):
  CallsS Tryz.prog 120 [ptrV p,.int .u64 nw.id,.slice nw.a nw.vs.length nw.c] (rP p dim a es c a' is c' mark::roM M::A)
   (λv L'=>∃a2 c2,v=.tuple #[]∧L'=slO 147 2 a2 (insE es nw).length c2 ((insE es nw).flatMap EV.cells)::rP p dim a2 (insE es nw) c2 a' is c' mark::roM M::A):=by
 refine CallsS.of_body Tryz.func120 rfl rfl rfl ?_;refine Q.r ?_;refine swp_cutB (σ:=OA×Nat×List EV×Bool) (λu=> [(0,ptrV p),(1,.int .u64 nw.id),(2,.slice nw.a nw.vs.length nw.c),(6,.slice u.1 u.2.2.1.length u.2.1),(7,.bool u.2.2.2)])
  (λu=>slO 147 2 u.1 u.2.2.1.length u.2.1 (u.2.2.1.flatMap EV.cells)::rP p dim a es c a' is c' mark::roM M::A) (λu=>(u.2.2.2=false∧u.2.2.1=es∧∀e∈es,e.id<nw.id)∨(u.2.2.2=true∧u.2.2.1=insE es nw)) ?_ ?_
 ·refine swp_loop (σ:=Nat×OA×Nat×List EV×Bool) (λu=> [(0,ptrV p),(1,.int .u64 nw.id),(2,.slice nw.a nw.vs.length nw.c),(16,.slice a es.length c),(17,.int .i64 es.length),(6,.slice u.2.1 u.2.2.2.1.length u.2.2.1),(7,.bool u.2.2.2.2),(18,.int .i64 u.1)])
   (λu=>slO 147 2 u.2.1 u.2.2.2.1.length u.2.2.1 (u.2.2.2.1.flatMap EV.cells)::rP p dim a es c a' is c' mark::roM M::A)
   (λu=>u.1≤es.length∧u.2.2.2.1.length≤u.1+1∧((u.2.2.2.2=false∧u.2.2.2.1=es.take u.1∧∀e∈es.take u.1,e.id<nw.id)∨(u.2.2.2.2=true∧u.2.2.2.1=insE (es.take u.1) nw∧∃e∈es.take u.1,nw.id≤e.id))) (λu=>es.length - u.1) (0,none,0,[],false) ⟨rfl,rfl,rfl,rfl,rfl,rfl,congrArg some (congrArg Value.bool (decide_eq_false zo)),rfl,trivial⟩ ?_ ⟨by omega,by simp,.inl ⟨rfl,by simp,by simp⟩⟩ ?_
  ·exact slO_nil
  rintro ⟨k,a3,c3,us,pl⟩ ⟨hk,hul,hinv⟩;dsimp only at hk hul hinv ⊢
  by_cases hlt:k<es.length
  ·obtain ⟨e,he⟩:=mem_get hlt
   have hrs:RdS (slO 147 2 a3 us.length c3 (us.flatMap EV.cells)::rP p dim a es c a' is c' mark::roM M::A) a es.length 2 (es.flatMap EV.cells):=h.rd;obtain ⟨b,oo,hia,hr⟩:=RdS.elem (g:=EV.cells) (λ_=>rfl) hrs he rfl;clear hrs;rw[hia] at hr ⊢;have hsrt:∀u∈es.take k,u.id<e.id:=λu hu=>by
    have h2:=hs;rw[←List.take_append_drop k es,List.map_append,List.pairwise_append] at h2;have hd:e∈es.drop k:=by
     rw[List.drop_eq_getElem_cons hlt];have:=List.getElem?_eq_getElem hlt;rw[he] at this;rw[←Option.some.inj this];simp
    exact h2.2.2 u.id (List.mem_map_of_mem hu) e.id (List.mem_map_of_mem hd)
   rcases hinv with ⟨rfl,hus,hall⟩|⟨rfl,hus,hex⟩
   ·have hne:es.take k++[e]=es.take (k+1):=(take_snoc he).symm
    by_cases c1:nw.id≤e.id
    ·by_cases c2:e.id=nw.id
     ·refine Q.r ?_;(repeat (intro b1;refine Q.r ?_))
      refine S.app rfl rfl (SrcS.sl RdC.row zr zr) zr zo zo (λa7 c7=> ?_);refine Q.r ?_;refine ⟨(k+1,a7,c7,us++[nw],true),⟨rfl,rfl,rfl,rfl,rfl,congrArg some (by simp),rfl,rfl,trivial⟩,?_,⟨by dsimp only;omega,by simp;omega,.inr ⟨rfl,?_,e,by rw[←hne];simp,c1⟩⟩,by dsimp only;omega⟩
      ·dsimp only
       rw[len_snoc,flat_snoc];exact eG
      ·dsimp only
       rw[←hne,hus,insE_at hall c2.symm]
     ·refine Q.r ?_;(repeat (intro b1;refine Q.r ?_))
      refine S.app rfl rfl (SrcS.sl RdC.row zr zr) zr zo zo (λa7 c7=> ?_);refine Q.r ?_;(repeat (intro b1;refine Q.r ?_));refine S.app rfl rfl (SrcS.sl RdC.row zr zr) zr zo zo (λa8 c8=> ?_);refine Q.r ?_;refine ⟨(k+1,a8,c8,us++[nw]++[e],true),⟨rfl,rfl,rfl,rfl,rfl,congrArg some (by simp),rfl,rfl,trivial⟩,?_,⟨by dsimp only;omega,?_,.inr ⟨rfl,?_,e,by rw[←hne];simp,c1⟩⟩,by dsimp only;omega⟩
      ·dsimp only
       rw[len_snoc,flat_snoc,len_snoc,flat_snoc];exact eG
      ·dsimp only
       have:us.length=k:=by rw[hus,List.length_take];omega
       simp;omega
      ·dsimp only
       rw[←hne,hus,insE_bef hall zo]
    ·refine Q.r ?_;(repeat (intro b1;refine Q.r ?_))
     refine S.app rfl rfl (SrcS.sl RdC.row zr zr) zr zo zo (λa7 c7=> ?_);refine Q.r ?_;refine ⟨(k+1,a7,c7,us++[e],false),⟨rfl,rfl,rfl,rfl,rfl,congrArg some (by simp),rfl,rfl,trivial⟩,?_,⟨by dsimp only;omega,by simp;omega,.inl ⟨rfl,?_,?_⟩⟩,by dsimp only;omega⟩
     ·dsimp only
      rw[len_snoc,flat_snoc];exact eG
     ·dsimp only
      rw[←hne,hus]
     ·dsimp only
      rw[←hne];intro u hu
      rcases List.mem_append.1 hu with hu|hu
      ·exact hall u hu
      ·obtain rfl:=List.mem_singleton.1 hu
       omega
   ·obtain ⟨w,hw,hwi⟩:=hex
    have h5:=hsrt w hw;have c2:e.id≠nw.id:=by omega
    have hne:es.take k++[e]=es.take (k+1):=(take_snoc he).symm;refine Q.r ?_;(repeat (intro b1;refine Q.r ?_));refine S.app rfl rfl (SrcS.sl RdC.row zr zr) zr zo zo (λa7 c7=> ?_);refine Q.r ?_;refine ⟨(k+1,a7,c7,us++[e],true),⟨rfl,rfl,rfl,rfl,rfl,congrArg some (by simp),rfl,rfl,trivial⟩,?_,⟨by dsimp only;omega,by simp;omega,.inr ⟨rfl,?_,w,by rw[←hne];exact List.mem_append_left _ hw,hwi⟩⟩,by dsimp only;omega⟩
    ·dsimp only
     rw[len_snoc,flat_snoc];exact eG
    ·dsimp only
     rw[←hne,hus,insE_aft zo]
  ·have hke:k=es.length:=by omega
   subst hke;rw[List.take_length] at hinv;refine Q.r ?_;refine ⟨(a3,c3,us,pl),zt,Ent.refl _,?_⟩
   rcases hinv with ⟨h1,h2,h3⟩|⟨h1,h2,h3⟩
   ·exact .inl ⟨h1,h2,h3⟩
   ·exact .inr ⟨h1,h2⟩
 rintro ⟨a3,c3,us,pl⟩ hinv;dsimp only at hinv ⊢
 rcases hinv with ⟨rfl,rfl,hall⟩|⟨rfl,hus⟩
 ·refine Q.r ?_;(repeat (intro b1;refine Q.r ?_))
  refine S.app rfl rfl (SrcS.sl RdC.row zr zr) zr zo zo (λa7 c7=> ?_);refine Q.r ?_;refine N.n0 RV.nil (Ent.drop (Ent.refl _)) ⟨a7,c7,rfl,?_⟩;unfold rP;rw[insE_none hall,len_snoc,flat_snoc]
 ·subst hus
  refine Q.r ?_;exact N.n0 RV.nil (Ent.refl _) ⟨a3,c3,rfl,rfl⟩
theorem keys_nodup {κ α:Type}[DecidableEq κ]{m:List (κ×α)}(h:keysOK m):m.Nodup:=by
 unfold keysOK at h;rw[List.nodup_iff_pairwise_ne,List.pairwise_map] at h;rw[List.nodup_iff_pairwise_ne];exact h.imp λh1 h2=>h1 (by rw[h2])
theorem keys_of_lt {m:List (Int×VL)}(h:(m.map (·.1)).Pairwise (· < ·)):keysOK m:=by
 unfold keysOK;rw[List.nodup_iff_pairwise_ne];exact h.imp λh1 h2=>by omega
theorem insE_sorted {es:List EV}{nw:EV}(hs:(es.map (·.id)).Pairwise (· < ·)):((insE es nw).map (·.id)).Pairwise (· < ·):=by
 unfold insE;rw[List.map_append,List.map_cons,List.pairwise_append];refine ⟨pw_filter hs _,List.pairwise_cons.2 ⟨λy hy=> ?_,pw_filter hs _⟩,λx hx y hy=> ?_⟩
 ·obtain ⟨u,hu,rfl⟩:=List.mem_map.1 hy
  have h1:=(List.mem_filter.1 hu).2
  simpa using h1
 ·obtain ⟨u,hu,rfl⟩:=List.mem_map.1 hx
  have h1:=(List.mem_filter.1 hu).2
  simp at h1
  rcases List.mem_cons.1 hy with rfl|hy
  ·exact h1
  ·obtain ⟨w,hw,rfl⟩:=List.mem_map.1 hy
   have h3:=(List.mem_filter.1 hw).2
   simp at h3;omega
theorem insE_mem {es:List EV}{nw e:EV}(h:e∈insE es nw):e=nw∨e∈es∧e.id≠nw.id:=by
 unfold insE at h
 rcases List.mem_append.1 h with h|h
 ·have h1:=List.mem_filter.1 h
  have h2:=h1.2
  simp at h2
  exact .inr ⟨h1.1,by omega⟩
 rcases List.mem_cons.1 h with h|h
 ·exact .inl h
 ·have h1:=List.mem_filter.1 h
  have h2:=h1.2
  simp at h2
  exact .inr ⟨h1.1,by omega⟩
theorem insE_mem' {es:List EV}{nw e:EV}(h:e=nw∨e∈es∧e.id≠nw.id):e∈insE es nw:=by
 unfold insE
 rcases h with rfl|⟨h1,h2⟩
 ·simp
 ·by_cases h3:e.id<nw.id
  ·exact List.mem_append_left _ (List.mem_filter.2 ⟨h1,by simpa using h3⟩)
  ·refine List.mem_append_right _ (List.mem_cons_of_mem _ (List.mem_filter.2 ⟨h1,?_⟩))
   simp;omega
theorem map_id_key {es:List EV}:(es.map EV.abs).map (·.1)=es.map (·.id):=by rw[List.map_map];rfl
theorem insE_perm {es:List EV}{nw:EV}{ch:List (Int×VL)}(hp:(es.map EV.abs).Perm ch)(hk:keysOK ch)(hs:(es.map (·.id)).Pairwise (· < ·)):((insE es nw).map EV.abs).Perm (putL ch nw.id (nw.vs.map OV.abs)):=by
 have k1:keysOK ((insE es nw).map EV.abs):=keys_of_lt (by rw[map_id_key];exact insE_sorted hs);have k2:=putL_ok hk nw.id (nw.vs.map OV.abs);rw[List.perm_ext_iff_of_nodup (keys_nodup k1) (keys_nodup k2)];rintro ⟨x,w⟩;rw[←lkL_iff k2,lkL_put hk]
 constructor
 ·intro h
  obtain ⟨e,he,h2⟩:=List.mem_map.1 h;clear h
  rcases insE_mem he with rfl|⟨he1,he2⟩
  ·have hx:x=e.id:=(congrArg Prod.fst h2).symm
   have hx2:w=e.vs.map OV.abs:=(congrArg Prod.snd h2).symm;rw[if_pos hx,hx2]
  ·have hm:(x,w)∈ch:=hp.mem_iff.1 (by rw[←h2];exact List.mem_map_of_mem he1)
   have hx:x=e.id:=(congrArg Prod.fst h2).symm;rw[if_neg (by rw[hx];exact he2)];exact (lkL_iff hk).2 hm
 ·intro h
  by_cases hx:x=nw.id
  ·rw[if_pos hx] at h
   cases h
   rw[hx];exact List.mem_map_of_mem (f:=EV.abs) (insE_mem' (.inl rfl))
  ·rw[if_neg hx] at h
   obtain ⟨e,he,h2⟩:=List.mem_map.1 (hp.mem_iff.2 ((lkL_iff hk).1 h));rw[←h2];refine List.mem_map_of_mem (f:=EV.abs) (insE_mem' (.inr ⟨he,?_⟩));have:x=e.id:=(congrArg Prod.fst h2).symm;rw[←this];exact hx
theorem ROK.put {M:OM}{st:VS}{a a':OA}{c c':Nat}{es:List EV}{is:List IV}(h:ROK M st a c es a' c' is){M2:OM}(hl:leM M M2){a2:OA}{c2:Nat}{nw:EV}(hnw:okE M2 nw)
  (hs:SlM M2 a2 (insE es nw).length 2 ((insE es nw).flatMap EV.cells)) (hc:(insE es nw).length≤c2):ROK M2 {st with ch:=putL st.ch nw.id (nw.vs.map OV.abs)} a2 c2 (insE es nw) a' c' is:=
 ⟨insE_perm h.ch h.k1 h.cs,insE_sorted h.cs,h.its,h.ss,λe he=>by
  rcases insE_mem he with rfl|⟨he,_⟩
  ·exact hnw
  ·exact (h.oe e he).mono hl,λi hi=>(h.oi i hi).mono hl,hs,h.sI.mono hl,hc,h.cI,putL_ok h.k1 _ _,h.k2,h.oc⟩
theorem sorted_last {vs:VL}(h:sortedV vs):∀v∈vs,v.1≤lastS vs:=by
 intro v hv;unfold lastS
 cases hg:vs.getLast? with
 |none=>rw[List.getLast?_eq_none_iff] at hg;subst hg;cases hv
 |some l=>
  rw[List.getLast?_eq_some_iff] at hg;obtain ⟨p,rfl⟩:=hg;unfold sortedV at h;rw[List.map_append,List.pairwise_append] at h
  rcases List.mem_append.1 hv with hv|hv
  ·have:=h.2.2 v.1 (List.mem_map_of_mem hv) l.1 (by simp)
   simp;omega
  ·obtain rfl:=List.mem_singleton.1 hv
   simp
theorem ROK.chain {M:OM}{st:VS}{a a':OA}{c c':Nat}{es:List EV}{is:List IV}(h:ROK M st a c es a' c' is){e:EV}(he:e∈es):lkL st.ch e.id=some (e.vs.map OV.abs):=by
 rw[←lkL_perm h.k1 h.ch];exact (lkL_iff (keys_perm h.k1 h.ch)).2 (List.mem_map_of_mem (f:=EV.abs) he)
theorem ROK.noC {M:OM}{st:VS}{a a':OA}{c c':Nat}{es:List EV}{is:List IV}(h:ROK M st a c es a' c' is){id:Int}(hn:∀e∈es,e.id≠id):lkL st.ch id=none:=by
 rw[←lkL_perm h.k1 h.ch];exact lkL_none λu hu=>by obtain ⟨w,hw,rfl⟩:=List.mem_map.1 hu;exact hn w hw
theorem RApply_spec (p:Nat)(st:VS)(n:Nat)(txn s:Int)(L:HL)(hw:WF st n)(hn:n≤10000)(hs0:0≤s):
  CallsS Tryz.prog 80 [ptrV p,.int .u64 txn,.int .u64 s] (refH p st::L) (λr L'=>r=.int .i64 (applyE st txn s)∧L'=refH p (applyS st txn s)::L):=by
 refine calls_ref λM a c es a' c' is hok=> ?_
 have hil:is.length≤n:=by rw[hok.len.1];exact hw.il
 refine CallsS.of_body Tryz.func80 rfl rfl rfl ?_;refine Q.r ?_;refine S.cr rfl (Find_spec p st.dim a es c a' is c' st.mark txn M L hok.sI zo) ?_;rintro _ _ ⟨⟨k0,x,rfl,hx,hxt⟩|⟨rfl,hno⟩,rfl⟩
 ·have hlk:=hok.hasT hx
  rw[hxt] at hlk;have hmx:x∈is:=List.mem_of_getElem? hx;have hox:=hok.oi x hmx;have hwx:=hw.io x.abs (hok.its.mem_iff.1 (List.mem_map_of_mem hmx));have hxl:x.ops.length≤16:=by simpa using hwx.1
  have hE:applyE st txn s=if s=0∨1099511627776<s∨s≤x.after then 1 else if (x.ops.any λo=>decide (s≤lastS (chV st.ch o.id))) then 7 else if s≤st.mark then 12 else 0:=by unfold applyE;rw[hlk];dsimp only;rw[List.any_map];rfl
  have hS:applyE st txn s=0→applyS st txn s={st with ch:=applyC s st.ch (x.ops.map OV.abs),its:=delL st.its txn}:=λh=>by unfold applyS;rw[hlk];dsimp only;rw[if_pos h]
  have hk0:k0<is.length:=(List.getElem?_eq_some_iff.1 hx).1;have hrs:RdS (rP p st.dim a es c a' is c' st.mark::roM M::L) a' is.length 3 (is.flatMap IV.cells):=hok.sI.rd;obtain ⟨b,oo,hia,hr⟩:=RdS.elem (g:=IV.cells) (λ_=>rfl) hrs hx rfl;clear hrs;subst hia
  by_cases h1:s=0∨1099511627776<s∨s≤x.after
  ·rw[if_pos h1] at hE
   have hS':=applyS_ne (st:=st) (txn:=txn) (s:=s) (by rw[hE];decide);rw[hE,hS']
   by_cases h1a:s=0
   ·refine Q.r ?_
    exact N.t rfl (ref_shut hok) ⟨rfl,rfl⟩
   by_cases h1b:1099511627776<s
   ·refine Q.r ?_
    exact N.t rfl (ref_shut hok) ⟨rfl,rfl⟩
   ·have h1c:s≤x.after:=by omega
    refine Q.rd6 ?_;exact N.t rfl (ref_shut hok) ⟨rfl,rfl⟩
  rw[if_neg h1] at hE;refine Q.rd6 ?_;have hox':=hok.oc x hmx;refine swp_cutB (σ:=Unit) (λ_=> [(0,ptrV p),(1,.int .u64 txn),(2,.int .u64 s),(8,.slice x.a x.ops.length x.c)]) (λ_=>rP p st.dim a es c (some ⟨b,oo,none⟩) is c' st.mark::roM M::L) (λ_=>(x.ops.any λo=>decide (s≤lastS (chV st.ch o.id)))=false) ?_ ?_
  ·refine swp_loop (σ:=Nat) (λk=> [(0,ptrV p),(1,.int .u64 txn),(2,.int .u64 s),(8,.slice x.a x.ops.length x.c),(52,.slice x.a x.ops.length x.c),(53,.int .i64 x.ops.length),(54,.int .i64 k)]) (λ_=>rP p st.dim a es c (some ⟨b,oo,none⟩) is c' st.mark::roM M::L)
    (λk=>k≤x.ops.length∧(x.ops.take k).any (λo=>decide (s≤lastS (chV st.ch o.id)))=false) (λk=>x.ops.length - k) 0 zt (Ent.refl _) ⟨by omega,by simp⟩ ?_
   rintro k ⟨hk,hany⟩
   by_cases hlt:k<x.ops.length
   ·obtain ⟨o,ho⟩:=mem_get hlt
    have hmo:o∈x.ops:=List.mem_of_getElem? ho;have hrx:RdO (rP p st.dim a es c (some ⟨b,oo,none⟩) is c' st.mark::roM M::L) x.a x.ops:=hox.rd;obtain ⟨b4,o4,hia4,hr4⟩:=RdS.elem (g:=OV.cells) (λ_=>rfl) hrx.1 ho rfl;clear hrx;rw[hia4];refine Q.r ?_;(repeat (intro b1;refine Q.r ?_));refine opsS_ent (L':=rP p st.dim a es c (some ⟨b,oo,none⟩) is c' st.mark::roM M::pt b1 (cl o.cells 119)::L) eG ?_;refine S.cr rfl (RChain_spec p st.dim a es c (some ⟨b,oo,none⟩) is c' st.mark o.id M _ hok.sE (by have:=hok.len.2;have:=hw.cl;omega)) ?_;have hgo:∀(ea:OA) (ec:Nat) (ovs:List OV),chV st.ch o.id=ovs.map OV.abs→RdS (rP p st.dim a es c (some ⟨b,oo,none⟩) is c' st.mark::roM M::pt b1 (cl o.cells 119)::L) ea ovs.length 2 (ovs.flatMap OV.cells)→ovs.length≤n→True:=λ_ _ _ _ _ _=>trivial
    rintro _ _ ⟨⟨e,he,heid,rfl⟩|⟨rfl,hnoe⟩,rfl⟩
    ·have hch:=hok.chain he
     rw[heid] at hch;have hcv:chV st.ch o.id=e.vs.map OV.abs:=by unfold chV;rw[hch];rfl
     have hevl:e.vs.length≤n:=by
      have:=(hw.co _ (lk_memL hch)).2.1
      simpa using this
     refine S.cr rfl (Rlast_spec e.a e.c e.vs _ (hok.oe e he).1.rd zo) ?_;rintro _ _ ⟨rfl,rfl⟩;rw[←hcv]
     by_cases h7:s≤lastS (chV st.ch o.id)
     ·rw[show (x.ops.any λo=>decide (s≤lastS (chV st.ch o.id)))=true from List.any_eq_true.2 ⟨o,hmo,decide_eq_true h7⟩,if_pos rfl] at hE
      have hS':=applyS_ne (st:=st) (txn:=txn) (s:=s) (by rw[hE];decide);rw[hE,hS'];refine Q.r ?_;refine N.t rfl ?_ ⟨rfl,rfl⟩;refine Ent.trans ?_ (ref_shut hok);exact eG
     ·refine Q.r ?_
      refine ⟨k+1,zt,by exact eG,⟨by omega,?_⟩,by omega⟩;rw[take_snoc ho,List.any_append,hany,List.any_cons,decide_eq_false h7];rfl
    ·have hch:=hok.noC hnoe
     have hcv:chV st.ch o.id=[]:=by unfold chV;rw[hch];rfl
     refine S.cr rfl (Rlast_spec none 0 [] _ ⟨rfl,.inl rfl⟩ (by simp)) ?_;rintro _ _ ⟨rfl,rfl⟩;rw[show lastS (List.map OV.abs [])=0 from rfl];refine Q.r ?_;refine ⟨k+1,zt,by exact eG,⟨by omega,?_⟩,by omega⟩;rw[take_snoc ho,List.any_append,hany,List.any_cons,hcv,decide_eq_false (show ¬s≤lastS [] by show ¬s≤0;omega)];rfl
   ·have hke:k=x.ops.length:=by omega
    subst hke;rw[List.take_length] at hany;refine Q.r ?_;exact ⟨(),zt,Ent.refl _,hany⟩
  intro uu hany;rw[hany] at hE;simp only[Bool.false_eq_true,if_false] at hE
  by_cases h12:s≤st.mark
  ·rw[if_pos h12] at hE
   have hS':=applyS_ne (st:=st) (txn:=txn) (s:=s) (by rw[hE];decide);rw[hE,hS'];refine Q.r ?_;exact N.t rfl (ref_shut hok) ⟨rfl,rfl⟩
  rw[if_neg h12] at hE;rw[hS hE,hE];refine Q.r ?_;refine swp_cutB (σ:=Unit) (λ_=> [(0,ptrV p),(1,.int .u64 txn)]) (λ_=>refH p {st with ch:=applyC s st.ch (x.ops.map OV.abs)}::L) (λ_=>True) ?_ ?_
  ·refine swp_loop (σ:=Nat×RX) (λu=> [(0,ptrV p),(1,.int .u64 txn),(2,.int .u64 s),(72,.slice x.a x.ops.length x.c),(73,.int .i64 x.ops.length),(74,.int .i64 u.1)]) (λu=>rP p st.dim u.2.a u.2.es u.2.c u.2.a' u.2.is u.2.c' st.mark::roM u.2.M::L)
    (λu=>u.1≤x.ops.length∧leM M u.2.M∧u.2.es.length≤16*n+u.1∧ROK u.2.M {st with ch:=applyC s st.ch ((x.ops.take u.1).map OV.abs)} u.2.a u.2.c u.2.es u.2.a' u.2.c' u.2.is) (λu=>x.ops.length - u.1) (0,⟨a,c,es,some ⟨b,oo,none⟩,c',is,M⟩) zt (Ent.refl _) ⟨by omega,leM.refl M,by have:=hok.len.2;have:=hw.cl;dsimp only;omega,hok⟩ ?_
   rintro ⟨k,a1,c1,es1,a1',c1',is1,M1⟩ ⟨hk,hl1,hes1,hok1⟩;dsimp only at hk hl1 hes1 hok1 ⊢
   by_cases hlt:k<x.ops.length
   ·obtain ⟨o,ho⟩:=mem_get hlt
    have hmo:o∈x.ops:=List.mem_of_getElem? ho;have hrx:RdO (rP p st.dim a1 es1 c1 a1' is1 c1' st.mark::roM M1::L) x.a x.ops:=(hox.mono hl1).rd;obtain ⟨b4,o4,hia4,hr4⟩:=RdS.elem (g:=OV.cells) (λ_=>rfl) hrx.1 ho rfl;clear hrx;rw[hia4];refine Q.r ?_;(repeat (intro b1;refine Q.r ?_));refine Q.dgo [true,false,false] [3,8] [] [0,1,2,4,5,6,7,3,8,9,10,11,12,13] ?_;refine Q.rd ?_;refine D.e rfl rfl rfl ?_;refine S.cr rfl (RChain_spec p st.dim a1 es1 c1 a1' is1 c1' st.mark o.id M1 L hok1.sE zo) ?_;rintro w _ ⟨hv,rfl⟩;have hx:∃ea ec ovs,w=.slice ea (List.length ovs) ec∧SlM M1 ea ovs.length 2 (ovs.flatMap OV.cells)∧okR M1 ovs∧ovs.map OV.abs=chV (applyC s st.ch ((x.ops.take k).map OV.abs)) o.id:=by
     rcases hv with ⟨e,he,heid,rfl⟩|⟨rfl,hnoe⟩
     ·have hch:=hok1.chain he
      rw[heid] at hch;exact ⟨e.a,e.c,e.vs,rfl,(hok1.oe e he).1,(hok1.oe e he).2,by unfold chV;dsimp only at hch;rw[hch];rfl⟩
     ·have hch:=hok1.noC hnoe
      exact ⟨none,0,[],rfl,⟨rfl,.inl rfl⟩,λo ho=>by (cases ho),by unfold chV;dsimp only at hch;rw[hch];rfl⟩
    clear hv;obtain ⟨ea,ec,ovs,rfl,hSl,hoR,hov⟩:=hx;have hcl:chV (applyC s st.ch ((x.ops.take k).map OV.abs)) o.id=chV st.ch o.id:=by
     unfold chV;rw[lk_apply hok.k1];intro hm;obtain ⟨i1,hi1,hi2⟩:=List.mem_iff_getElem.1 hm;simp only[List.length_map,List.length_take] at hi1;have hnd:=hwx.2.1;have h2:(x.abs.2.2.map (·.1))[k]? =some o.id:=by simp[ho]
     have h1':(x.abs.2.2.map (·.1))[i1]? =some o.id:=by
      have:((x.ops.take k).map OV.abs).map (·.1)=(x.abs.2.2.map (·.1)).take k:=by simp[List.map_take]
      rw[List.getElem_of_eq this] at hi2;rw[List.getElem_take] at hi2;rw[←hi2];exact List.getElem?_eq_getElem _
     have e:=(List.getElem?_inj (by simp;omega) hnd).1 (h1'.trans h2.symm);omega
    have hvs:ovs.map OV.abs=chV st.ch o.id:=hov.trans hcl;have hlst:ovs.length≤n∧sortedV (ovs.map OV.abs):=by
     have hl:ovs.length=(chV st.ch o.id).length:=by rw[←hvs];simp
     rw[hl,hvs];unfold chV
     cases hz:lkL st.ch o.id with
     |none=>exact ⟨Nat.zero_le _,List.Pairwise.nil⟩
     |some w=>exact ⟨(hw.co _ (lk_memL hz)).2.1,(hw.co _ (lk_memL hz)).1⟩
    have hwo:=hwx.2.2 o.abs (List.mem_map_of_mem (f:=OV.abs) hmo);have hlo:o.vec.length≤8:=hwo.1;have hlast:¬s≤lastS (chV st.ch o.id):=λhh=>List.any_eq_false.1 hany o hmo (decide_eq_true hh)
    refine Q.r ?_;refine Q.rd ?_;refine D.e rfl rfl rfl ?_;have hs1:1≤s:=by omega
    have hs2:s≤1099511627776:=by omega
    have hl10:o.vec.length≤10:=by omega
    have hovn:ovs.length≤1000000:=by omega
    refine S.cr rfl (RPut_spec ea ec ovs ⟨s,o.a,o.c,o.vec⟩ _ hSl.rd ((hox.mono hl1).2 o hmo).rd (hox' o hmo) hl10 hovn hs1 hs2 (λh=>hwo.2 h) (λu hu=> ?_)) ?_
    ·have h5:=sorted_last hlst.2 u.abs (List.mem_map_of_mem hu)
     rw[hvs] at h5;have h6:u.id≤lastS (chV st.ch o.id):=h5
     show u.id<s
     omega
    rintro _ _ ⟨a2,c2,a4,c4,rfl,rfl⟩;refine Q.r ?_;refine Q.rd ?_;refine N.tn ?_;refine swp_abs a4 (λM2 hl2 hsv=> ?_);refine swp_abs a2 (λM3 hl3 hs3=> ?_);obtain ⟨nw,hnw⟩:∃nw:EV,nw=⟨o.id,a2,c2,ovs++[⟨s,a4,c4,o.vec⟩]⟩:=⟨_,rfl⟩;have hnl:nw.vs.length=ovs.length+1:=by rw[hnw];simp
    have hSet:=λA=>RSet_spec p st.dim a1 es1 c1 a1' is1 c1' st.mark nw M3 A (hok1.sE.mono (hl2.trans hl3)) zo hok1.cs zo
    have hn1:nw.id=o.id:=by rw[hnw]
    have hn2:nw.a=a2:=by rw[hnw]
    have hn3:nw.c=c2:=by rw[hnw]
    rw[hnl,hn1,hn2,hn3] at hSet;refine Q.r ?_;refine opsS_ent (L':=rP p st.dim a1 es1 c1 a1' is1 c1' st.mark::roM M3::pt b1 (cl o.cells 119)::L) eG ?_;refine S.cr rfl (hSet _) ?_;rintro _ _ ⟨a6,c6,rfl,rfl⟩;refine opsS_cap a6 λhc6=>opsS_abs a6 λM4 hl4 hs4=> ?_
    have hput := hok1.put (hl2.trans (hl3.trans hl4)) (nw := nw) (by rw [hnw];exact ⟨by dsimp only;rw [len_snoc,flat_snoc];exact hs3.mono hl4,fun u hu => by
     rcases List.mem_append.1 hu with hu|hu
     ·exact (hoR u hu).mono (hl2.trans (hl3.trans hl4))
     ·obtain rfl:=List.mem_singleton.1 hu
      exact hsv.mono (hl3.trans hl4)⟩) hs4 hc6
    have hch:putL (applyC s st.ch ((x.ops.take k).map OV.abs)) nw.id (nw.vs.map OV.abs)=applyC s st.ch ((x.ops.take (k+1)).map OV.abs):=by
     rw[take_snoc ho,List.map_append,List.map_cons,List.map_nil,applyC_snoc];unfold putC;rw[hn1,hnw];dsimp only;rw[List.map_append,hov];rfl
    dsimp only at hput;rw[hch] at hput;have hil2:(insE es1 nw).length≤es1.length+1:=by
     unfold insE;rw[List.length_append,List.length_cons];have e1:=List.length_filter_le (λe:EV=>decide (e.id<nw.id)) es1;have e2:(es1.filter λe=>decide (e.id<nw.id)).length+(es1.filter λe=> !decide (e.id<nw.id)).length=es1.length:=by
      have:=(List.filter_append_perm (λe:EV=>decide (e.id<nw.id)) es1).length_eq
      simpa using this
     have e3:(es1.filter λe=>decide (nw.id<e.id)).length≤(es1.filter λe=> !decide (e.id<nw.id)).length:=by
      rw[←List.countP_eq_length_filter,←List.countP_eq_length_filter];exact List.countP_mono_left λu hu h=>by simp at h ⊢;omega
     omega
    refine Q.r ?_;refine ⟨(k+1,⟨a6,c6,insE es1 nw,a1',c1',is1,M4⟩),zt,?_,⟨by dsimp only;omega,hl1.trans (hl2.trans (hl3.trans hl4)),by dsimp only;omega,hput⟩,by dsimp only;omega⟩;exact eG
   ·have hke:k=x.ops.length:=by omega
    subst hke;rw[List.take_length] at hok1;refine Q.r ?_;exact ⟨(),zt,ref_shut hok1,trivial⟩
  intro uu2 _;refine Q.r ?_;refine S.cr rfl (RFree_spec p _ txn _ (by have:=hw.il;dsimp only;omega)) ?_;rintro _ _ ⟨rfl,rfl⟩;dsimp only;rw[hlk];refine Q.r ?_;exact N.t rfl (Ent.refl _) ⟨rfl,rfl⟩
 ·have hlk:=hok.noT hno
  have hE:applyE st txn s=if s=0∨1099511627776<s then 1 else 6:=by unfold applyE;rw[hlk]
  have hS:applyS st txn s=st:=by unfold applyS;rw[hlk]
  rw[hE,hS]
  by_cases h1:s=0∨1099511627776<s
  ·rw[if_pos h1]
   by_cases h1a:s=0
   ·refine Q.r ?_
    exact N.t rfl (ref_shut hok) ⟨rfl,rfl⟩
   ·refine Q.r ?_
    exact N.t rfl (ref_shut hok) ⟨rfl,rfl⟩
  ·rw[if_neg h1]
   refine Q.r ?_;exact N.t rfl (ref_shut hok) ⟨rfl,rfl⟩
theorem CloneV_spec (a:OA)(c:Nat)(xs:List OV)(A:HL)(h:RdS A a xs.length 2 (xs.flatMap OV.cells))(hn:xs.length≤1000000):
  CallsS Tryz.prog 166 [.slice a xs.length c] A (λv L'=>∃a' c',v=.slice a' xs.length c'∧L'=slO 116 2 a' xs.length c' (xs.flatMap OV.cells)::A):=by
 refine CallsS.of_body Tryz.func166 rfl rfl rfl ?_
 cases a with
 |none=>
  have hx:xs=[]:=by
   rcases h.2 with h0|⟨_,_,h0,_⟩
   ·exact List.eq_nil_of_length_eq_zero h0
   ·cases h0
  subst hx;refine Q.r ?_;exact N.t rfl slO_nil ⟨none,0,rfl,rfl⟩
 |some ad=>
  refine Q.r ?_;(repeat (intro b1;refine Q.r ?_));refine opsS_ent (slO_fold (sz:=2) (m:=0) rfl) ?_;refine S.app0 rfl rfl rfl (SrcS.rd h.sub (OV_one _)) zr zo zo (λa5 c5=> ?_);refine Q.r ?_;exact N.t rfl (Ent.refl _) ⟨a5,c5,rfl,rfl⟩
theorem flat_len2 :∀(l:List OV),(l.flatMap OV.cells).length=l.length*2
 | []=>rfl
 |o::l=>by rw[List.flatMap_cons,List.length_append,flat_len2 l,List.length_cons];simp;omega
def cutN (vs:VL)(s:Int):Nat:=if aftN vs s=0 then 0 else if 0<(((vs[aftN vs s - 1]?).map (·.2)).getD []).length then aftN vs s - 1 else aftN vs s
theorem cut_le (vs:VL)(s:Int):cutN vs s≤vs.length:=by
 unfold cutN;have:=aft_le vs s
 split
 ·omega
 ·split<;>omega
theorem ChSweep_spec (M:OM)(p:Nat)(vs:VL)(s:Int)(L:HL)(hs:sortedV vs)(hn:vs.length≤1000000):
  CallsS Tryz.prog 136 [.pointer (some ⟨p,0,none⟩),.int .u64 s] (chainH M p vs::L)
   (λv L'=>∃a c,v=.slice a (cutN vs s) c∧L'=slO 31 1 a (cutN vs s) c (((vs.take (cutN vs s)).map (·.1)).map U64)::chainH M p (vs.drop (cutN vs s))::L):=by
 refine calls_chain λa c ovs h1 h2=> ?_
 subst h1;rw[List.length_map] at hn;refine CallsS.addr a λha=> ?_
 refine CallsS.of_body Tryz.func136 rfl rfl rfl ?_;refine Q.r ?_;refine S.cr rfl (after_spec' p a c ovs s L hs hn) ?_;rintro _ _ ⟨rfl,rfl⟩;have hle:=aft_le (ovs.map OV.abs) s;rw[List.length_map] at hle;obtain ⟨n,hnn⟩:∃n,n=aftN (ovs.map OV.abs) s:=⟨_,rfl⟩;obtain ⟨m,hm⟩:∃m,m=cutN (ovs.map OV.abs) s:=⟨_,rfl⟩;have hmle:m≤ovs.length:=by rw[hm];have:=cut_le (ovs.map OV.abs) s;simpa using this
 rw[←hnn] at hle ⊢;rw[←hm];unfold cutN at hm;rw[←hnn] at hm
 repeat (first|(refine GQ.y ?_;refine Q.y ?_)|refine Q.go ?_|(refine GQ.g ?_;refine Q.gq ?_)|(refine GQ.s ?_;refine Q.st ?_)|(refine GQ.a ?_;refine Q.al (λb1=> ?_)))
 refine opsS_cutT (σ:=Bool) (λt=> [(0,.pointer (some ⟨p,0,none⟩)),(5,.int .i64 n),(28,.bool t)]) (λ_=>pt p (cl [.slice a ovs.length c] 250)::slO 116 2 a ovs.length c (ovs.flatMap OV.cells)::L) (λt=>(m=if t=true then n - 1 else n)∧(t=true→0<n)) ?_ ?_
 ·by_cases h0:n=0
  ·rw[if_pos h0] at hm
   refine Q.r ?_;exact ⟨false,⟨rfl,rfl,by rw[decide_eq_false (show ¬(0:Int)<(n:Int) by omega)];rfl,trivial⟩,Ent.refl _,by rw[hm,h0];rfl,λh=>by cases h⟩
  ·rw[if_neg h0] at hm
   obtain ⟨o,ho⟩:=mem_get (l:=ovs) (k:=n - 1) zo;have hat:(((ovs.map OV.abs)[n - 1]?).map (·.2)).getD []=o.vec:=by rw[List.getElem?_map,ho];rfl
   rw[hat] at hm
   rcases ha with ha|⟨b,rfl⟩
   ·omega
   have hr:=chain_rd (p:=p) (b:=b) (c:=c) (L:=L) ho;refine Q.rd6 ?_
   by_cases hz:0<o.vec.length
   ·rw[if_pos hz] at hm
    exact ⟨true,⟨rfl,rfl,by rw[decide_eq_true (show (0:Int)<(o.vec.length:Int) by omega)];rfl,trivial⟩,Ent.refl _,by rw[if_pos rfl];exact hm,λ_=>by omega⟩
   ·rw[if_neg hz] at hm
    exact ⟨false,⟨rfl,rfl,by rw[decide_eq_false (show ¬(0:Int)<(o.vec.length:Int) by omega)];rfl,trivial⟩,Ent.refl _,by rw[if_neg Bool.false_ne_true];exact hm,λh=>by cases h⟩
 clear hm;rintro t ⟨hm,ht⟩;refine swp_cutT (σ:=Unit) (λ_=> [(0,.pointer (some ⟨p,0,none⟩)),(5,.int .i64 m)]) (λ_=>pt p (cl [.slice a ovs.length c] 250)::slO 116 2 a ovs.length c (ovs.flatMap OV.cells)::L) (λ_=>True) ?_ ?_
 ·cases t with
  |true=>
   rw[if_pos rfl] at hm;have h0:=ht rfl
   ·refine Q.rn ?_
    exact ⟨(),⟨rfl,by rw[hm];rfl,trivial⟩,Ent.refl _,trivial⟩
  |false=>
   rw[if_neg Bool.false_ne_true] at hm;refine Q.r ?_;exact ⟨(),⟨rfl,by rw[hm];rfl,trivial⟩,Ent.refl _,trivial⟩
 intro _ _;refine Q.r ?_;refine opsS_cap a λhcap=> ?_
 have hmc:m≤c:=Nat.le_trans hmle hcap;clear hm ht hs;refine S.y (Y.slT (h:=m) rfl rfl rfl hmc) ?_;refine Q.r ?_;refine swp_cutB (σ:=OA×Nat) (λu=> [(0,.pointer (some ⟨p,0,none⟩)),(5,.int .i64 m),(6,.slice u.1 m u.2)]) (λu=>slO 31 1 u.1 m u.2 (((ovs.take m).map (·.id)).map U64)::pt p (cl [.slice a ovs.length c] 250)::slO 116 2 a ovs.length c (ovs.flatMap OV.cells)::L) (λ_=>True) ?_ ?_
 ·refine swp_loop (σ:=Nat×OA×Nat) (λu=> [(0,.pointer (some ⟨p,0,none⟩)),(5,.int .i64 m),(36,.slice a m c),(37,.int .i64 m),(6,.slice u.2.1 u.1 u.2.2),(38,.int .i64 u.1)]) (λu=>slO 31 1 u.2.1 u.1 u.2.2 (((ovs.take u.1).map (·.id)).map U64)::pt p (cl [.slice a ovs.length c] 250)::slO 116 2 a ovs.length c (ovs.flatMap OV.cells)::L)
   (λu=>u.1≤m) (λu=>m - u.1) (0,none,0) zt slO_nil (by dsimp only;omega) ?_
  rintro ⟨k,a3,c3⟩ hk;dsimp only at hk ⊢
  by_cases hlt:k<m
  ·obtain ⟨o,ho⟩:=mem_get (l:=ovs) (k:=k) zo
   rcases ha with ha|⟨b,rfl⟩
   ·omega
   have hr:RdC (slO 31 1 a3 k c3 (((ovs.take k).map (·.id)).map U64)::pt p (cl [.slice (some ⟨b,0,none⟩) ovs.length c] 250)::slO 116 2 (some ⟨b,0,none⟩) ovs.length c (ovs.flatMap OV.cells)::L) b (0+k*2) (OV.cells o):=RdC.elem (g:=OV.cells) (λ_=>rfl) RdC.ofS ho;refine Q.r ?_;(repeat (intro b1;refine Q.r ?_));refine S.app rfl rfl (SrcS.sl RdC.row zr zr) zr zo zo (λa4 c4=> ?_);refine Q.r ?_;refine ⟨(k+1,a4,c4),zt,?_,by dsimp only;omega,by dsimp only;omega⟩;dsimp only;rw[take_snoc ho,List.map_append,List.map_append];exact eG
  ·have hke:k=m:=by omega
   subst hke;refine Q.r ?_;exact ⟨(a3,c3),zt,Ent.refl _,trivial⟩
 rintro ⟨a3,c3⟩ -;dsimp only;refine Q.r ?_;refine S.y (Y.slFa (l:=m) rfl rfl rfl hmle (by rcases ha with ha|⟨b,rfl⟩;exact .inl ha;exact .inr ⟨b,0,rfl⟩)) ?_;have hrv:∀L',L'=slO 31 1 a3 m c3 (((ovs.take m).map (·.id)).map U64)::pt p (cl [.slice a ovs.length c] 250)::slO 116 2 a ovs.length c (ovs.flatMap OV.cells)::L→RdS L' (subA a c m 2) (ovs.drop m).length 2 ((ovs.drop m).flatMap OV.cells):=by
  rintro L' rfl;have h0:RdS (slO 31 1 a3 m c3 (((ovs.take m).map (·.id)).map U64)::pt p (cl [.slice a ovs.length c] 250)::slO 116 2 a ovs.length c (ovs.flatMap OV.cells)::L) a ovs.length 2 (ovs.flatMap OV.cells):=RdS.ofS (flat_len2 _) ha;have h1:=RdS.fromA (l:=m) h0 hmle hcap;rw[flat_drop (sz:=2) (λ_=>rfl)] at h1;rw[List.length_drop];exact h1
 have hCl:=CloneV_spec (subA a c m 2) (c - m) (ovs.drop m) _ (hrv _ rfl) (by rw[List.length_drop];omega);rw[List.length_drop] at hCl;refine S.cr rfl hCl ?_;rintro _ _ ⟨a5,c5,rfl,rfl⟩;refine Q.r ?_;have e:(((ovs.map OV.abs).take m).map (·.1)).map U64=((ovs.take m).map (·.id)).map U64:=congrArg (List.map U64) (by rw[←List.map_take,List.map_map];rfl);rw[e];refine N.t rfl ?_ ⟨a3,c3,rfl,rfl⟩;have:=chain_shut (p:=p) (a:=a5) (c:=c5) (L:=L) (M:=M) (ovs:=ovs.drop m) (λo ho=>h2 o (List.mem_of_mem_drop ho));rw[List.length_drop,List.map_drop] at this;refine Ent.pick (Ent.trans ?_ this);exact eG
abbrev GL :=List (Int×Int)
def sw1 (s:Int)(u:List (Int×VL)×GL)(id:Int):List (Int×VL)×GL:=
 (if ((chV u.1 id).drop (cutN (chV u.1 id) s)).length=0 then delL u.1 id else putL u.1 id ((chV u.1 id).drop (cutN (chV u.1 id) s)),u.2++((chV u.1 id).take (cutN (chV u.1 id) s)).map λv=>(id,v.1))
def swF (s:Int)(ks:List Int)(ch:List (Int×VL)):List (Int×VL)×GL:=ks.foldl (sw1 s) (ch,[])
def swIds (ch:List (Int×VL)):List Int:=sortL (ch.map (·.1))
def sweepS (st:VS)(s:Int):VS:=if min s 1099511627776≤st.mark then st else {st with mark:=min s 1099511627776,ch:=(swF (min s 1099511627776) (swIds st.ch) st.ch).1}
def sweepG (st:VS)(s:Int):GL:=if min s 1099511627776≤st.mark then [] else (swF (min s 1099511627776) (swIds st.ch) st.ch).2
theorem lkL_del {κ α:Type}[DecidableEq κ]{m:List (κ×α)}(x y:κ)(h:y≠x):lkL (delL m x) y=lkL m y:=by
 unfold lkL delL;rw[List.find?_filter]
 congr 2
 funext u
 by_cases hu:u.1=y
 ·have:u.1≠x:=λe=>h (by rw[←hu,e])
  simp[hu,h]
 ·simp[hu]
theorem sw1_ok {s:Int}{u:List (Int×VL)×GL}(h:keysOK u.1)(id:Int):keysOK (sw1 s u id).1:=by
 unfold sw1;dsimp only
 split
 ·exact delL_ok h id
 ·exact putL_ok h _ _
theorem sw1_lk {s:Int}{u:List (Int×VL)×GL}(h:keysOK u.1){id x:Int}(hx:x≠id):lkL (sw1 s u id).1 x=lkL u.1 x:=by
 unfold sw1;dsimp only
 split
 ·exact lkL_del _ _ hx
 ·rw[lkL_put h,if_neg hx]
theorem swF_ok {s:Int}:∀{ks:List Int} {u:List (Int×VL)×GL},keysOK u.1→keysOK (ks.foldl (sw1 s) u).1
 | [],_,h=>h
 |k::ks,u,h=>swF_ok (ks:=ks) (u:=sw1 s u k) (sw1_ok h k)
theorem swF_lk {s:Int}{x:Int}:∀{ks:List Int} {u:List (Int×VL)×GL},keysOK u.1→x∉ks→lkL (ks.foldl (sw1 s) u).1 x=lkL u.1 x
 | [],_,_,_=>rfl
 |k::ks,u,h,hx=>by
  simp only[List.mem_cons,not_or] at hx
  show lkL (ks.foldl (sw1 s) (sw1 s u k)).1 x=_
  rw[swF_lk (ks:=ks) (sw1_ok h k) hx.2,sw1_lk h hx.1]
theorem swIds_nodup {ch:List (Int×VL)}(h:keysOK ch):(swIds ch).Nodup:=(sortL_perm _).nodup_iff.2 h
theorem swIds_mem {ch:List (Int×VL)}{x:Int}(h:x∈swIds ch):∃vs,(x,vs)∈ch:=by
 obtain ⟨u,hu,e⟩:=List.mem_map.1 ((sortL_perm _).mem_iff.1 h);exact ⟨u.2,by rw[←e];exact hu⟩
theorem swF_at {s:Int}{ch:List (Int×VL)}(h:keysOK ch){k:Nat}{x:Int}(hx:(swIds ch)[k]? =some x):∃vs,lkL ch x=some vs∧lkL (((swIds ch).take k).foldl (sw1 s) (ch,[])).1 x=some vs:=by
 obtain ⟨vs,hm⟩:=swIds_mem (List.mem_of_getElem? hx);have h1:=(lkL_iff h).2 hm;refine ⟨vs,h1,?_⟩;rw[swF_lk (u:=(ch,[])) h (λhk=> ?_)]
 ·exact h1
 ·obtain ⟨j,hj,e⟩:=List.mem_iff_getElem.1 hk
  rw[List.length_take] at hj;rw[List.getElem_take] at e;have h2:(swIds ch)[j]? =some x:=by rw[←e];exact List.getElem?_eq_getElem _
  have:=(List.getElem?_inj zo (swIds_nodup h)).1 (h2.trans hx.symm);omega
theorem foldl_take {α β:Type}(f:β→α→β)(b:β){l:List α}{k:Nat}{x:α}(h:l[k]? =some x):(l.take (k+1)).foldl f b=f ((l.take k).foldl f b) x:=by
 rw[take_snoc h,List.foldl_append];rfl
abbrev gcells (x:Int×Int):List Value:=[.int .u64 x.1,.int .u64 x.2]
theorem AtC.del {ch:List (Int×VL)}{id:Int}{p q:List CR}{b:Nat}{vs:VL}(h:AtC ch id p q b vs)(e:ch=(p++(id,b,vs)::q).map λc=>(c.1,c.2.2)):(p++q).map (λc=>(c.1,c.2.2))=delL ch id:=by
 rw[e];unfold delL;rw[List.map_append,List.map_append,List.map_cons,List.filter_append,List.filter_cons];simp only[decide_true,Bool.not_true,Bool.false_eq_true,if_false];rw[List.filter_eq_self.2,List.filter_eq_self.2]
 ·intro u hu
  obtain ⟨w,hw,rfl⟩:=List.mem_map.1 hu;have:=h.hq w hw
  simpa using this
 ·intro u hu
  obtain ⟨w,hw,rfl⟩:=List.mem_map.1 hu;have:=h.hp w hw
  simpa using this
theorem delP {p q:List CR}{id:Int}{b:Nat}{vs:VL}(hp:∀u∈p,u.1≠id)(hq:∀u∈q,u.1≠id):delL ((p++(id,b,vs)::q).map λc=>(c.1,c.2.1)) id=(p++q).map λc=>(c.1,c.2.1):=by
 unfold delL;rw[List.map_append,List.map_append,List.map_cons,List.filter_append,List.filter_cons];simp only[decide_true,Bool.not_true,Bool.false_eq_true,if_false];rw[List.filter_eq_self.2,List.filter_eq_self.2]
 ·intro u hu
  obtain ⟨w,hw,rfl⟩:=List.mem_map.1 hu;have:=hq w hw
  simpa using this
 ·intro u hu
  obtain ⟨w,hw,rfl⟩:=List.mem_map.1 hu;have:=hp w hw
  simpa using this
theorem Sweep_spec (v:Nat)(st:VS)(n:Nat)(s:Int)(L:HL)(hw:WF st n)(hn:n≤10000):
  CallsS Tryz.prog 75 [ptrV v,.int .u64 s] (vaultH v st::L) (λr L'=>∃a c,r=.slice a (sweepG st s).length c∧(sweepG st s).length≤1600000000∧L'=slO 242 2 a (sweepG st s).length c ((sweepG st s).flatMap gcells)::vaultH v (sweepS st s)::L):=by
 unfold sweepG sweepS;refine calls_vault λmc mi M cs is hok=> ?_
 obtain ⟨m,hm⟩:∃m,m=min s 1099511627776:=⟨_,rfl⟩;rw[←hm];have hcl:cs.length=st.ch.length:=by rw[←hok.ch];simp
 have hcn:cs.length≤16*n:=by rw[hcl];exact hw.cl
 refine CallsS.of_body Tryz.func75 rfl rfl rfl ?_
 by_cases h1:m≤st.mark
 ·rw[if_pos h1,if_pos h1]
  repeat (first|(refine GQ.y ?_;refine Q.y ?_)|refine Q.go ?_|(refine GQ.g ?_;refine Q.gq ?_)|(refine GQ.s ?_;refine Q.st ?_)|(refine GQ.a ?_;refine Q.al (λb1=> ?_)))
  rw[←hm];refine Q.r ?_;refine N.t rfl ?_ ⟨none,0,rfl,by simp,rfl⟩;refine Ent.trans ?_ slO_nil;exact vault_shut hok
 rw[if_neg h1,if_neg h1]
 repeat (first|(refine GQ.y ?_;refine Q.y ?_)|refine Q.go ?_|(refine GQ.g ?_;refine Q.gq ?_)|(refine GQ.s ?_;refine Q.st ?_)|(refine GQ.a ?_;refine Q.al (λb1=> ?_)))
 rw[←hm];refine Q.r ?_;refine S.cr rfl (Ids_spec v mc mi st.dim m cs _ zo) ?_;rintro _ _ ⟨a,c,rfl,rfl⟩;refine Q.r ?_;obtain ⟨ks,hks⟩:∃ks,ks=swIds st.ch:=⟨_,rfl⟩;have hks':sortL (cs.map (·.1))=ks:=by rw[hks,←hok.ch];unfold swIds;rw[List.map_map];rfl
 have hkl:cs.length=ks.length:=by rw[←hks',sortL_len,List.length_map]
 rw[hks',hkl];rw[hkl] at hcn;refine swp_addr a (λha=> ?_);have hkeys:keysOK (cs.map λc=>(c.1,c.2.2)):=by rw[hok.ch];exact hok.k1
 refine swp_cutB (σ:=OA×Nat×List CR) (λu=> [(5,.slice u.1 (swF m ks st.ch).2.length u.2.1)]) (λu=>slO 242 2 u.1 (swF m ks st.ch).2.length u.2.1 ((swF m ks st.ch).2.flatMap gcells)::vP v mc mi st.dim m::vC mc u.2.2::vI mi is::chsH M u.2.2::roM M::L) (λu=>u.2.2.map (λc=>(c.1,c.2.2))=(swF m ks st.ch).1∧(swF m ks st.ch).2.length≤1600000000) ?_ ?_
 ·refine swp_loop (σ:=Nat×OA×Nat×GL×List CR) (λu=> [(0,ptrV v),(1,.int .u64 m),(27,.slice a ks.length c),(28,.int .i64 ks.length),(5,.slice u.2.1 u.2.2.2.1.length u.2.2.1),(29,.int .i64 u.1)])
   (λu=>slO 31 1 a ks.length c (ks.map U64)::slO 242 2 u.2.1 u.2.2.2.1.length u.2.2.1 (u.2.2.2.1.flatMap gcells)::vP v mc mi st.dim m::vC mc u.2.2.2.2::vI mi is::chsH M u.2.2.2.2::roM M::L)
   (λu=>u.1≤ks.length∧u.2.2.2.1.length≤u.1*10000∧(u.2.2.2.2.map (λc=>(c.1,c.2.2)),u.2.2.2.1)=(ks.take u.1).foldl (sw1 m) (st.ch,[])) (λu=>ks.length - u.1) (0,none,0,[],cs) zt ?_ ⟨by omega,by simp,by dsimp only;rw[hok.ch];rfl⟩ ?_
  ·refine Ent.cons (Ent.trans ?_ slO_nil)
   exact eG
  rintro ⟨k,a3,c3,g,cs1⟩ ⟨hk,hgl,hfold⟩;dsimp only at hk hgl hfold ⊢
  by_cases hlt:k<ks.length
  ·obtain ⟨id,hx⟩:=mem_get hlt
   have hx':=hx;rw[hks] at hx';obtain ⟨vs0,hl1,hl2⟩:=swF_at (s:=m) hok.k1 hx';rw[←hks,←hfold] at hl2;dsimp only at hl2;have hk1:keysOK (cs1.map λc=>(c.1,c.2.2)):=by
    have:=swF_ok (s:=m) (ks:=ks.take k) (u:=(st.ch,[])) hok.k1;rw[←hfold] at this;exact this
   rcases ha with ha|⟨b,rfl⟩
   ·omega
   rcases cr_case cs1 hk1 id with ⟨p,q,b2,vs,rfl,e1,e2,e3,e4⟩|⟨e1,e2,e3⟩
   ·rw[e2] at hl2
    obtain rfl:=Option.some.inj hl2;have hco:=hw.co _ (lk_memL hl1);have hcv:chV ((p++(id,b2,vs)::q).map λc=>(c.1,c.2.2)) id=vs:=by unfold chV;rw[e2];rfl
    have hstep:=foldl_take (sw1 m) (st.ch,[]) hx;rw[←hfold] at hstep;have hrs:RdS (slO 31 1 (some ⟨b,0,none⟩) ks.length c (ks.map U64)::slO 242 2 a3 g.length c3 (g.flatMap gcells)::vP v mc mi st.dim m::vC mc (p++(id,b2,vs)::q)::vI mi is::chsH M (p++(id,b2,vs)::q)::roM M::L) (some ⟨b,0,none⟩) ks.length 1 (ks.flatMap cU):=by
     rw[flat_U];exact RdS.ofS (by simp) (.inr ⟨b,rfl⟩)
    obtain ⟨b',o',hbo,hr⟩:=RdS.elem (g:=cU) (λ_=>rfl) hrs hx rfl
    cases hbo
    clear hrs;refine Q.r ?_;refine S.y (Y.lk false rfl rfl (λw=>Tryz.zeroValue197 w)) ?_;rw[e1];dsimp only;refine Q.r ?_;refine opsS_ent (L':=chainH M b2 vs::slO 31 1 (some ⟨b,0,none⟩) ks.length c (ks.map U64)::slO 242 2 a3 g.length c3 (g.flatMap gcells)::vP v mc mi st.dim m::vC mc (p++(id,b2,vs)::q)::vI mi is::chsH M (p++q)::roM M::L) ?_ ?_
    ·refine Ent.trans (?_:Ent _ (chsH M (p++(id,b2,vs)::q)::slO 31 1 (some ⟨b,0,none⟩) ks.length c (ks.map U64)::slO 242 2 a3 g.length c3 (g.flatMap gcells)::vP v mc mi st.dim m::vC mc (p++(id,b2,vs)::q)::vI mi is::roM M::L)) ?_
     ·exact eG
     refine (chs_out (p:=p) (q:=q) (x:=(id,b2,vs)) (M:=M)).trans (Ent.cons ?_);exact eG
    refine S.cr rfl (ChSweep_spec M b2 vs m _ hco.1 (by have:=hco.2.1;dsimp only at this;omega)) ?_;rintro _ _ ⟨a4,c4,rfl,rfl⟩;obtain ⟨nn,hN⟩:∃nn,nn=cutN vs m:=⟨_,rfl⟩;have hNl:nn≤vs.length:=by rw[hN];exact cut_le _ _
    have hvl:vs.length≤n:=hco.2.1;rw[←hN];refine opsS_addr a4 (λha4=> ?_);refine Q.r ?_;refine swp_cutB (σ:=OA×Nat) (λu=> [(0,ptrV v),(1,.int .u64 m),(7,.int .u64 id),(27,.slice (some ⟨b,0,none⟩) ks.length c),(28,.int .i64 ks.length),(29,.int .i64 k),(5,.slice u.1 (g++(vs.take nn).map λv=>(id,v.1)).length u.2)])
     (λu=>slO 242 2 u.1 (g++(vs.take nn).map λv=>(id,v.1)).length u.2 ((g++(vs.take nn).map λv=>(id,v.1)).flatMap gcells)::chainH M b2 (vs.drop nn)::slO 31 1 (some ⟨b,0,none⟩) ks.length c (ks.map U64)::vP v mc mi st.dim m::vC mc (p++(id,b2,vs)::q)::vI mi is::chsH M (p++q)::roM M::L) (λ_=>True) ?_ ?_
    ·refine swp_loop (σ:=Nat×OA×Nat×GL) (λu=> [(0,ptrV v),(1,.int .u64 m),(7,.int .u64 id),(27,.slice (some ⟨b,0,none⟩) ks.length c),(28,.int .i64 ks.length),(29,.int .i64 k),(40,.slice a4 nn c4),(41,.int .i64 nn),(5,.slice u.2.1 u.2.2.2.length u.2.2.1),(42,.int .i64 u.1)])
      (λu=>slO 31 1 a4 nn c4 (((vs.take nn).map (·.1)).map U64)::slO 242 2 u.2.1 u.2.2.2.length u.2.2.1 (u.2.2.2.flatMap gcells)::chainH M b2 (vs.drop nn)::slO 31 1 (some ⟨b,0,none⟩) ks.length c (ks.map U64)::vP v mc mi st.dim m::vC mc (p++(id,b2,vs)::q)::vI mi is::chsH M (p++q)::roM M::L)
      (λu=>u.1≤nn∧u.2.2.2=g++(vs.take u.1).map λv=>(id,v.1)) (λu=>nn - u.1) (0,a3,c3,g) zt ?_ ⟨by dsimp only;omega,by simp⟩ ?_
     ·dsimp only
      exact eG
     rintro ⟨j,a5,c5,g5⟩ ⟨hj,hg5⟩;dsimp only at hj hg5 ⊢;have hg5l:g5.length=g.length+min j vs.length:=by rw[hg5];simp
     by_cases hjl:j<nn
     ·obtain ⟨w,hwj⟩:=mem_get (l:=vs) (k:=j) zo
      rcases ha4 with ha4|⟨b4,rfl⟩
      ·omega
      have hwm:((vs.take nn).map (·.1))[j]? =some w.1:=by rw[List.getElem?_map,List.getElem?_take,if_pos hjl,hwj];rfl
      have hNN:nn=((vs.take nn).map (·.1)).length:=by simp;omega
      have hrs:RdS (slO 31 1 (some ⟨b4,0,none⟩) nn c4 (((vs.take nn).map (·.1)).map U64)::slO 242 2 a5 g5.length c5 (g5.flatMap gcells)::chainH M b2 (vs.drop nn)::slO 31 1 (some ⟨b,0,none⟩) ks.length c (ks.map U64)::vP v mc mi st.dim m::vC mc (p++(id,b2,vs)::q)::vI mi is::chsH M (p++q)::roM M::L) (some ⟨b4,0,none⟩) nn 1 (((vs.take nn).map (·.1)).flatMap cU):=by
       rw[flat_U];exact RdS.ofS (by simp;omega) (.inr ⟨b4,rfl⟩)
      obtain ⟨b',o',hbo,hr⟩:=RdS.elem (g:=cU) (λ_=>rfl) hrs hwm hNN
      cases hbo
      clear hrs;refine Q.r ?_;(repeat (intro b1;refine Q.r ?_));refine S.app rfl rfl (SrcS.sl RdC.row zr zr) zr zo zo (λa6 c6=> ?_);refine Q.r ?_;refine ⟨(j+1,a6,c6,g5++[(id,w.1)]),⟨rfl,rfl,rfl,rfl,rfl,rfl,rfl,rfl,congrArg some (by simp),rfl,trivial⟩,?_,⟨by dsimp only;omega,?_⟩,by dsimp only;omega⟩
      ·dsimp only
       rw[len_snoc,flat_snoc];exact eG
      ·dsimp only
       rw[hg5,take_snoc hwj,List.map_append,List.append_assoc];rfl
     ·have hje:j=nn:=by omega
      subst hje;refine Q.r ?_;subst hg5;exact ⟨(a5,c5),zt,by exact eG,trivial⟩
    rintro ⟨a5,c5⟩ -;dsimp only;have hat:AtC ((p++(id,b2,vs)::q).map λc=>(c.1,c.2.2)) id p q b2 vs:=AtC.some e3 e4;have hgg:((g++(vs.take nn).map λv=>(id,v.1)):GL).length≤(k+1)*10000:=by
     rw[List.length_append,List.length_map,List.length_take];omega
    have hdl:(vs.drop nn).length=vs.length - nn:=List.length_drop ..;refine Q.r ?_;refine S.y (Y.lk false rfl rfl (λw=>Tryz.zeroValue197 w)) ?_;rw[e1];dsimp only;refine S.cch b2 rfl (ChLen_spec M b2 _ _) ?_;rintro _ _ ⟨rfl,rfl⟩
    by_cases h0:(vs.drop nn).length=0
    ·refine Q.r ?_
     refine S.dl rfl rfl ?_;rw[delP e3 e4];refine Q.r ?_;refine ⟨(k+1,a5,c5,g++(vs.take nn).map (λv=>(id,v.1)),p++q),zt,?_,⟨by dsimp only;omega,by dsimp only;exact hgg,?_⟩,by dsimp only;omega⟩
     ·dsimp only
      exact eG
     ·dsimp only
      rw[hstep,hat.del rfl];unfold sw1;dsimp only;rw[hcv,←hN,if_pos h0]
    ·refine Q.r ?_
     refine ⟨(k+1,a5,c5,g++(vs.take nn).map (λv=>(id,v.1)),p++(id,b2,vs.drop nn)::q),zt,?_,⟨by dsimp only;omega,by dsimp only;exact hgg,?_⟩,by dsimp only;omega⟩
     ·dsimp only
      rw[show vC mc (p++(id,b2,vs)::q)=vC mc (p++(id,b2,vs.drop nn)::q) by unfold vC;simp];refine Ent.pick (Ent.pick (Ent.pick (Ent.pick (Ent.pick ?_))));refine Ent.trans ?_ (chs_in (p:=p) (q:=q) (x:=(id,b2,vs.drop nn)));exact eG
     ·dsimp only
      rw[hstep,hat.put];unfold sw1;dsimp only;rw[hcv,←hN,if_neg h0]
   ·rw[e2] at hl2
    cases hl2
  ·have hke:k=ks.length:=by omega
   subst hke;rw[List.take_length] at hfold;have h1':(swF m ks st.ch).1=cs1.map (λc=>(c.1,c.2.2)):=(congrArg Prod.fst hfold).symm;have h2':(swF m ks st.ch).2=g:=(congrArg Prod.snd hfold).symm;rw[h1',h2'];refine Q.r ?_;exact ⟨(a3,c3,cs1),zt,by exact eG,rfl,by omega⟩
 rintro ⟨a3,c3,cs1⟩ ⟨hcs,hgb⟩;dsimp only at hcs hgb ⊢;refine Q.r ?_;rw[←hks];refine N.t rfl (Ent.cons ?_) ⟨a3,c3,rfl,hgb,rfl⟩;have hok2:VOK M {st with mark:=m,ch:=(swF m ks st.ch).1} cs1 is:=⟨hcs,hok.its,hok.ok,swF_ok (u:=(st.ch,[])) hok.k1,hok.k2⟩;exact vault_shut hok2
theorem cut_iff {ovs:List OV}{s:Int}(hs:sortedV (ovs.map OV.abs)){i:Nat}{o:OV}(ho:ovs[i]? =some o):
  cutN (ovs.map OV.abs) s≤i↔(s<o.id∨((i+1=ovs.length∨∃y,ovs[i+1]? =some y∧s<y.id)∧0<o.vec.length)):=by
 have hil:i<ovs.length:=(List.getElem?_eq_some_iff.1 ho).1;have hle:=aft_le (ovs.map OV.abs) s;rw[List.length_map] at hle;have hat:∀(j:Nat) (y:OV),ovs[j]? =some y→(ovs.map OV.abs)[j]? =some (y.id,y.vec):=λj y h=>by rw[List.getElem?_map,h];rfl
 unfold cutN;obtain ⟨n,hn⟩:∃n,n=aftN (ovs.map OV.abs) s:=⟨_,rfl⟩;rw[←hn] at hle ⊢
 by_cases h1:n≤i
 ·have h2:=aft_hi (st:=s) hs i _ zo (hat i o ho)
  constructor
  ·intro _;exact .inl h2
  ·intro _
   by_cases h0:n=0
   ·rw[if_pos h0];omega
   ·rw[if_neg h0];split<;>omega
 ·have h2:=aft_lo (st:=s) hs i _ zo (hat i o ho)
  dsimp only at h2;rw[if_neg zo]
  by_cases h3:i=n - 1
  ·have e:(((ovs.map OV.abs)[n - 1]?).map (·.2)).getD []=o.vec:=by rw[←h3,hat i o ho];rfl
   rw[e];have hlast:i+1=ovs.length∨∃y,ovs[i+1]? =some y∧s<y.id:=by
    by_cases h4:i+1=ovs.length
    ·exact .inl h4
    ·obtain ⟨y,hy⟩:=mem_get (l:=ovs) (k:=i+1) zo
     exact .inr ⟨y,hy,aft_hi (st:=s) hs (i+1) _ zo (hat _ y hy)⟩
   by_cases hz:0<o.vec.length
   ·rw[if_pos hz]
    exact ⟨λ_=>.inr ⟨hlast,hz⟩,λ_=>by omega⟩
   ·rw[if_neg hz]
    constructor
    ·intro h;omega
    ·rintro (h|⟨_,h⟩)
     ·omega
     ·exact absurd h hz
  ·constructor
   ·intro h
    exfalso
    split at h<;>omega
   ·rintro (h|⟨h|⟨y,hy,h⟩,_⟩)
    ·omega
    ·omega
    ·have:=aft_lo (st:=s) hs (i+1) _ zo (hat _ y hy)
     dsimp only at this;omega
theorem RChSweep_spec (a:OA)(c:Nat)(ovs:List OV)(s:Int)(L:HL)(h:RdS L a ovs.length 2 (ovs.flatMap OV.cells))(hn:ovs.length≤1000000)(hs:sortedV (ovs.map OV.abs)):
  CallsS Tryz.prog 138 [.slice a ovs.length c,.int .u64 s] L
   (λr L'=>∃a1 c1 a2 c2,r=.tuple #[.slice a1 (ovs.drop (cutN (ovs.map OV.abs) s)).length c1,.slice a2 ((ovs.take (cutN (ovs.map OV.abs) s)).map (·.id)).length c2]∧L'=slO 149 2 a1 (ovs.drop (cutN (ovs.map OV.abs) s)).length c1 ((ovs.drop (cutN (ovs.map OV.abs) s)).flatMap OV.cells)::slO 31 1 a2 ((ovs.take (cutN (ovs.map OV.abs) s)).map (·.id)).length c2 (((ovs.take (cutN (ovs.map OV.abs) s)).map (·.id)).map U64)::L):=by
 obtain ⟨nn,hnn⟩:∃nn,nn=cutN (ovs.map OV.abs) s:=⟨_,rfl⟩;have hci:=λi o ho=>cut_iff (s:=s) hs (i:=i) (o:=o) ho
 rw[←hnn] at hci ⊢;clear hnn hs;refine CallsS.of_body Tryz.func138 rfl rfl rfl ?_;refine Q.r ?_;refine swp_loop (σ:=Nat×(OA×Nat×List OV)×OA×Nat×List Int) (λu=> [(0,.slice a ovs.length c),(1,.int .u64 s),(11,.slice a ovs.length c),(12,.int .i64 ovs.length),(6,.slice u.2.1.1 u.2.1.2.2.length u.2.1.2.1),(7,.slice u.2.2.1 u.2.2.2.2.length u.2.2.2.1),(13,.int .i64 u.1)])
  (λu=>slO 149 2 u.2.1.1 u.2.1.2.2.length u.2.1.2.1 (u.2.1.2.2.flatMap OV.cells)::slO 31 1 u.2.2.1 u.2.2.2.2.length u.2.2.2.1 (u.2.2.2.2.map U64)::L)
  (λu=>u.1≤ovs.length∧u.2.1.2.2=(ovs.take u.1).drop nn∧u.2.2.2.2=((ovs.take u.1).take nn).map (·.id)) (λu=>ovs.length - u.1) (0,(none,0,[]),none,0,[]) zt ?_ ⟨by omega,by simp,by simp⟩ ?_
 ·exact Ent.trans slO_nil (Ent.trans slO_nil (Ent.perm (.swap _ _ _)))
 rintro ⟨k,⟨a1,c1,us⟩,a2,c2,gs⟩ ⟨hk,hus,hgs⟩;dsimp only at hk hus hgs ⊢;have hul:us.length≤k:=by rw[hus];simp;omega
 have hgl:gs.length≤k:=by rw[hgs];simp;omega
 by_cases hlt:k<ovs.length
 ·obtain ⟨o,ho⟩:=mem_get hlt
  have hci':=hci k o ho;have hrs:RdS (slO 149 2 a1 us.length c1 (us.flatMap OV.cells)::slO 31 1 a2 gs.length c2 (gs.map U64)::L) a ovs.length 2 (ovs.flatMap OV.cells):=h.sub;obtain ⟨b,oo,hia,hr⟩:=RdS.elem (g:=OV.cells) (λ_=>rfl) hrs ho rfl;clear hrs;subst hia;refine Q.r ?_;(repeat (intro b1;refine Q.r ?_));refine opsS_cutT (σ:=Bool) (λt=> [(0,.slice (some ⟨b,oo,none⟩) ovs.length c),(1,.int .u64 s),(9,.pointer (some ⟨b1,0,none⟩)),(10,.bool t),(11,.slice (some ⟨b,oo,none⟩) ovs.length c),(12,.int .i64 ovs.length),(6,.slice a1 us.length c1),(7,.slice a2 gs.length c2),(13,.int .i64 k)])
   (λ_=>pt b1 (cl o.cells 149)::slO 149 2 a1 us.length c1 (us.flatMap OV.cells)::slO 31 1 a2 gs.length c2 (gs.map U64)::L)
   (λt=>t=true↔(k+1=ovs.length∨∃y,ovs[k+1]? =some y∧s<y.id)) ?_ ?_
  ·by_cases h4:k+1=ovs.length
   ·refine Q.rn ?_
    exact ⟨_,zt,Ent.refl _,by simp[h4]⟩
   ·obtain ⟨y,hy⟩:=mem_get (l:=ovs) (k:=k+1) zo
    have hrs:RdS (pt b1 (cl o.cells 149)::slO 149 2 a1 us.length c1 (us.flatMap OV.cells)::slO 31 1 a2 gs.length c2 (gs.map U64)::L) (some ⟨b,oo,none⟩) ovs.length 2 (ovs.flatMap OV.cells):=h.sub;obtain ⟨b',oo',hia',hr2⟩:=RdS.elem (g:=OV.cells) (λ_=>rfl) hrs hy rfl
    cases hia'
    clear hrs;refine Q.rd6 ?_;exact ⟨_,zt,Ent.refl _,by simp[h4,hy]⟩
  intro t ht;rw[←ht] at hci'
  repeat (first|(refine GQ.y ?_;refine Q.y ?_)|refine Q.go ?_|(refine GQ.g ?_;refine Q.gq ?_)|(refine GQ.s ?_;refine Q.st ?_)|(refine GQ.a ?_;refine Q.al (λb1=> ?_)))
  refine opsS_cutT (σ:=Bool) (λt=> [(0,.slice (some ⟨b,oo,none⟩) ovs.length c),(1,.int .u64 s),(9,.pointer (some ⟨b1,0,none⟩)),(45,.bool t),(11,.slice (some ⟨b,oo,none⟩) ovs.length c),(12,.int .i64 ovs.length),(6,.slice a1 us.length c1),(7,.slice a2 gs.length c2),(13,.int .i64 k)])
   (λ_=>pt b1 (cl o.cells 149)::slO 149 2 a1 us.length c1 (us.flatMap OV.cells)::slO 31 1 a2 gs.length c2 (gs.map U64)::L)
   (λt=>t=true↔nn≤k) ?_ ?_
  ·rw[hci']
   by_cases hq1:s<o.id
   ·refine Q.r ?_
    exact ⟨_,zt,Ent.refl _,by simp[hq1]⟩
   ·cases t with
    |false=>
     refine Q.r ?_;exact ⟨_,zt,Ent.refl _,by simp[hq1]⟩
    |true=>
     refine Q.r ?_;exact ⟨_,zt,Ent.refl _,by simp[hq1]⟩
  intro kp hkp;have hne:ovs.take (k+1)=ovs.take k++[o]:=take_snoc ho;have hkl:(ovs.take k).length=k:=by rw[List.length_take];omega
  cases kp with
  |true=>
   have hnk:=hkp.1 rfl;refine Q.r ?_;(repeat (intro b1;refine Q.r ?_));refine S.app rfl rfl (SrcS.sl RdC.row zr zr) zr zo zo (λa4 c4=> ?_);refine Q.r ?_;refine ⟨(k+1,(a4,c4,us++[o]),a2,c2,gs),⟨rfl,rfl,rfl,rfl,congrArg some (by simp),rfl,rfl,trivial⟩,?_,⟨by dsimp only;omega,?_,?_⟩,by dsimp only;omega⟩
   ·dsimp only
    rw[len_snoc,flat_snoc];exact eG
   ·dsimp only
    rw[hne,List.drop_append_of_le_length zo,hus]
   ·dsimp only
    rw[hne,List.take_append_of_le_length zo,hgs]
  |false=>
   have hnk:¬nn≤k:=λh=>by have:=hkp.2 h;cases this
   refine Q.r ?_;(repeat (intro b1;refine Q.r ?_));refine S.app rfl rfl (SrcS.sl RdC.row zr zr) zr zo zo (λa4 c4=> ?_);refine Q.r ?_;refine ⟨(k+1,(a1,c1,us),a4,c4,gs++[o.id]),⟨rfl,rfl,rfl,rfl,rfl,congrArg some (by simp),rfl,trivial⟩,?_,⟨by dsimp only;omega,?_,?_⟩,by dsimp only;omega⟩
   ·dsimp only
    rw[len_snoc,List.map_append];exact eG
   ·dsimp only
    rw[hus,List.drop_eq_nil_of_le (by rw[List.length_take];omega),List.drop_eq_nil_of_le (by rw[List.length_take];omega)]
   ·dsimp only
    rw[hgs,List.take_of_length_le (l:=ovs.take k) (i:=nn) zo,List.take_of_length_le (l:=ovs.take (k+1)) (i:=nn) (by rw[List.length_take];omega),hne,List.map_append];rfl
 ·have hke:k=ovs.length:=by omega
  subst hke;rw[List.take_length] at hus hgs;subst hus hgs;refine Q.r ?_;exact N.u rfl rfl (Ent.refl _) ⟨a1,c1,a2,c2,rfl,rfl⟩
theorem RSet0_spec (p:Nat)(dim:Int)(a:OA)(es:List EV)(c:Nat)(a':OA)(is:List IV)(c':Nat)(mark id:Int)(na:OA)(nc:Nat)(M:OM)(A:HL)(h:SlM M a es.length 2 (es.flatMap EV.cells))(hn:es.length≤1000000):
  CallsS Tryz.prog 120 [ptrV p,.int .u64 id,.slice na 0 nc] (rP p dim a es c a' is c' mark::roM M::A)
   (λv L'=>∃a2 c2,v=.tuple #[]∧L'=slO 147 2 a2 (es.filter λe=> !decide (e.id=id)).length c2 ((es.filter λe=> !decide (e.id=id)).flatMap EV.cells)::rP p dim a2 (es.filter λe=> !decide (e.id=id)) c2 a' is c' mark::roM M::A):=by
 refine CallsS.of_body Tryz.func120 rfl rfl rfl ?_;refine Q.r ?_;refine swp_cutB (σ:=OA×Nat) (λu=> [(0,ptrV p),(1,.int .u64 id),(2,.slice na 0 nc),(6,.slice u.1 (es.filter λe=> !decide (e.id=id)).length u.2),(7,.bool true)])
  (λu=>slO 147 2 u.1 (es.filter λe=> !decide (e.id=id)).length u.2 ((es.filter λe=> !decide (e.id=id)).flatMap EV.cells)::rP p dim a es c a' is c' mark::roM M::A) (λ_=>True) ?_ ?_
 ·refine swp_loop (σ:=Nat×OA×Nat×List EV) (λu=> [(0,ptrV p),(1,.int .u64 id),(2,.slice na 0 nc),(16,.slice a es.length c),(17,.int .i64 es.length),(6,.slice u.2.1 u.2.2.2.length u.2.2.1),(7,.bool true),(18,.int .i64 u.1)])
   (λu=>slO 147 2 u.2.1 u.2.2.2.length u.2.2.1 (u.2.2.2.flatMap EV.cells)::rP p dim a es c a' is c' mark::roM M::A)
   (λu=>u.1≤es.length∧u.2.2.2=(es.take u.1).filter λe=> !decide (e.id=id)) (λu=>es.length - u.1) (0,none,0,[]) zt slO_nil ⟨by omega,by simp⟩ ?_
  rintro ⟨k,a3,c3,us⟩ ⟨hk,hus⟩;dsimp only at hk hus ⊢;have hul:us.length≤k:=by
   rw[hus];have:=List.length_filter_le (λe:EV=> !decide (e.id=id)) (es.take k);rw[List.length_take] at this;omega
  by_cases hlt:k<es.length
  ·obtain ⟨e,he⟩:=mem_get hlt
   have hrs:RdS (slO 147 2 a3 us.length c3 (us.flatMap EV.cells)::rP p dim a es c a' is c' mark::roM M::A) a es.length 2 (es.flatMap EV.cells):=h.rd;obtain ⟨b,oo,hia,hr⟩:=RdS.elem (g:=EV.cells) (λ_=>rfl) hrs he rfl;clear hrs;rw[hia] at hr ⊢;have hne:es.take k++[e]=es.take (k+1):=(take_snoc he).symm
   by_cases hq:e.id=id
   ·refine Q.r ?_;(repeat (intro b1;refine Q.r ?_))
    refine ⟨(k+1,a3,c3,us),zt,by exact eG,⟨by dsimp only;omega,?_⟩,by dsimp only;omega⟩;dsimp only;rw[←hne,List.filter_append,hus];simp[hq]
   ·refine Q.r ?_;(repeat (intro b1;refine Q.r ?_))
    refine S.app rfl rfl (SrcS.sl RdC.row zr zr) zr zo zo (λa7 c7=> ?_);refine Q.r ?_;refine ⟨(k+1,a7,c7,us++[e]),⟨rfl,rfl,rfl,rfl,rfl,congrArg some (by simp),rfl,rfl,trivial⟩,?_,⟨by dsimp only;omega,?_⟩,by dsimp only;omega⟩
    ·dsimp only
     rw[len_snoc,flat_snoc];exact eG
    ·dsimp only
     rw[←hne,List.filter_append,hus];simp[hq]
  ·have hke:k=es.length:=by omega
   subst hke;rw[List.take_length] at hus;subst hus;refine Q.r ?_;exact ⟨(a3,c3),zt,Ent.refl _,trivial⟩
 rintro ⟨a3,c3⟩ -;dsimp only;refine Q.r ?_;exact N.n0 RV.nil (Ent.refl _) ⟨a3,c3,rfl,rfl⟩
theorem ROK.unset {M:OM}{st:VS}{a a':OA}{c c':Nat}{es:List EV}{is:List IV}(h:ROK M st a c es a' c' is){M2:OM}(hl:leM M M2){a2:OA}{c2:Nat}(id:Int)
  (hs:SlM M2 a2 (es.filter λe=> !decide (e.id=id)).length 2 ((es.filter λe=> !decide (e.id=id)).flatMap EV.cells)) (hc:(es.filter λe=> !decide (e.id=id)).length≤c2):ROK M2 {st with ch:=delL st.ch id} a2 c2 (es.filter λe=> !decide (e.id=id)) a' c' is:=by
 refine ⟨?_,pw_filter h.cs _,h.its,h.ss,λe he=>(h.oe e (List.mem_filter.1 he).1).mono hl,λi hi=>(h.oi i hi).mono hl,hs,h.sI.mono hl,hc,h.cI,delL_ok h.k1 id,h.k2,h.oc⟩;have:=h.ch.filter (λu=> !decide (u.1=id));rw[List.filter_map] at this;exact this
end Go.Proofs.YtjlgabojhnnbaaaGreatDoor
