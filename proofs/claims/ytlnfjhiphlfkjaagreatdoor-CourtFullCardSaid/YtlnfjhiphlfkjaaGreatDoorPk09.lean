/- Walks of functions, and plain laws, that the last text rests on. No condition. -/
import Derived.Test.YtlnfjhiphlfkjaaGreatDoorPk08
set_option linter.unusedVariables false
set_option linter.unusedSimpArgs false
set_option linter.unusedSectionVars false
set_option maxHeartbeats 4000000
namespace Go.Proofs.YtlnfjhiphlfkjaaGreatDoor
open Go Go.SX
attribute [local irreducible] swp qq qL qJ vZ qh St qi qk vu qH
theorem qY.own {L:HL}{t sz m c:Nat}{a:OA}{cs:List Value}{L':HP→HL}[h:K2 a L t sz m c cs L'](ha:m=0∨∃b,a=some ⟨b,0,none⟩)(hl:cs.length=m*sz):qY L a m sz cs:=by
 refine ⟨hl,ha.imp id ?_⟩;rintro ⟨b,rfl⟩;obtain ⟨R,p1,_⟩:=h.at_;exact ⟨b,0,rfl,vi.slO (t:=t) (sz:=sz) (m:=m) (c:=c) ⟨R,qi.perm p1⟩⟩
def XO (s:Int)(ids:List Int):List Int:=ids.foldl (λl o=>if v8 s o∈l then l else l++[v8 s o]) []
theorem jAy (s:Int)(ids:List Int)(o:Int):XO s (ids++[o])=if v8 s o∈XO s ids then XO s ids else XO s ids++[v8 s o]:=by
 unfold XO;rw[List.foldl_append];rfl
theorem jEH {s:Int}(h1:1≤s)(ids:List Int):(XO s ids).Nodup∧∀x∈XO s ids,1≤x∧x≤s:=by
 have key:∀(ids l:List Int),(l.Nodup∧∀x∈l,1≤x∧x≤s)→(ids.foldl (λl o=>if v8 s o∈l then l else l++[v8 s o]) l).Nodup∧∀x∈ids.foldl (λl o=>if v8 s o∈l then l else l++[v8 s o]) l,1≤x∧x≤s:=by
  intro ids
  induction ids with
  |nil=>exact λl h=>h
  |cons o ids ih=>
   intro l h;rw[List.foldl_cons];refine ih _ ?_
   split
   ·exact h
   ·rename_i hm
    refine ⟨List.nodup_append.2 ⟨h.1,by simp,λx hx y hy=>by rw[ji] at hy;subst hy;rintro rfl;exact hm hx⟩,λx hx=> ?_⟩
    rcases jy.1 hx with hx|hx
    ·exact h.2 x hx
    ·rw[ji] at hx;subst hx
     have:=Wf h1 o;unfold v8;omega
 exact key ids [] ⟨List.nodup_nil,λ_ h=>by cases h⟩
theorem tH (l:List Int)(n:Int):(y8 l n).Perm (n::l):=by
 unfold y8;refine List.perm_middle.trans (List.Perm.cons _ ?_);rw[List.takeWhile_append_dropWhile]
theorem nU {s:Int}(h1:1≤s)(ops:VL):vq (XO s (ops.map (·.1)))=xF s ops:=by
 have key:∀(ops:VL) (l l':List Int),l'.Perm l→(ops.foldl (λl o=>if v8 s o.1∈l then l else y8 l (v8 s o.1)) l').Perm ((ops.map (·.1)).foldl (λl o=>if v8 s o∈l then l else l++[v8 s o]) l):=by
  intro ops
  induction ops with
  |nil=>exact λl l' h=>h
  |cons o ops ih=>
   intro l l' h;rw[jL,List.foldl_cons,List.foldl_cons];refine ih _ _ ?_
   by_cases hm:v8 s o.1∈l
   ·rw[jb hm,jb (h.mem_iff.2 hm)];exact h
   ·rw[ja hm,ja (λx=>hm (h.mem_iff.1 x))]
    exact (tH _ _).trans ((h.cons _).trans (List.perm_append_singleton _ _).symm)
 refine yB ((vE _).trans (key ops [] [] (List.Perm.refl _)).symm) (xc _) ?_;exact (QP h1 ops).1.imp λh=>Int.le_of_lt h
theorem jCX {s:Int}(h1:1≤s)(h2:s≤4)(ids:List Int):(XO s ids).length≤4:=by
 have h := jEH h1 ids;have := YQ (l := XO s ids) (m := [1,2,3,4]) h.1 (fun x hx => by
  have:=h.2 x hx;have:x=1∨x=2∨x=3∨x=4:=by omega
  simpa using this)
 simpa using this
theorem mI (p:Nat)(j:JG)(mt md:Nat)(a:OA)(c:Nat)(ops:List OV)(A:HL)(h:qY A a ops.length 2 (ops.flatMap OV.cells))(hn:ops.length≤1000000)(s1:1≤j.shards)(s2:j.shards≤4):
  qh kY 172 [vQ p,.slice a ops.length c] (gP p j mt md::A) (λr L'=>∃a' c',r=.slice a' (xF j.shards (ops.map OV.abs)).length c'∧L'=slO 3 1 a' (xF j.shards (ops.map OV.abs)).length c' ((xF j.shards (ops.map OV.abs)).map I64)::gP p j mt md::A):=by
 refine qg Tryz.func172 rfl rfl rfl ?_;refine Q.r ?_;refine ql (σ:=Nat×OA×Nat×List Int) (λs=> [(0,vQ p),(9,.slice a ops.length c),(10,.int .i64 ops.length),(5,.slice s.2.1 s.2.2.2.length s.2.2.1),(11,.int .i64 s.1)])
  (λs=>slO 3 1 s.2.1 s.2.2.2.length s.2.2.1 (s.2.2.2.map I64)::gP p j mt md::A)
  (λs=>s.1≤ops.length∧s.2.2.2=XO j.shards ((ops.take s.1).map (·.id))) (λs=>ops.length - s.1) (0,none,0,[]) zt vj ⟨by omega,rfl⟩ ?_
 rintro ⟨k,a3,c3,us⟩ ⟨hk,hus⟩;dsimp only at hk hus ⊢;have hul:us.length≤4:=by rw[hus];exact jCX s1 s2 _
 by_cases hlt:k<ops.length
 ·obtain ⟨o,ho⟩:=qx hlt
  obtain ⟨b,oo,hia,hr⟩:=qY.elem (g:=OV.cells) (λ_=>rfl) (h.sub (L:=slO 3 1 a3 us.length c3 (us.map I64)::gP p j mt md::A)) ho rfl;rw[hia];refine Q.r ?_;(repeat (intro b1;refine Q.r ?_));refine S.c1 (A:=gP p j mt md) rfl (Zv p j mt md o.id _ s1 s2) ?_;rintro _ _ ⟨rfl,rfl⟩;refine qZ a3 (λha3=> ?_);refine Q.r ?_;refine S.cr rfl (qP a3 c3 us (v8 j.shards o.id) _ (qY.own ha3 (by rw[jf,jX])) zo) ?_;rintro _ _ ⟨rfl,rfl⟩;have hnext:XO j.shards ((ops.take (k+1)).map (·.id))=if v8 j.shards o.id∈us then us else us++[v8 j.shards o.id]:=by
   rw[qA ho,jq,jL,kC,jAy,←hus]
  by_cases hm:v8 j.shards o.id∈us
  ·rw[jo hm]
   rw[jb hm] at hnext;refine Q.r ?_;refine ⟨(k+1,a3,c3,us),zt,by exact eG,⟨by dsimp only;omega,hnext.symm⟩,by dsimp only;omega⟩
  ·rw[jv hm]
   rw[ja hm] at hnext;refine Q.r ?_;(repeat (intro b1;refine Q.r ?_));refine S.app rfl rfl (vG.sl vi.row zr zr) zr zo zo (λa7 c7=> ?_);refine Q.r ?_;refine ⟨(k+1,a7,c7,us++[v8 j.shards o.id]),⟨rfl,rfl,rfl,jj some (by simp),rfl,trivial⟩,?_,⟨by dsimp only;omega,hnext.symm⟩,by dsimp only;omega⟩;dsimp only;rw[jc,kT,jq,jL,kC];exact eG
 ·have hke:k=ops.length:=by omega
  subst hke;rw[jI] at hus;refine Q.r ?_;refine S.c1 (A:=slO 3 1 a3 us.length c3 (us.map I64)) rfl (pJ a3 us.length c3 us _ rfl zo) ?_;rintro _ _ ⟨rfl,rfl⟩;have hx:xF j.shards (ops.map OV.abs)=vq us:=by
   rw[hus,←nU s1,kE];rfl
  rw[hx,wV];refine Q.r ?_;exact N.t rfl (kZ _) ⟨a3,c3,rfl,rfl⟩
theorem Vn (p:Nat)(j:JG)(mt md:Nat)(t:Nat×TV)(q:Int)(M:OM)(L:HL)(ht:bI M t.2)(s1:1≤j.shards)(s2:j.shards≤4):
  qh kY 117 [vQ p,XI t,.int .i64 q] (gP p j mt md::vk t::qp M::L) (λr L'=>∃(m:NV) (M':OM),r=.agg (vA (q,m)).toArray∧qV M M'∧xN M' m∧(q,m.abs)=Xg j.shards t.2.abs q∧L'=gP p j mt md::vk t::qp M'::L):=by
 refine qg Tryz.func117 rfl rfl rfl ?_;have hol:=ht.ol;have hpl:=ht.pl;refine Q.r ?_;(repeat (intro b1;refine Q.r ?_));revert b1;intro b6;refine ql (σ:=Nat×OA×Nat×List OV) (λs=> [(0,vQ p),(1,XI t),(2,.int .i64 q),(6,.pointer (some ⟨b6,0,none⟩)),(13,.slice t.2.oa t.2.ops.length t.2.oc),(14,.int .i64 t.2.ops.length),(7,.slice s.2.1 s.2.2.2.length s.2.2.1),(15,.int .i64 s.1)])
  (λs=>slO 38 2 s.2.1 s.2.2.2.length s.2.2.1 (s.2.2.2.flatMap OV.cells)::pt b6 (cl (vA (0,NA.zero.nv)) 176)::gP p j mt md::vk t::qp M::L)
  (λs=>s.1≤t.2.ops.length∧s.2.2.2=(t.2.ops.take s.1).filter λo=>decide (v8 j.shards o.id=q)) (λs=>t.2.ops.length - s.1) (0,none,0,[]) zt vj ⟨by omega,rfl⟩ ?_
 rintro ⟨k,a3,c3,us⟩ ⟨hk,hus⟩;dsimp only at hk hus ⊢;have hul:us.length≤t.2.ops.length:=by
  rw[hus];exact ke (kw _ _) (by rw[jP];omega)
 by_cases hlt:k<t.2.ops.length
 ·obtain ⟨o,ho⟩:=qx hlt
  obtain ⟨b,oo,hia,cr⟩:=qI.cm (g:=OV.cells) (λ_=>rfl) ht.o ho rfl;rw[hia];refine Q.r ?_;(repeat (intro b1;refine Q.r ?_));refine S.c1 (A:=gP p j mt md) rfl (Zv p j mt md o.id _ s1 s2) ?_;rintro _ _ ⟨rfl,rfl⟩;have hnext:(t.2.ops.take (k+1)).filter (λo=>decide (v8 j.shards o.id=q))=us++if v8 j.shards o.id=q then [o] else []:=by
   rw[qA ho,jU,←hus,kI,List.filter_nil]
   by_cases hm:v8 j.shards o.id=q
   ·rw[jo hm,jb hm];rfl
   ·rw[jv hm,ja hm];rfl
  by_cases hm:v8 j.shards o.id=q
  ·rw[jb hm] at hnext
   refine Q.r ?_;(repeat (intro b1;refine Q.r ?_));refine S.app rfl rfl (vG.sl vi.row zr zr) zr zo zo (λa7 c7=> ?_);refine Q.r ?_;refine ⟨(k+1,a7,c7,us++[o]),⟨rfl,rfl,rfl,rfl,rfl,rfl,jj some (by simp),rfl,trivial⟩,?_,⟨by dsimp only;omega,hnext.symm⟩,by dsimp only;omega⟩;dsimp only;rw[qG,vK];exact eG
  ·rw[ja hm,jG] at hnext
   refine Q.r ?_;refine ⟨(k+1,a3,c3,us),zt,by exact eG,⟨by dsimp only;omega,hnext.symm⟩,by dsimp only;omega⟩
 ·have hke:k=t.2.ops.length:=by omega
  subst hke;rw[jI] at hus;refine Q.r ?_;refine wF a3 (λM1 hl1 hs1=> ?_);have ht1:=ht.mono hl1;refine Q.dgo [false,false,false,true] [16,20] [] [0,1,2,3,4,5,6,7,8,9,10,11,12,13,14,15,17,16,18,19,20] ?_;refine Q.rd ?_;refine D.e rfl rfl rfl ?_;refine S.cr rfl (yF t.2.pa t.2.pc t.2.parts _ ht1.p.rd hpl) ?_;rintro _ _ ⟨ca,cc,rfl,rfl⟩;refine qR ca (λM2 hl2 hs2=> ?_);refine Q.r ?_;refine Q.rd ?_;refine Q.r ?_;refine N.r1 RV.c ?_ ⟨⟨3,t.2.txn,0,0,t.2.after,0,0,0,0,0,0,0,ca,cc,t.2.parts,a3,c3,us,none,0,[],none,0,[]⟩,M2,rfl,hl1.trans hl2,⟨hs2,⟨hs1.mono hl2,λo ho=> ?_⟩,qI.nil0,qI.nil0,λo ho=>by cases ho⟩,?_,rfl⟩
  ·exact eG
  ·rw[hus] at ho
   exact (ht1.mono hl2).ov o (jB.1 ho).1
  ·rw[hus]
   show (q,_)=(q,_)
   refine jj (Prod.mk q) ?_
   show NA.mk _ _ _ _ _ _ _ _ _ _ _ _ _ _ _ _=NA.mk _ _ _ _ _ _ _ _ _ _ _ _ _ _ _ _
   rw[List.filter_map];rfl
structure JB (j:JG):Prop where
 e0:0≤j.epoch
 e1:j.epoch≤1099511627776
 s0:0≤j.seq
 s1:j.seq<1048576
 l0:0≤j.last
 l1:j.last≤1099511627776
 d1:1≤j.dim
 d2:j.dim≤8
abbrev eP :HP:=slO 82 16 none 0 0 []
abbrev jAI (j:JG)(fr:Int)(n:NV)(pa:OA)(pc:Nat):TV:=⟨j.epoch*1048576+j.seq+1,n.batch,0,j.last,fr,pa,pc,xF j.shards (n.ops.map OV.abs),none,0,[],none,0,[],n.oa,n.oc,n.ops⟩
abbrev jDn (j:JG)(fr:Int)(n:NV)(pa:OA)(pc:Nat):NV:=⟨19,j.epoch*1048576+j.seq+1,n.batch,0,j.last,0,0,0,0,0,0,fr,pa,pc,xF j.shards (n.ops.map OV.abs),n.oa,n.oc,n.ops,none,0,[],none,0,[]⟩
abbrev eMl :HP:=slO 176 17 none 0 0 []
theorem dZ (M:OM)(p:Nat)(j:JG)(L:HL)(m:Int×NA)(hm:m.2.nv.abs=m.2)(b:Nat):wG M p j ⟨[],[],[m],[],[]⟩ L (.agg #[.slice none 0 0,.slice none 0 0,.slice (some ⟨b,0,none⟩) 1 1,.slice none 0 0,.slice none 0 0])
  (eP::eP::slO 176 17 (some ⟨b,0,none⟩) 1 1 (zJ m)::eP::eMl::qD M p j::qp M::L):=
 ⟨none,0,[],none,0,[],some ⟨b,0,none⟩,1,[(m.1,m.2.nv)],none,0,[],none,0,[],M,rfl,qV.refl M,⟨λ_ h=>(by cases h),λ_ h=>(by cases h),λm hm=>(by rw[ji.1 hm];exact xN.nv _),λ_ h=>(by cases h),λ_ h=>(by cases h)⟩,⟨rfl,rfl,jj (λz=> [(m.1,z)]) hm,rfl,rfl⟩,by simp⟩
theorem pm {M:OM}{p mt md b:Nat}{j:JG}{ts:List TB}{L:HL}{m:Int×NA}(hq:Vo M j ts):qi (pt b (cl (zJ m) 176)::gP p j mt md::gT mt ts::qF ts::gD md j.done::qp M::L) (eP::eP::slO 176 17 (some ⟨b,0,none⟩) 1 1 (zJ m)::eP::eMl::qD M p j::qp M::L):=by
 refine qi.trans (qi.cons (qS hq)) (qi.trans (vg (sz:=17) (m:=1) rfl) ?_);exact eG
theorem jA5 (n:NV)(M:OM)(p:Nat)(j:JG)(fr:Int)(L:HL)(hb:JB j)(hn:xN M n)(hN:OkN n):
  qh kY 99 [vQ p,.int .i64 fr,n.val] (qD M p j::qp M::L) (wG M p j (jAJ j fr n.abs) L):=by
 unfold jAJ;refine wD λmt md ts hq=> ?_
 refine qg Tryz.func99 rfl rfl rfl ?_;refine Q.r ?_;(repeat (intro b1;refine Q.r ?_));rename_i b5;revert b1;intro b6;refine Q.dgo [true,true,true,true,true,true,true] [] [] [0,1,2,3,4,5,6,7,8,9,10,11] ?_;refine Q.rd ?_;refine D.y rfl rfl rfl zk (Y.lk true rfl rfl (λw=>Tryz.zeroValue31 w)) ?_
 cases hz:qE j.done n.batch with
 |some s=>
  dsimp only;refine Q.rd ?_;refine Q.r ?_;refine S.cr rfl (JM fr n.batch s 0 _) ?_;rintro _ _ ⟨rfl,rfl⟩;refine Q.r ?_;(repeat (intro b1;refine Q.r ?_));refine N.r1 RV.c (qi.trans (M:=pt b1 (cl (zJ (YA fr n.batch s 0)) 176)::gP p j mt md::gT mt ts::qF ts::gD md j.done::qp M::L) eG (pm hq)) (dZ M p j L (YA fr n.batch s 0) rfl b1)
 |none=>
  dsimp only;refine Q.rd ?_;refine Q.r ?_;refine S.rg rfl (λr=> ?_);refine Q.r ?_;refine qw (σ:=Unit) (λ_=> [(0,vQ p),(1,.int .i64 fr),(5,.pointer (some ⟨b5,0,none⟩)),(6,.pointer (some ⟨b6,0,none⟩))])
   (λ_=>pt b6 (cl [.slice none 0 0,.slice none 0 0,.slice none 0 0,.slice none 0 0,.slice none 0 0] 97)::pt b5 (cl n.cells 82)::gP p j mt md::gT mt ts::qF ts::gD md j.done::qp M::L) (λ_=>¬j.tr.any (λu=>decide (u.2.batch=n.batch))=true) ?_ ?_
  ·refine ql (σ:=List Nat) (λ_=> [(0,vQ p),(1,.int .i64 fr),(5,.pointer (some ⟨b5,0,none⟩)),(6,.pointer (some ⟨b6,0,none⟩)),(38,.pointer (some ⟨r,0,none⟩))])
    (λvis=>bS U64 XI mt r ts vis::pt b6 (cl [.slice none 0 0,.slice none 0 0,.slice none 0 0,.slice none 0 0,.slice none 0 0] 97)::pt b5 (cl n.cells 82)::gP p j mt md::qF ts::gD md j.done::qp M::L)
    (λvis=>vis.Nodup∧(∀i∈vis,i<ts.length)∧∀i∈vis,∀u:TB,ts[i]? =some u→u.2.2.batch≠n.batch) (λvis=>ts.length - vis.length) [] zt eG ⟨by simp,by simp,by simp⟩ ?_
   rintro vis ⟨hv1,hv2,hv3⟩;refine Q.r ?_;refine S.nx rfl (λhend=> ?_) (λi u hu hi=> ?_)
   ·refine Q.r ?_
    refine ⟨(),zt,qi.trans QU eG,?_⟩;rw[ku];rintro ⟨w,hw,hwb⟩;rw[←hq.tr] at hw;obtain ⟨u,hu,rfl⟩:=jM.1 hw;obtain ⟨i,hi⟩:=List.mem_iff_getElem?.1 hu;exact hv3 i (hend i (jm.1 hi).1) u hi (by simpa using hwb)
   ·obtain ⟨m1,m2,m3⟩:=K6 hv1 hv2 (jm.1 hu).1 hi
    refine Q.r ?_;refine S.y (Y.en rfl hu) ?_;refine Q.r ?_;refine QM hu ?_
    by_cases hbb:u.2.2.batch=n.batch
    ·have hany:j.tr.any (λu=>decide (u.2.batch=n.abs.batch))=true:=by
      rw[ku,←hq.tr];exact ⟨_,jM.2 ⟨u,jn hu,rfl⟩,by simpa using hbb⟩
     refine Q.dgo [true,true,true,true,true] [] [] [0,1,2,3,4,5,6,7] ?_;refine Q.rd ?_;refine Q.r ?_;rw[jb hany];refine N.r1 RV.c (qi.trans (M:=bS U64 XI mt r ts (vis++[i])::gP p j mt md::vk u.2::qF (ts.eraseIdx i)::gD md j.done::qp M::L) eG (qi.trans QU (qi.trans (qi.trans (M:=gP p j mt md::gT mt ts::vk u.2::qF (ts.eraseIdx i)::gD md j.done::qp M::L) eG (vt hu hq)) dK))) (wG.none M p j L)
    ·refine Q.dgo [true,true,true,true,true] [] [] [0,1,2,3,4,5,6,7] ?_
     refine Q.rd ?_;refine Q.r ?_;refine ⟨vis++[i],zt,qi.trans (zX hu) eG,⟨m1,m2,λk hk w hw=> ?_⟩,by simp;omega⟩
     rcases jy.1 hk with hk|hk
     ·exact hv3 k hk w hw
     ·rw[ji] at hk;subst hk
      rw[hu] at hw;injection hw with hw;subst hw;exact hbb
  ·rintro _ hany
   rw[ja hany];have hb1:=hb.d1;have hb2:=hb.d2;have hlt:j.tr.length=ts.length:=by rw[←hq.tr,jf]
   have e0:=hb.e0;have e1:=hb.e1;have q0:=hb.s0;have q1:=hb.s1;have l0:=hb.l0;have l1:=hb.l1;refine Q.r ?_;refine Q.dgo [false,true,true] [6] [] [0,1,2,3,4,5,6,7] ?_;refine Q.rd ?_;refine D.e rfl rfl rfl ?_;refine S.cr rfl (re j.dim n.oa n.oc n.ops _ hn.rd.o hN.o hN.ov zo) ?_;rintro _ _ ⟨rfl,rfl⟩;refine Q.r ?_;refine Q.rd ?_
   by_cases hc:vP j.dim (n.ops.map OV.abs)=0
   ·by_cases hf:8≤j.tr.length∨1048575≤j.seq∨1099511627776≤j.last
    ·have hE:XV j n.abs=8:=by
      unfold XV;rw[ja (λh=>h hc),jb hf]
     rw[jb (by rw[hE];decide),hE,hc];rw[hlt] at hf;refine N.tn ?_;refine wE ?_;refine vo (σ:=Unit) (λ_=> [(0,vQ p),(1,.int .i64 fr),(5,.pointer (some ⟨b5,0,none⟩)),(6,.pointer (some ⟨b6,0,none⟩)),(11,.int .i64 8)])
      (λ_=>pt b6 (cl [.slice none 0 0,.slice none 0 0,.slice none 0 0,.slice none 0 0,.slice none 0 0] 97)::pt b5 (cl n.cells 82)::gP p j mt md::gT mt ts::qF ts::gD md j.done::qp M::L) (λ_=>True) ?_ ?_
     ·by_cases h8:8≤ts.length
      ·refine Q.r ?_
       exact ⟨(),zt,by exact eG,trivial⟩
      by_cases h9:1048575≤j.seq
      ·refine Q.r ?_
       exact ⟨(),zt,by exact eG,trivial⟩
      have h10:1099511627776≤j.last:=by omega
      refine Q.r ?_;exact ⟨(),zt,by exact eG,trivial⟩
     ·rintro _ _
      refine Q.r ?_;refine S.cr rfl (JM fr n.batch 0 8 _) ?_;rintro _ _ ⟨rfl,rfl⟩;refine Q.r ?_;(repeat (intro b1;refine Q.r ?_));refine N.r1 RV.c (qi.trans (M:=pt b1 (cl (zJ (YA fr n.batch 0 8)) 176)::gP p j mt md::gT mt ts::qF ts::gD md j.done::qp M::L) eG (pm hq)) (dZ M p j L (YA fr n.batch 0 8) rfl b1)
    ·have hE:XV j n.abs=0:=by
      unfold XV;rw[ja (λh=>h hc),ja hf]
     rw[ja (λh=>h hE),hc];rw[hlt] at hf;have h8:¬8≤ts.length:=λh=>hf (.inl h)
     have h9:¬1048575≤j.seq:=λh=>hf (.inr (.inl h))
     have h10:¬1099511627776≤j.last:=λh=>hf (.inr (.inr h))
     have wz:∀a:Int,0≤a→a<18446744073709551616→IntKind.u64.wrap a=a:=λa h1 h2=>wrap_u64 h1 zo
     refine Q.r ?_;refine vo (σ:=Nat×OA×Nat×(OM)) (λs=> [(0,vQ p),(6,.pointer (some ⟨b6,0,none⟩)),(12,.pointer (some ⟨s.1,0,none⟩))])
      (λs=>vk (s.1,jAI j fr n s.2.1 s.2.2.1)::pt b6 (cl [.slice none 0 0,.slice none 0 0,.slice none 0 0,.slice none 0 0,.slice none 0 0] 97)::gP p j mt md::gT mt ts::qF ts::gD md j.done::qp s.2.2.2::L)
      (λs=>qV M s.2.2.2∧qI s.2.2.2 s.2.1 (xF j.shards (n.ops.map OV.abs)).length 1 ((xF j.shards (n.ops.map OV.abs)).map I64)) ?_ ?_
     ·refine Q.dgo [true,true] [21,26] [] [0,1,2,3,4,5,6,7,8,9,10,11,12,13,14,15,16,17,18,19,20,23,24,21,22,25,26,27] ?_
      refine Q.rd ?_;refine D.y rfl rfl rfl zk (Y.shlI (b:=20) rfl rfl zd) ?_;rw[show j.epoch*2^20=j.epoch*1048576 by omega,wz _ zo zo];refine Q.rd ?_;refine D.y rfl rfl rfl zk (Y.add rfl rfl) ?_;rw[wz _ zo zo];refine Q.rd ?_;refine D.y rfl rfl rfl zk (Y.add rfl rfl) ?_;rw[wz _ zo zo];refine Q.rd ?_;refine D.ea rfl rfl rfl ?_;refine S.c1 (A:=gP p j mt md) rfl (mI p j mt md n.oa n.oc n.ops _ (by exact hn.rd.o.1) hN.o hq.s1 hq.s2) ?_;rintro _ _ ⟨pa,pc,rfl,rfl⟩;refine qR pa (λM1 hl1 hs1=> ?_);refine qQ ?_;refine N.tn ?_;refine D.back ?_;refine Q.rd ?_;(repeat (intro b1;refine Q.rd ?_));refine N.tn ⟨(b1,pa,pc,M1),zt,?_,hl1,hs1⟩
      (try dsimp only);exact eG
     ·rintro ⟨bt,pa,pc,M1⟩ ⟨hl1,hs1⟩
      dsimp only at hl1 hs1 ⊢;have ht1:bI M1 (jAI j fr n pa pc):=⟨hs1,qI.nil0,qI.nil0,(hn.mono hl1).o.1,(hn.mono hl1).o.2,by have:=gw (QP hq.s1 (n.ops.map OV.abs)).1 (QP hq.s1 (n.ops.map OV.abs)).2 (by have:=hq.s1;omega);have:=hq.s2;show (xF j.shards (n.ops.map OV.abs)).length≤_;omega,jw _,jw _,hN.o⟩;refine Q.r ?_;refine vo (σ:=Nat×Nat) (λs=> [(0,vQ p),(6,.pointer (some ⟨b6,0,none⟩)),(12,.pointer (some ⟨bt,0,none⟩)),(13,.pointer (some ⟨s.1,0,none⟩))])
       (λs=>pt s.1 (cl [.slice none 0 0,.slice (some ⟨s.2,0,none⟩) 1 1,.slice none 0 0,.slice none 0 0,.slice none 0 0] 97)::pt s.2 (cl (jDn j fr n pa pc).cells 82)::vk (bt,jAI j fr n pa pc)::pt b6 (cl [.slice none 0 0,.slice none 0 0,.slice none 0 0,.slice none 0 0,.slice none 0 0] 97)::gP p j mt md::gT mt ts::qF ts::gD md j.done::qp M1::L)
       (λs=>True) ?_ ?_
      ·refine Q.dgo [true] [30,32,33] [] [0,1,2,3,4,5,6,7,8,9,10,11,12,13,14,15,16,17,18,19,20,21,22,23,24,25,26,27,28,29,99999,0,0,0] ?_
       refine Q.rd ?_;refine D.two 30 32 [31,32,33] [30,31,33] zk rfl rfl rfl rfl zk zk ?_ ?_
       ·refine Q.r ?_;(repeat (intro b1;refine Q.r ?_))
        refine Q.rd ?_;(repeat (intro b1;refine Q.rd ?_));rename_i bn;refine N.tn ⟨(b1,bn),zt,?_,trivial⟩
        (try dsimp only);exact eG
       ·refine Q.r ?_;(repeat (intro b1;refine Q.r ?_))
        refine Q.rd ?_;(repeat (intro b1;refine Q.rd ?_));rename_i bp;refine N.tn ⟨(bp,b1),zt,?_,trivial⟩
        (try dsimp only);exact eG
      ·rintro ⟨bp,bn⟩ _
       dsimp only;refine Q.r ?_;obtain ⟨ps,hps⟩:∃ps,ps=xF j.shards (n.ops.map OV.abs):=⟨_,rfl⟩;have hpo:=QP hq.s1 (n.ops.map OV.abs);have hpl:ps.length≤4:=by have:=gw (hps▸hpo.1) (hps▸hpo.2) (by have:=hq.s1;omega);have:=hq.s2;omega
       refine ql (σ:=Nat×OA×Nat×List (Int×NV)×(OM)) (λs=> [(0,vQ p),(6,.pointer (some ⟨b6,0,none⟩)),(12,.pointer (some ⟨bt,0,none⟩)),(13,.pointer (some ⟨bp,0,none⟩)),(155,.slice pa ps.length pc),(156,.int .i64 ps.length),(157,.int .i64 s.1)])
        (λs=>pt bp (cl [.slice none 0 0,.slice (some ⟨bn,0,none⟩) 1 1,.slice s.2.1 s.2.2.2.1.length s.2.2.1,.slice none 0 0,.slice none 0 0] 97)::slO 176 17 s.2.1 s.2.2.2.1.length s.2.2.1 (s.2.2.2.1.flatMap vA)::pt bn (cl (jDn j fr n pa pc).cells 82)::vk (bt,jAI j fr n pa pc)::pt b6 (cl [.slice none 0 0,.slice none 0 0,.slice none 0 0,.slice none 0 0,.slice none 0 0] 97)::gP p j mt md::gT mt ts::qF ts::gD md j.done::qp s.2.2.2.2::L)
        (λs=>s.1≤ps.length∧s.2.2.2.1.map (λm=>(m.1,m.2.abs))=(ps.take s.1).map (Xg j.shards (gU j fr n.abs))∧qV M1 s.2.2.2.2∧∀m∈s.2.2.2.1,xN s.2.2.2.2 m.2) (λs=>ps.length - s.1) (0,none,0,[],M1) ⟨rfl,rfl,rfl,rfl,jj some (by rw[hps]),jj some (by rw[hps]),rfl,trivial⟩ (qi.cons vj) ⟨jw _,rfl,qV.refl M1,λ_ h=>by cases h⟩ ?_
       rintro ⟨k,a3,c3,us,M2⟩ ⟨hk,hus,hl2,huo⟩;dsimp only at hk hus hl2 huo ⊢;have hul:us.length=k:=by
        have:=jj List.length hus;rw[jf,jf,jP] at this;omega
       by_cases hlt2:k<ps.length
       ·obtain ⟨q,hq2⟩:=qx hlt2
        rw[←hps] at hs1;obtain ⟨bq,oq,hia,cr⟩:=qI.cm (g:=λz:Int=> [I64 z]) (λ_=>rfl) (by rw[yP];exact hs1.mono hl2) hq2 rfl;subst hia;refine Q.r ?_;refine Q.dgo [true] [5,6,7,9] [9] [0,1,2,3,4,5,6,7,8,9] ?_;refine Q.rd ?_;refine D.e rfl rfl rfl ?_;refine S.c3 (A:=gP p j mt md) (B:=vk (bt,jAI j fr n (some ⟨bq,oq,none⟩) pc)) (C:=qp M2) rfl (Vn p j mt md (bt,jAI j fr n (some ⟨bq,oq,none⟩) pc) q M2 _ (ht1.mono hl2) hq.s1 hq.s2) ?_;rintro _ _ ⟨m,M3,rfl,hl3,hm3,hma,rfl⟩;refine Q.r ?_;refine Q.rd ?_;(repeat (intro b1;refine Q.rd ?_));refine D.e rfl rfl rfl ?_;refine S.app rfl rfl (vG.sl vi.row zr zr) zr zo zo (λa7 c7=> ?_);refine Q.r ?_;refine Q.rd ?_;refine Q.dc rfl rfl rfl rfl ?_;refine Q.r ?_;refine Q.rd ?_;refine Q.r ?_;refine ⟨(k+1,a7,c7,us++[(q,m)],M3),zt,?_,⟨by dsimp only;omega,?_,hl2.trans hl3,λw hw=> ?_⟩,by dsimp only;omega⟩
        ·dsimp only
         rw[qG,vK];exact eG
        ·dsimp only
         rw[jq,hus,qA hq2,jq];exact jj (λz=>_++[z]) hma
        ·rcases jy.1 hw with hw|hw
         ·exact (huo w hw).mono hl3
         ·rw[ji] at hw;subst hw;exact hm3
       ·have hke:k=ps.length:=by omega
        subst hke;rw[jI] at hus;refine Q.r ?_;refine N.r1 RV.c (qi.trans (M:=slO 176 17 a3 us.length c3 (us.flatMap vA)::pt bn (cl (jDn j fr n pa pc).cells 82)::gP p j mt md::gT mt ts::qF ts::gD md j.done::qp M2::L) eG (qi.trans (qi.cons (qi.cons (qS (hq.mono (hl1.trans hl2))))) (qi.trans (qi.cons (vg (sz:=16) (m:=1) rfl)) ?_))) ⟨none,0,[],some ⟨bn,0,none⟩,1,[jDn j fr n pa pc],a3,c3,us,none,0,[],none,0,[],M2,rfl,hl1.trans hl2,⟨λ_ h=>(by cases h),λm hm=> ?_,huo,λ_ h=>(by cases h),λ_ h=>(by cases h)⟩,⟨rfl,rfl,?_,rfl,rfl⟩,rfl⟩
        ·show qi _ (eP::slO 82 16 (some ⟨bn,0,none⟩) 1 1 (jDn j fr n pa pc).cells::slO 176 17 a3 us.length c3 (us.flatMap vA)::eP::eMl::qD M2 p j::qp M2::L)
         exact eG
        ·rw[ji.1 hm]
         exact ⟨hs1.mono hl2,(hn.mono (hl1.trans hl2)).o,qI.nil0,qI.nil0,λo ho=>by cases ho⟩
        ·rw[hus,hps]
   ·have hE:XV j n.abs=vP j.dim (n.ops.map OV.abs):=by
     unfold XV;rw[jb hc]
    rw[jb (by rw[hE];exact hc),hE];refine Q.r ?_;refine S.cr rfl (JM fr n.batch 0 (vP j.dim (n.ops.map OV.abs)) _) ?_;rintro _ _ ⟨rfl,rfl⟩;refine Q.r ?_;(repeat (intro b1;refine Q.r ?_));refine N.r1 RV.c (qi.trans (M:=pt b1 (cl (zJ (YA fr n.batch 0 (vP j.dim (n.ops.map OV.abs)))) 176)::gP p j mt md::gT mt ts::qF ts::gD md j.done::qp M::L) eG (pm hq)) (dZ M p j L (YA fr n.batch 0 (vP j.dim (n.ops.map OV.abs))) rfl b1)
theorem pX (n:NV)(M:OM)(p:Nat)(j:JG)(fr:Int)(L:HL)(hb:JB j)(hn:xN M n)(hN:OkN n)(hT:zB M)(h0:0≤n.kind∧n.kind≤255):
  qh kY 38 [vQ p,.int .i64 fr,n.val] (qD M p j::qp M::L) (Jc M p j (w8 j fr n.abs) L):=by
 have fin:∀{g:FuncId} {pl:PG} {L:HL},qh kY g [vQ p,.int .i64 fr,n.val] (qD M p j::qp M::L) (wG M p j pl L)→qh kY g [vQ p,.int .i64 fr,n.val] (qD M p j::qp M::L) (Jc M p j pl L):=λh=>h.post λ_ _ h=>Jc.of0 h
 unfold w8;refine qg Tryz.func38 rfl rfl rfl ?_;refine Q.r ?_;(repeat (intro b1;refine Q.r ?_));refine S.cr rfl (JL n _ hn.rd hN hT.rd h0) ?_;rintro _ _ ⟨rfl,rfl⟩;have e5:∀{L:HL},Jc M p j PG.none L (.agg #[.slice none 0 0,.slice none 0 0,.slice none 0 0,.slice none 0 0,.slice none 0 0]) (qD M p j::qp M::L):=Jc.none M p j _
 cases hr:qn n.abs with
 |false=>
  rw[jb (.inl rfl)];refine Q.r ?_;exact N.r1 RV.c eG e5
 |true=>
 by_cases hf1:fr<0
 ·rw[jb (.inr (.inl hf1))]
  refine Q.r ?_;exact N.r1 RV.c eG e5
 by_cases hf2:16≤fr
 ·rw[jb (.inr (.inr hf2))]
  refine Q.r ?_;exact N.r1 RV.c eG e5
 rw[ja (by rintro (h|h|h);cases h;exact hf1 h;exact hf2 h)];rw[show n.abs.kind=n.kind from rfl]
 by_cases h1:n.kind=1
 ·rw[jb h1]
  refine Q.r ?_;refine S.cg p rfl (fin (jA5 n M p j fr _ hb hn hN)) ?_;rintro _ _ ⟨a1,c1,rs,a2,c2,ns,a3,c3,ms,a4,c4,is,a5,c5,es,M2,rfl,hl,ok,ab,rfl⟩;(refine Q.r ?_);refine N.r1 RV.c ?_ ⟨a1,c1,rs,a2,c2,ns,a3,c3,ms,a4,c4,is,a5,c5,es,M2,rfl,hl,ok,ab,rfl⟩;exact eG
 rw[ja h1]
 by_cases h4:n.kind=4
 ·rw[jb h4]
  refine Q.r ?_;refine S.cg p rfl (fin (pU n M p j fr _ hb.l0 hb.l1)) ?_;rintro _ _ ⟨a1,c1,rs,a2,c2,ns,a3,c3,ms,a4,c4,is,a5,c5,es,M2,rfl,hl,ok,ab,rfl⟩;(refine Q.r ?_);refine N.r1 RV.c ?_ ⟨a1,c1,rs,a2,c2,ns,a3,c3,ms,a4,c4,is,a5,c5,es,M2,rfl,hl,ok,ab,rfl⟩;exact eG
 rw[ja h4]
 by_cases h6:n.kind=6
 ·rw[jb h6]
  refine Q.r ?_;refine S.cg p rfl (fin (jA6 n M p j fr _)) ?_;rintro _ _ ⟨a1,c1,rs,a2,c2,ns,a3,c3,ms,a4,c4,is,a5,c5,es,M2,rfl,hl,ok,ab,rfl⟩;(refine Q.r ?_);refine N.r1 RV.c ?_ ⟨a1,c1,rs,a2,c2,ns,a3,c3,ms,a4,c4,is,a5,c5,es,M2,rfl,hl,ok,ab,rfl⟩;exact eG
 rw[ja h6]
 by_cases h7:n.kind=7
 ·rw[jb h7]
  refine Q.r ?_;refine S.cg p rfl (mH n M p j fr _) ?_;rintro _ _ ⟨a1,c1,rs,a2,c2,ns,a3,c3,ms,a4,c4,is,a5,c5,es,M2,rfl,hl,ok,ab,rfl⟩;(refine Q.r ?_);refine N.r1 RV.c ?_ ⟨a1,c1,rs,a2,c2,ns,a3,c3,ms,a4,c4,is,a5,c5,es,M2,rfl,hl,ok,ab,rfl⟩;exact eG
 rw[ja h7];refine Q.r ?_;exact N.r1 RV.c eG e5
structure WT (x:Int)(t:TR):Prop where
 xx:t.txn=x
 x0:0≤x
 st:0≤t.stamp
 r:Jn t.parts
 pl:t.parts.length≤4
 pb:∀q∈t.parts,0≤q∧q<16
 yr:Jn t.yes
 ys:∀q∈t.yes,q∈t.parts
 kr:Jn t.acked
 ks:∀q∈t.acked,q∈t.parts
 ol:t.ops.length≤16
structure WG (j:JG):Prop where
 b:JB j
 kt:qm j.tr
 kd:qm j.done
 tx:∀u∈j.tr,WT u.1 u.2
 dp:∀u∈j.done,0<u.2
theorem WG.lk {j:JG}(h:WG j){x:Int}{t:TR}(ht:qE j.tr x=some t):WT x t:=h.tx _ ((vp h.kt).1 ht)
theorem mL (a:OA)(c:Nat)(xs:List OV)(A:HL)(h:qY A a xs.length 2 (xs.flatMap OV.cells))(hn:xs.length≤1000000):
  qh kY 198 [.slice a xs.length c] A (λv L'=>∃a' c',v=.slice a' xs.length c'∧L'=slO 38 2 a' xs.length c' (xs.flatMap OV.cells)::A):=by
 refine qg Tryz.func198 rfl rfl rfl ?_
 cases a with
 |none=>
  have hx:xs=[]:=by
   rcases h.2 with h0|⟨_,_,h0,_⟩
   ·exact jO h0
   ·cases h0
  subst hx;refine Q.r ?_;exact N.t rfl vj ⟨none,0,rfl,rfl⟩
 |some ad=>
  refine Q.r ?_;(repeat (intro b1;refine Q.r ?_));refine qo (vg (sz:=2) (m:=0) rfl) ?_;refine S.app0 rfl rfl rfl (vG.rd h.sub (jGU _)) zr zo zo (λa5 c5=> ?_);refine Q.r ?_;exact N.t rfl (kZ _) ⟨a5,c5,rfl,rfl⟩
theorem jH0 {a:Int}(h0:0≤a)(h1:a<18446744073709551616):IntKind.u64.wrap ((BitVec.ofInt IntKind.u64.bits a)&&&(BitVec.ofInt IntKind.u64.bits 1048575)).toNat=a % 1048576:=by
 obtain ⟨k,rfl⟩:=Int.eq_ofNat_of_zero_le h0;have hk:k<2^64:=by omega
 show IntKind.u64.wrap ((BitVec.ofInt 64 (k:Int))&&&(BitVec.ofInt 64 1048575)).toNat=_
 have e1:(BitVec.ofInt 64 (k:Int)).toNat=k:=by
  rw[BitVec.toNat_ofInt];omega
 have e2:(BitVec.ofInt 64 (1048575:Int)).toNat=2^20 - 1:=by decide
 rw[BitVec.toNat_and,e1,e2,Nat.and_two_pow_sub_one_eq_mod,wrap_u64 zo zo];omega
def ZU (n:NA)(M:OM)(p:Nat)(j:JG)(L:HL)(r:Value)(L':HL):Prop:=∃M':OM,r=.int .i64 (qW j n)∧qV M M'∧L'=qD M' p (ve j n)::qp M'::L
theorem dV {ts:List TB}{tr:List (Int×TR)}(h:ts.map (λu=>(u.1,u.2.2.abs))=tr){x:Int}(hx:qE tr x=none):∀u∈ts,u.1≠x:=by
 intro u hu e;have hm:(x,u.2.2.abs)∈tr:=by rw[←h,←e];exact jA (f:=λu:TB=>(u.1,u.2.2.abs)) hu
 unfold qE at hx;rw[Option.map_eq_none_iff,List.find?_eq_none] at hx;have:=hx _ hm
 simp at this
theorem Vo.new {M:OM}{j j':JG}{ts:List TB}(h:Vo M j ts){x:Int}{b:Nat}{t:TV}(hx:qE j.tr x=none)(ht:bI M t)(hs:j'.shards=j.shards)(htr:j'.tr=qN j.tr x t.abs):Vo M j' (ts++[(x,b,t)]):=by
 refine ⟨by rw[hs];exact h.s1,by rw[hs];exact h.s2,?_,λu hu=> ?_⟩
 ·rw[htr,jq,h.tr,vJ]
  ·rfl
  ·intro u hu e
   rw[←h.tr] at hu;obtain ⟨w,hw,rfl⟩:=jM.1 hu;exact dV h.tr hx w hw e
 ·rcases jy.1 hu with hu|hu
  ·exact h.ok u hu
  ·rw[ji] at hu;subst hu;exact ht
theorem mJ (n:NV)(M:OM)(p:Nat)(j:JG)(L:HL)(hw:WG j)(hn:xN M n)(hN:OkN n)(h0:0≤n.txn)(h1:n.txn<18446744073709551616)(hr:qn n.abs=true)(hk:n.kind=19):
  qh kY 150 [vQ p,n.val] (qD M p j::qp M::L) (ZU n.abs M p j L):=by
 unfold ZU;refine wD λmt md ts hq=> ?_
 refine qg Tryz.func150 rfl rfl rfl ?_;have hnp:=hN.p;have hno:=hN.o;refine Q.r ?_;(repeat (intro b1;refine Q.r ?_));refine Q.dgo [true,true,true,true,true,true] [] [] [0,1,2,3,4,5,6,7] ?_;refine Q.rd ?_;refine D.y rfl rfl rfl zk (Y.lk false rfl rfl (λw=>Tryz.zeroValue148 w)) ?_;have hlk:=Xk hq.tr n.txn
 cases hz:qE (α:=Nat×TV) ts n.txn with
 |some u=>
  rw[hz] at hlk;dsimp only;have hE:qW j n.abs=7:=by rw[ft hr hk,show n.abs.txn=n.txn from rfl,hlk];rfl
  refine Q.rd ?_;refine Q.r ?_;exact N.t rfl (qi.trans (M:=gP p j mt md::gT mt ts::qF ts::gD md j.done::qp M::L) eG (qS hq)) ⟨M,by rw[hE],qV.refl M,by rw[xo (by rw[hE];decide)]⟩
 |none=>
  rw[hz] at hlk;have hE:qW j n.abs=0:=by rw[ft hr hk,show n.abs.txn=n.txn from rfl,hlk];rfl
  have hS:=WU hE hk;have hput:∀v:Nat×TV,qN ts n.txn v=ts++[(n.txn,v)]:=λv=>vJ (dV hq.tr hlk)
  dsimp only;refine Q.rd ?_;refine Q.r ?_;revert b1;intro b3;refine vo (σ:=Nat×TV×(OM)) (λs=> [(0,vQ p),(3,.pointer (some ⟨b3,0,none⟩))])
   (λs=>pt b3 (cl n.cells 82)::gP p j mt md::gT mt (ts++[(n.txn,s.1,s.2.1)])::qF (ts++[(n.txn,s.1,s.2.1)])::gD md j.done::qp s.2.2::L) (λs=>qV M s.2.2∧bI s.2.2 s.2.1∧s.2.1.abs=fq n.abs) ?_ ?_
  ·refine Q.dgo [true,true] [16,20,22,23] [] [0,1,2,3,4,5,6,7,8,9,10,11,12,13,14,15,18,19,16,17,20,21,22,23] ?_
   refine Q.rd ?_;refine D.e rfl rfl rfl ?_;refine S.cr rfl (yF n.pa n.pc n.parts _ hn.rd.p hnp) ?_;rintro _ _ ⟨pa,pc,rfl,rfl⟩;refine qR pa (λM1 hl1 hs1=> ?_);have hn1:=hn.mono hl1;refine Q.r ?_;refine Q.rd ?_;refine D.e rfl rfl rfl ?_;refine S.cr rfl (mL n.oa n.oc n.ops _ hn1.rd.o.1 hno) ?_;rintro _ _ ⟨oa,oc,rfl,rfl⟩;refine qR oa (λM2 hl2 hs2=> ?_);have hn2:=hn1.mono hl2;refine Q.r ?_;refine Q.rd ?_;(repeat (intro b1;refine Q.rd ?_));refine D.e rfl rfl rfl ?_;refine S.mu (r:=XI) (u:=(b1,(⟨n.txn,n.batch,0,n.after,n.who,pa,pc,n.parts,none,0,[],none,0,[],oa,oc,n.ops⟩:TV))) rfl rfl rfl ?_;rw[hput];refine Q.r ?_;refine Q.rd ?_;refine N.tn ⟨(b1,⟨n.txn,n.batch,0,n.after,n.who,pa,pc,n.parts,none,0,[],none,0,[],oa,oc,n.ops⟩,M2),zt,?_,hl1.trans hl2,⟨hs1.mono hl2,qI.nil0,qI.nil0,hs2,hn2.o.2,hnp,jw _,jw _,hno⟩,rfl⟩;dsimp only;exact qi.trans (M:=vk (b1,(⟨n.txn,n.batch,0,n.after,n.who,pa,pc,n.parts,none,0,[],none,0,[],oa,oc,n.ops⟩:TV))::qF ts::pt b3 (cl n.cells 82)::gP p j mt md::gT mt (ts++[(n.txn,b1,⟨n.txn,n.batch,0,n.after,n.who,pa,pc,n.parts,none,0,[],none,0,[],oa,oc,n.ops⟩)])::gD md j.done::qp M2::L) eG (qi.trans (cY ts (n.txn,b1,_)) eG)
  ·rintro ⟨bt,tv,M2⟩ ⟨hl2,htv,hta⟩
   dsimp only at hl2 htv hta ⊢;have hfd:n.txn.fdiv (2^20)=n.txn / 1048576:=by rw[Int.fdiv_eq_ediv_of_nonneg _ zd];rfl
   have hq2:∀sq:Int,Vo M2 {j with tr:=qN j.tr n.txn (fq n.abs),seq:=sq} (ts++[(n.txn,bt,tv)]):=λsq=>(hq.mono hl2).new hlk htv rfl (by rw[hta])
   refine Q.r ?_
   by_cases he:n.txn / 1048576=j.epoch
   ·refine Q.dgo [true,true] [] [] [0,1,2,3,4,5,6,7] ?_
    refine Q.rd ?_;refine D.y rfl rfl rfl zk (Y.shrI (b:=20) rfl rfl zd) ?_;rw[hfd];refine Q.rd ?_;refine Q.r ?_;refine Q.dgo [true,true] [11] [11] [0,1,2,3,4,5,6,7,8,9,10,11] ?_;refine Q.rd ?_;refine D.y rfl rfl rfl zk (Y.and rfl rfl) ?_;rw[jH0 h0 h1];refine Q.rd ?_;refine Q.dc rfl rfl rfl rfl ?_;refine Q.r ?_;refine Q.rd ?_;refine Q.r ?_;refine N.t rfl (qi.trans (M:=gP p {j with tr:=qN j.tr n.txn (fq n.abs),seq:=max j.seq (n.txn % 1048576)} mt md::gT mt (ts++[(n.txn,bt,tv)])::qF (ts++[(n.txn,bt,tv)])::gD md j.done::qp M2::L) eG (qS (hq2 _))) ⟨M2,by rw[hE],hl2,?_⟩;rw[hS,show n.abs.txn=n.txn from rfl,jb he]
   ·refine Q.dgo [true,true] [] [] [0,1,2,3,4,5,6,7] ?_
    refine Q.rd ?_;refine D.y rfl rfl rfl zk (Y.shrI (b:=20) rfl rfl zd) ?_;rw[hfd];refine Q.rd ?_;refine Q.r ?_;refine N.t rfl (qi.trans (M:=gP p {j with tr:=qN j.tr n.txn (fq n.abs),seq:=j.seq} mt md::gT mt (ts++[(n.txn,bt,tv)])::qF (ts++[(n.txn,bt,tv)])::gD md j.done::qp M2::L) eG (qS (hq2 _))) ⟨M2,by rw[hE],hl2,?_⟩;rw[hS,show n.abs.txn=n.txn from rfl,ja he]
end Go.Proofs.YtlnfjhiphlfkjaaGreatDoor
namespace Go.Proofs.YtlnfjhiphlfkjaaGreatDoor
open Go Go.SX
theorem Vz {l:List Int}(h:vX l=true){k:Nat}(hk:k<l.length):0≤l[k]∧l[k]<16∧(∀(h0:0<k),l[k - 1]'(by omega)<l[k]):=by
 unfold vX at h;have:=List.all_eq_true.1 h k (List.mem_range.2 hk);unfold dE at this;have e:∀i (hi:i<l.length),l.getD i 0=l[i]:=λi hi=>by simp[List.getD,hi]
 rw[e k hk] at this;simp only[jF,kU,jS] at this;refine ⟨this.1.1,this.1.2,λh0=> ?_⟩
 rcases this.2 with h1|h1
 ·omega
 ·rwa [e (k - 1) zo] at h1
theorem tQ {l:List Int}(h:vX l=true):Jn l∧∀q∈l,0≤q∧q<16:=by
 constructor
 ·refine List.pairwise_iff_getElem.2 ?_
  intro i j hi hj hij
  induction j with
  |zero=>omega
  |succ j ih=>
   have hs:=(Vz h hj).2.2 zo;simp only[Nat.add_sub_cancel] at hs
   by_cases he:i=j
   ·subst he;exact hs
   ·exact Int.lt_trans (ih zo zo) hs
 ·intro q hq
  obtain ⟨k,hk,rfl⟩:=List.getElem_of_mem hq;exact ⟨(Vz h hk).1,(Vz h hk).2.1⟩
theorem gx {n:NA}(h:qn n=true):Jn n.parts∧(∀q∈n.parts,0≤q∧q<16)∧n.parts.length≤4:=by
 unfold qn vV at h;simp only[jF,kL,Bool.or_eq_false_iff,j5] at h;have:=tQ h.2.1.1.2;exact ⟨this.1,this.2,by omega⟩
theorem bh {n:NA}(h:qn n=true):n.stamp≤1099511627776∧n.mark≤1099511627776:=by
 unfold qn vV at h;simp only[jF,kL,Bool.or_eq_false_iff,j5] at h;omega
theorem vC {κ α:Type}[DecidableEq κ]{m:List (κ×α)}{k:κ}{a:α}{x:κ×α}(h:x∈qN m k a):x∈m∨x=(k,a):=by
 unfold qN at h
 split at h
 ·obtain ⟨u,hu,rfl⟩:=jM.1 h
  split
  ·exact .inr rfl
  ·exact .inl hu
 ·rcases jy.1 h with h|h
  ·exact .inl h
  ·exact .inr (ji.1 h)
theorem WG.app {j:JG}(h:WG j){n:NA}(h0:0≤n.txn)(hst:0≤n.stamp)(hmk:0≤n.mark):WG (ve j n):=by
 by_cases hE:¬qW j n=0
 ·rw[xo hE];exact h
 have hE:qW j n=0:=kv.1 hE
 cases hr:qn n with
 |false=>unfold qW at hE;rw[jb hr] at hE;cases hE
 |true=>
 have hb:=h.b;have hp:=gx hr;have hm:=bh hr;have ho:=(nP hr).2
 by_cases h16:n.kind=16
 ·rw[WV hE h16]
  have hmj:j.epoch<n.mark:=by
   rw[fu hr h16] at hE
   split at hE
   ·cases hE
   ·omega
  exact ⟨⟨hmk,hm.2,ki _,(show (0:Int)<1048576 by decide),hb.l0,hb.l1,hb.d1,hb.d2⟩,(List.filter_sublist.map _).nodup h.kt,h.kd,λu hu=>h.tx u (jB.1 hu).1,h.dp⟩
 by_cases h19:n.kind=19
 ·rw[WU hE h19]
  refine ⟨⟨hb.e0,hb.e1,?_,?_,hb.l0,hb.l1,hb.d1,hb.d2⟩,vy h.kt _ _,h.kd,λu hu=> ?_,h.dp⟩
  ·have:=hb.s0
   dsimp only
   split<;>omega
  ·have:=hb.s1
   dsimp only
   split<;>omega
  ·rcases vC hu with hu|rfl
   ·exact h.tx u hu
   ·exact ⟨rfl,h0,ki _,hp.1,hp.2.2,hp.2.1,List.Pairwise.nil,λ_ h=>(by cases h),List.Pairwise.nil,λ_ h=>(by cases h),ho⟩
 by_cases h17:n.kind=17
 ·rw[J3 hE h17]
  have hne:n.stamp≠0:=by
   rw[Wm hr h17] at hE;unfold py at hE;intro e;rw[jb e] at hE;cases hE
  refine ⟨⟨hb.e0,hb.e1,hb.s0,hb.s1,?_,?_,hb.d1,hb.d2⟩,vy h.kt _ _,vy h.kd _ _,λu hu=> ?_,λu hu=> ?_⟩
  ·have:=hb.l0;dsimp only;omega
  ·have:=hb.l1;dsimp only;omega
  ·rcases vC hu with hu|rfl
   ·exact h.tx u hu
   ·cases hz:qE j.tr n.txn with
    |some t=>
     have ht:=h.lk hz;exact ⟨ht.xx,ht.x0,hst,ht.r,ht.pl,ht.pb,ht.yr,ht.ys,ht.kr,ht.ks,ht.ol⟩
    |none=>exact ⟨rfl,h0,hst,hp.1,hp.2.2,hp.2.1,List.Pairwise.nil,λ_ h=>(by cases h),List.Pairwise.nil,λ_ h=>(by cases h),jw _⟩
  ·rcases vC hu with hu|rfl
   ·exact h.dp u hu
   ·dsimp only;omega
 by_cases hw:n.kind=20∨n.kind=21
 ·have hE2:=hE
  rw[WS hr hw] at hE2
  cases hz:qE j.tr n.txn with
  |none=>rw[hz] at hE2;cases hE2
  |some t=>
   rw[hz] at hE2;dsimp only at hE2;have ht:=h.lk hz;rw[cF hE hw hz];refine ⟨⟨hb.e0,hb.e1,hb.s0,hb.s1,hb.l0,hb.l1,hb.d1,hb.d2⟩,vy h.kt _ _,h.kd,λu hu=> ?_,h.dp⟩
   rcases vC hu with hu|rfl
   ·exact h.tx u hu
   ·unfold yT at hE2
    by_cases hne:decide (0<t.stamp)≠decide (n.kind=21)
    ·rw[jb hne] at hE2;cases hE2
    ·rw[ja hne] at hE2
     by_cases hno:n.who∉t.parts∨n.who∈(if n.kind=21 then t.acked else t.yes)
     ·rw[jb hno] at hE2;cases hE2
     ·skip
      have hpp:n.who∈t.parts:=kv.1 λe=>hno (.inl e)
      have hnn:n.who∉(if n.kind=21 then t.acked else t.yes):=λe=>hno (.inr e)
      unfold xX
      by_cases h21:n.kind=21
      ·rw[jb h21] at hnn ⊢
       exact ⟨ht.xx,ht.x0,ht.st,ht.r,ht.pl,ht.pb,ht.yr,ht.ys,WC ht.kr hnn,λq hq=>(by rcases V7.1 hq with rfl|hq;exact hpp;exact ht.ks q hq),ht.ol⟩
      ·rw[ja h21] at hnn ⊢
       exact ⟨ht.xx,ht.x0,ht.st,ht.r,ht.pl,ht.pb,WC ht.yr hnn,λq hq=>(by rcases V7.1 hq with rfl|hq;exact hpp;exact ht.ys q hq),ht.kr,ht.ks,ht.ol⟩
 ·by_cases he:n.kind=18∨n.kind=22
  ·rw[Xr hE he]
   exact ⟨⟨hb.e0,hb.e1,hb.s0,hb.s1,hb.l0,hb.l1,hb.d1,hb.d2⟩,yo h.kt _,h.kd,λu hu=>h.tx u (jB.1 hu).1,h.dp⟩
  ·unfold qW at hE
   rw[ja (by rw[hr];decide),ja h16,ja h19,ja h17,ja zo] at hE
   cases hE
theorem WG.zero {s d:Int}(h1:1≤d)(h2:d≤8):WG (wy s d):=
 ⟨⟨ki _,(show (0:Int)≤1099511627776 by decide),ki _,(show (0:Int)<1048576 by decide),ki _,(show (0:Int)≤1099511627776 by decide),h1,h2⟩,List.nodup_nil,List.nodup_nil,λ_ h=>(by cases h),λ_ h=>(by cases h)⟩
theorem GI.zero :GI (wy 3 2) 0 (λ_ _=>False) []:=
 ⟨rfl,rfl,ki _,ki _,ki _,ki _,List.nodup_nil,List.nodup_nil,List.nodup_nil,λ_ _ h=>(by cases h),λ_ _ h=>(by cases h),λ_ _ h=>(by cases h),λ_ _ _ _ h=>(by cases h)⟩
attribute [local irreducible] swp qq qL qJ vZ qh St qi qk vu qH
attribute [local irreducible] zN
theorem pQ {α:Type}(rr:α→Value)(bm b:Nat)(m:List (Int×α))(A:HL):Wo kY 187 [.pointer (some ⟨bm,0,none⟩)] U64 m.length (λks=>ks.Perm (m.map (·.1)))
  (pt bm (cl [.map (some b)] 128)::VX U64 rr b m::A) (VX U64 rr b m::A):=by
 intro l J hJ;refine qg Tryz.func187 rfl rfl rfl ?_;refine Q.r ?_;refine S.rg rfl (λr=> ?_);refine Q.r ?_;refine ql (σ:=List Nat) (λvis=> [(0,.func (.yield l) #[] #[]),(5,.pointer (some ⟨r,0,none⟩))])
  (λvis=>J (vis.filterMap λi=>(m[i]?).map (·.1))::bS U64 rr b r m vis::A) (λvis=>vis.Nodup∧∀i∈vis,i<m.length) (λvis=>m.length - vis.length) [] zt (by simp only[List.filterMap_nil];exact eG) ⟨by simp,by simp⟩ ?_
 rintro vis ⟨hv1,hv2⟩;refine Q.r ?_;refine S.nx rfl (λhend=> ?_) (λi p hp hi=> ?_)
 ·refine Q.r ?_
  exact N.n0 RV.nil (qi.cons QU) ⟨_,X0 _ hv1 hv2 hend,rfl⟩
 ·have hil:i<m.length:=(jm.1 hp).1
  obtain ⟨hm1,hm2,hm3⟩:=K6 hv1 hv2 hil hi;have hvl:(vis.filterMap λi=>(m[i]?).map (·.1)).length≤vis.length:=List.length_filterMap_le _ _;have happ:((vis++[i]).filterMap λi=>(m[i]?).map (·.1))=(vis.filterMap λi=>(m[i]?).map (·.1))++[p.1]:=by
   rw[List.filterMap_append];simp[hp]
  refine Q.r ?_;refine S.y (Y.en rfl hp) ?_;refine S.y (Y.ext rfl rfl) ?_;refine S.y (Y.as rfl) ?_;refine qQ ?_;refine N.tn ?_;refine wE ?_;refine Jy ?_;refine qy (λ_ h=>by cases h) rfl ?_;refine Q.r ?_;refine qy (λ_ h=>by cases h) rfl ?_;refine Q.r ?_;refine KH rfl rfl ((hJ _ p.1 zo).frame (R:=_)) ?_;refine qy (λ_ h=>by cases h) rfl ?_;refine Q.r ?_;refine wW ?_;refine Q.r ?_;refine ⟨vis++[i],zt,?_,⟨hm1,hm2⟩,by simp;omega⟩;rw[happ];exact eG
theorem Z0 (mo:Option Nat)(L:HL):qh kY 134 [.map mo] L
  (λv L'=>∃bm,v=.func (.func 187) #[] [.pointer (some ⟨bm,0,none⟩)].toArray∧L'=pt bm (cl [.map mo] 128)::L):=by
 refine qg Tryz.func134 rfl rfl rfl ?_;refine Q.r ?_;(repeat (intro b1;refine Q.r ?_));refine S.y (Y.mf rfl rfl) ?_;refine Q.r ?_;exact N.t rfl (kZ _) ⟨_,rfl,rfl⟩
theorem Zs (M:OM)(p:Nat)(j:JG)(L:HL)(hn:j.tr.length≤1000000):
  qh kY 68 [vQ p] (qD M p j::L) (λr L'=>∃a c,r=.slice a j.tr.length c∧L'=slO 31 1 a j.tr.length c ((vq (j.tr.map (·.1))).map U64)::qD M p j::L):=by
 refine wD λmt md ts hq=> ?_
 have hlen:j.tr.length=ts.length:=by rw[←hq.tr,jf]
 have hkeys:j.tr.map (·.1)=ts.map (·.1):=by rw[←hq.tr,kE];rfl
 rw[hlen,hkeys];rw[hlen] at hn;refine qg Tryz.func68 rfl rfl rfl ?_;refine Q.r ?_;refine S.cr rfl (Z0 (some mt) _) ?_;rintro _ _ ⟨bm,rfl,rfl⟩;refine Q.r ?_;refine qo (L':=pt bm (cl [.map (some mt)] 128)::gT mt ts::gP p j mt md::qF ts::gD md j.done::L) eG ?_;have hs:=pQ XI bm mt ts (gP p j mt md::qF ts::gD md j.done::L);refine S.cr rfl (Xs _ _ (ts.map (·.1)) _ _ (by rw[jf];omega) (by rw[jf];exact hs)) ?_;rintro _ _ ⟨a,c,rfl,rfl⟩;refine Q.r ?_;rw[jf];refine N.t rfl (qi.cons ?_) ⟨a,c,rfl,rfl⟩;exact qi.trans (M:=gP p j mt md::gT mt ts::qF ts::gD md j.done::L) eG (qS hq)
end Go.Proofs.YtlnfjhiphlfkjaaGreatDoor
namespace Go.SX
open Go
section
variable {κ α : Type} {g : κ → Value} {rr : α → Value}
def itQ (g:κ→Value)(rr:α→Value)(m:List (κ×α))(done:List κ)(last:Option κ)(x:Array MapEntry×Nat×Array Nat):Prop:=
 zf g rr m x.1.toList x.2.1∧(∀y∈x.1.toList.zip m,y.1.born∈x.2.2.toList↔y.2.1∈done)∧∀k,last=some k→∃y∈x.1.toList.zip m,y.2.1=k∧∃v0:Array Nat,x.2.2=v0.push y.1.born
def pi (g:κ→Value)(rr:α→Value)(b r:Nat)(m:List (κ×α))(done:List κ)(last:Option κ):HP:=
 d9 λx:Array MapEntry×Nat×Array Nat=>yA [wT (itQ g rr m done last x),pt b (.map x.1 x.2.1),pt r (.mapIter (some b) x.2.1 x.2.2 x.2.1)]
end
class J4 (r:Nat)(L:HL){κ α:outParam Type}(g:outParam (κ→Value))(rr:outParam (α→Value))(b:outParam Nat)(m:outParam (List (κ×α)))(done:outParam (List κ))(last:outParam (Option κ))(L':outParam (HP→HL)):Prop where
 at_:∃R,L.Perm (pi g rr b r m done last::R)∧∀x,(x::R).Perm (L' x)
instance J4.here {κ α:Type}{r b:Nat}{g:κ→Value}{rr:α→Value}{m:List (κ×α)}{done:List κ}{last:Option κ}{L:HL}:J4 r (pi g rr b r m done last::L) g rr b m done last (λx=>x::L):=⟨L,.refl _,λ_=>.refl _⟩
instance (priority :=low) J4.there {κ α:Type} {r b:Nat} {g:κ→Value} {rr:α→Value} {m:List (κ×α)} {done:List κ} {last:Option κ} {A:HP} {L:HL} {L':HP→HL} [h:J4 r L g rr b m done last L']:J4 r (A::L) g rr b m done last (λx=>A::L' x):=by
 obtain ⟨R,h1,h2⟩:=h.at_;exact ⟨A::R,(h1.cons A).trans (.swap _ _ _),λx=>List.Perm.trans (.swap _ _ _) ((h2 x).cons A)⟩
section
variable {κ α : Type} {g : κ → Value} {rr : α → Value} {m : List (κ × α)} {done : List κ} {last : Option κ}
theorem We {b r:Nat}{L:HL}{x:Array MapEntry×Nat×Array Nat}(h:itQ g rr m done last x):qi (pt b (.map x.1 x.2.1)::pt r (.mapIter (some b) x.2.1 x.2.2 x.2.1)::L) (pi g rr b r m done last::L):=
 qi.trans (qi.shut_pure h) (qi.trans (qi.shut_all (L:=[_,_,_])) (qi.shut_ex (P:=λx:Array MapEntry×Nat×Array Nat=>yA [wT (itQ g rr m done last x),pt b (.map x.1 x.2.1),pt r (.mapIter (some b) x.2.1 x.2.2 x.2.1)]) x))
theorem St.ik_open {w:World}{b r:Nat}{L:HL}(H:St w (pi g rr b r m done last::L)):∃x,itQ g rr m done last x∧St w (pt b (.map x.1 x.2.1)::pt r (.mapIter (some b) x.2.1 x.2.2 x.2.1)::L):=by
 obtain ⟨x,H⟩:=St.open_ex H;have H:=qi.open_all (L:=[_,_,_]) (M:=L) w [] (by simpa using H);obtain ⟨h,H⟩:=St.open_pure (by simpa using H);exact ⟨x,h,H⟩
theorem jEv {b r:Nat}{L:HL}:qi (pi g rr b r m done last::L) (VX g rr b m::L):=λw F H=>by
 obtain ⟨x,h,H⟩:=St.ik_open (L:=L++F) H;refine St.mp_shut (es:=x.1) (clock:=x.2.1) h.1 ?_;exact (St.perm (.swap _ _ _) H).tail
theorem jEu {b r:Nat}{L:HL}:qi (bS g rr b r m []::L) (pi g rr b r m [] none::L):=λw F H=>by
 obtain ⟨x,h,H⟩:=St.it_open (L:=L++F) H;exact We (L:=L) (x:=(x.1,x.2,#[])) ⟨h.1,λy _=>by simp,λk hk=>by cases hk⟩ w F (by simpa using H)
theorem J4.open_ {r b:Nat}{L F:HL}{L':HP→HL}(h:J4 r L g rr b m done last L'){w:World}(H:St w (L++F)):∃R x,itQ g rr m done last x∧St w (pt b (.map x.1 x.2.1)::pt r (.mapIter (some b) x.2.1 x.2.2 x.2.1)::(R++F))∧∀y w,St w (y::(R++F))→St w (L' y++F):=by
 obtain ⟨R,p1,p2⟩:=h.at_;have H1:St w (pi g rr b r m done last::(R++F)):=by simpa using St.perm (p1.append_right F) H
 obtain ⟨x,k,H2⟩:=St.ik_open H1;exact ⟨R,x,k,H2,λx w H=>St.perm ((p2 x).append_right F) (by simpa using H)⟩
theorem Yi {es:List MapEntry}{m:List (κ×α)}{y:MapEntry×(κ×α)}(h:y∈es.zip m):∃i:Nat,es[i]? =some y.1∧m[i]? =some y.2:=by
 obtain ⟨i,hi⟩:=List.mem_iff_getElem?.1 h;exact ⟨i,(List.getElem?_zip_eq_some.1 hi).1,(List.getElem?_zip_eq_some.1 hi).2⟩
theorem rq {es:List MapEntry}{m:List (κ×α)}{i:Nat}{e:MapEntry}{p:κ×α}(h1:es[i]? =some e)(h2:m[i]? =some p):(e,p)∈es.zip m:=
 List.mem_iff_getElem?.2 ⟨i,List.getElem?_zip_eq_some.2 ⟨h1,h2⟩⟩
theorem lK {es:List MapEntry}{clock:Nat}(h:zf g rr m es clock){i:Nat}{e:MapEntry}(he:es[i]? =some e):∃p:κ×α,m[i]? =some p∧e.key=g p.1∧e.val=rr p.2:=by
 have h1:=jj (λl=>l[i]?) h.1;simp only[jZ,he,Option.map_some] at h1
 cases hm:m[i]? with
 |none=>rw[hm] at h1;cases h1
 |some p=>
  rw[hm] at h1;simp only[Option.map_some,jk,js] at h1;exact ⟨p,rfl,h1.1,h1.2⟩
theorem QT {β:Type}{l:List β}(h:l.Nodup){i j:Nat}{x:β}(hi:l[i]? =some x)(hj:l[j]? =some x):i=j:=by
 have h1:=(jm.1 hi).1;exact (List.getElem?_inj h1 h).1 (hi.trans hj.symm)
theorem jBi {es:List MapEntry}{clock:Nat}(h:zf g rr m es clock){y z:MapEntry×(κ×α)}(hy:y∈es.zip m)(hz:z∈es.zip m)(e:y.1.born=z.1.born):y=z:=by
 obtain ⟨i,i1,i2⟩:=Yi hy;obtain ⟨j,j1,j2⟩:=Yi hz;have hn:(es.map (·.born)).Nodup:=h.2.2.1.imp λh=>Nat.ne_of_lt h
 have hij:i=j:=QT hn (x:=y.1.born) (by rw[jZ,i1];rfl) (by rw[jZ,j1,e];rfl);subst hij;rw[i1] at j1;rw[i2] at j2
 injection j1 with j1;injection j2 with j2
 exact Prod.ext j1 j2
theorem jDN {es:List MapEntry}{clock:Nat}(h:zf g rr m es clock){y z:MapEntry×(κ×α)}(hy:y∈es.zip m)(hz:z∈es.zip m)(e:y.2.1=z.2.1):y=z:=by
 obtain ⟨i,i1,i2⟩:=Yi hy;obtain ⟨j,j1,j2⟩:=Yi hz;have hij:i=j:=QT h.2.1 (x:=y.2.1) (by rw[jZ,i2];rfl) (by rw[jZ,j2,e];rfl);subst hij;rw[i1] at j1;rw[i2] at j2
 injection j1 with j1;injection j2 with j2
 exact Prod.ext j1 j2
end
section
variable {P : Program} {n : Nat} {ops rest : List Oper} {Q : vm} {f : vL} {L : HL} {d : Nat} {ty : TypeId} {pos : String} {af : Array Edge}
variable {κ α : Type} {g : κ → Value} {rr : α → Value} {m : List (κ × α)} {done : List κ} {last : Option κ}
theorem S.nxK {x:Operand}{r b:Nat}{L':HP→HL}[hm:J4 r L g rr b m done last L'](hx:ev f x=some (.pointer (some ⟨r,0,none⟩)))
  (hend:(∀p∈m,p.1∈done)→qq P n ops rest Q (upd f d (.tuple #[.bool false])) (L' (pi g rr b r m done last)))
  (hstep:∀p∈m,p.1∉done→qq P n ops rest Q (upd f d (.tuple #[.bool true,g p.1,rr p.2])) (L' (pi g rr b r m (done++[p.1]) (some p.1)))):
  qq P n ops (⟨some d,.next x false,ty,pos,af,none⟩::rest) Q f L:=by
 refine vF (R:=λv L1=>((∀p∈m,p.1∈done)∧v=.tuple #[.bool false]∧L1=L' (pi g rr b r m done last))∨∃p,p∈m∧p.1∉done∧v=.tuple #[.bool true,g p.1,rr p.2]∧L1=L' (pi g rr b r m (done++[p.1]) (some p.1)))
  (fun F a w s t0 => ?_) (by
   rintro _ _ (⟨h,rfl,rfl⟩|⟨p,h1,h2,rfl,rfl⟩)
   ·exact hend h
   ·exact hstep p h1 h2)
 obtain ⟨R,⟨es,clock,vs⟩,hes,H,hback⟩:=hm.open_ t0;have hb:=St.pt_read H;have hr:=St.pt_read (St.perm (.swap _ _ _) H);dsimp only at hb hr;have hlen:es.toList.length=m.length:=by have:=jj List.length hes.1.1;simpa using this
 rcases run_next_at (P:=P) w ty r b clock clock _ es clock hr hb (λx hx=>hes.1.2.2.2 x hx) (jz _) with ⟨h0,hrun⟩|⟨e,he,w1,hw1,hrun⟩
 ·refine ⟨_,w,_,by simp[execOp,s.eval hx,hrun],hback _ _ (We (L:=R) hes w F H),.inl ⟨λp hp=> ?_,rfl,rfl⟩⟩
  obtain ⟨i,hi⟩:=List.mem_iff_getElem?.1 hp;have hil:i<es.toList.length:=by rw[hlen];exact (jm.1 hi).1
  have hy:=rq (jY hil) hi;refine (hes.2.1 _ hy).1 ?_;have h1:leftOf es vs= #[]:=Array.eq_empty_of_size_eq_zero h0;unfold leftOf at h1;rw[Array.filter_eq_empty_iff] at h1;have:=h1 es.toList[i] (by rw[←Array.mem_toList_iff];exact List.getElem_mem hil)
  simpa using this
 ·unfold leftOf at he
  simp only[Array.toList_filter,jB,Array.mem_toList_iff] at he;obtain ⟨h1,h2⟩:=he;obtain ⟨i,hi⟩:=List.mem_iff_getElem?.1 (Array.mem_toList_iff.2 h1);obtain ⟨p,hp,hk,hv⟩:=lK hes.1 hi;have hy:=rq hi hp;have hpn:p.1∉done:=λhd=>by
   have:=(hes.2.1 _ hy).2 hd
   simp at h2
   exact h2 (by simpa using this)
  refine ⟨.tuple #[.bool true,g p.1,rr p.2],@ChangeMaps.setBlock w1 r (.mapIter (some b) clock (vs.push e.born) clock),_,by simp[execOp,s.eval hx,hrun,hk,hv],hback _ _ ?_,.inr ⟨p,jn hp,hpn,rfl,rfl⟩⟩;have e1:w1.heap=w.heap:=by rcases hw1 with rfl|rfl<;>rfl
  have e2:SX.ext w1=SX.ext w:=by rcases hw1 with rfl|rfl<;>rfl
  have hlt:r<w.heap.size:=(kj.1 hr).1;have H1:=St.perm (.swap _ _ _) H;have H2:=St.pt_write (w':= @ChangeMaps.setBlock w1 r (.mapIter (some b) clock (vs.push e.born) clock)) (o':=.mapIter (some b) clock (vs.push e.born) clock) H1
   (by simp[ChangeMaps.setBlock,e1,hlt]) (λk hk=>by simp[ChangeMaps.setBlock,e1,Ne.symm hk]) (by rw[←e2];rfl)
  exact We (L:=R) (x:=(es,clock,vs.push e.born)) ⟨hes.1,λy hy'=>by
   simp only[Array.toList_push,jy,ji];refine ⟨λh=>h.imp (hes.2.1 y hy').1 λh=> ?_,λh=>h.imp (hes.2.1 y hy').2 λh=> ?_⟩
   ·rw[jBi hes.1 hy' hy h]
   ·rw[jDN hes.1 hy' hy h],λk hk'=>by
   injection hk' with hk'
   exact ⟨_,hy,hk',vs,rfl⟩⟩ _ F (St.perm (.swap _ _ _) H2)
theorem Y.enK {A:HL}{x:Operand}{r b:Nat}{p:κ×α}{A':HP→HL}[hm:J4 r A g rr b m done (some p.1) A'](hx:ev f x=some (.pointer (some ⟨r,0,none⟩)))(hp:p∈m):
  qk P n ops ⟨some d,.entry x,ty,pos,af,none⟩ f A (.tuple #[g p.1,rr p.2]):=by
 refine Y.of' λa w F s t0=> ?_
 obtain ⟨R,⟨es,clock,vs⟩,hes,H,hback⟩:=hm.open_ t0;have hb:=St.pt_read H;have hr:=St.pt_read (St.perm (.swap _ _ _) H);dsimp only at hb hr;obtain ⟨y,hy,hyk,v0,hv0⟩:=hes.2.2 p.1 rfl;dsimp only at hy hv0;obtain ⟨i,i1,i2⟩:=Yi hy;obtain ⟨p',g2,g4,g5⟩:=lK hes.1 i1;rw[i2] at g2
 injection g2 with g2
 have hpp:y.2=p:=by
  obtain ⟨j,hj⟩:=List.mem_iff_getElem?.1 hp;have hij:i=j:=QT hes.1.2.1 (x:=p.1) (by rw[jZ,i2];exact jj some hyk) (by rw[jZ,hj];rfl);subst hij;rw[i2] at hj
  injection hj
 rw[←g2,hpp] at g4 g5;subst hv0;have:=run_entry_at (P:=P) w r b clock _ es clock y.1 hr hb (jn i1) ((hes.1.2.2.1.imp λh=>Nat.ne_of_lt h))
 simp[execOp,s.eval hx,this,g4,g5]
theorem sY {ep eq:List MapEntry}{ee:MapEntry}{p q:List (κ×α)}{u:κ×α}(hl:ep.length=p.length){y:MapEntry×(κ×α)}(h:y∈(ep++eq).zip (p++q)):y∈(ep++ee::eq).zip (p++u::q):=by
 rw[List.zip_append hl] at h ⊢
 rcases jy.1 h with h|h
 ·exact jy.2 (.inl h)
 ·exact jy.2 (.inr (by rw[List.zip_cons_cons];exact jV _ h))
theorem S.dlK [DecidableEq κ]{x y:Operand}{t t' kt e:TypeId}{dd:TypeDesc}{b:Nat}{q:κ}{L':HP→HL}[h:Vm P t kt e][h1:KTy P kt dd][K:mD dd g](r:Nat)[hm:J4 r L g rr b m done last L']
  (hx:ev f x=some (.map (some b))) (hy:ev f y=some (g q)) (hk:qq P n ops rest Q f (L' (pi g rr b r (qO m q) done none))):
  qq P n ops (⟨none,.call ⟨.builtin .delete,#[x,y],#[t,t']⟩,ty,pos,af,none⟩::rest) Q f L:=by
 intro ok F a w s t0;simp only[wA,List.all_cons,jF] at ok;refine wpList_plain rfl λK' hK=> ?_
 obtain ⟨R,⟨es,clock,vs⟩,⟨⟨he,hkk,hbo,hcl⟩,hz,hlast⟩,H,hback⟩:=hm.open_ t0;dsimp only at he hbo hcl hz hlast H;have hb:=St.pt_read H;have hget:(getObj b).run P w=.ok (.map es clock) w:=MapKept.run_getObj_map hb;have hset:∀o,(setObj b o).run P w=.ok () {w with heap:=w.heap.setIfInBounds b o}:=λo=>MapKept.run_setObj_map o hb
 have hpl:=K.plain P kt h1.und es.isEmpty q w;have hlt:b<w.heap.size:=(kj.1 hb).1;have key:∃w',(execOp a.eval ⟨none,.call ⟨.builtin .delete,#[x,y],#[t,t']⟩,ty,pos,af,none⟩).run P w=.ok (.value (.tuple #[])) w'∧St w' (L' (pi g rr b r (qO m q) done none)++F):=by
  have fin:∀es':Array MapEntry,itQ g rr (qO m q) done none (es',clock,vs)→St {w with heap:=w.heap.setIfInBounds b (.map es' clock)} (L' (pi g rr b r (qO m q) done none)++F):=λes' hq=>by
   refine hback _ _ (We (L:=R) (x:=(es',clock,vs)) hq _ F ?_);exact St.pt_write (o':=.map es' clock) H (by simp[hlt]) (λk hk=>by simp[Ne.symm hk]) rfl
  rcases wJ m hkk q with ⟨p,v,q',rfl,hp,hq⟩|hn
  ·obtain ⟨ep,eq,e1,e2,e3⟩:=Wj he
   cases eq with
   |nil=>simp at e3
   |cons ee eq=>
    simp only[jL,List.cons.injEq,js] at e3;have hf:=Kp (d:=dd) q ep ee eq 0 (yE e2 hp) e3.1.1;rw[←e1,kR] at hf;have hfk:=wZ (P:=P) (kt:=kt) h1.und hf w;refine ⟨_,?_,fin (es.eraseIdxIfInBounds (ep.length)) ?_⟩
    ·simp[execOp,resolve,invoke,builtin,s.eval hx,s.eval hy,Builtin.delete_,h.und,hget,hpl,hfk,hset]
    ·have el:(es.eraseIdxIfInBounds (ep.length)).toList=ep++eq:=by
      have hl:ep.length<es.size:=by have:=jj List.length e1;simp at this;omega
      rw[Array.eraseIdxIfInBounds,dif_pos hl,Array.toList_eraseIdx,e1,List.eraseIdx_append_of_length_le (jz _)]
      simp
     have hpl2:ep.length=p.length:=by have:=jj List.length e2;simpa using this
     refine ⟨⟨?_,yo hkk q,?_,λe' he'=> ?_⟩,λy hy=> ?_,λk hk=>by cases hk⟩
     ·dsimp only
      rw[el,Qt hp hq];simp only[jq,e2,e3.2]
     ·dsimp only
      rw[el];rw[e1] at hbo;refine List.Pairwise.sublist ?_ hbo;exact List.Sublist.map _ (List.Sublist.append_left (List.sublist_cons_self _ _) _)
     ·dsimp only at he'
      rw[el] at he';rw[e1] at hcl;simp only[jy] at he';exact hcl _ (by simp only[jy,j9];exact he'.imp id .inr)
     ·dsimp only at hy ⊢
      rw[el,Qt hp hq] at hy;exact hz y (by rw[e1];exact sY hpl2 hy)
  ·have hf:=Kq (d:=dd) q es.toList 0 (yE he hn)
   have hfk:=wZ (P:=P) (kt:=kt) h1.und hf w;refine ⟨_,?_,fin es ?_⟩
   ·simp[execOp,resolve,invoke,builtin,s.eval hx,s.eval hy,Builtin.delete_,h.und,hget,hpl,hfk,hset]
   ·rw[WO hn];exact ⟨⟨he,hkk,hbo,hcl⟩,hz,λk hk=>by cases hk⟩
 obtain ⟨w',hr,ht⟩:=key;simp only[Oper.wp,hr,Oper.upon];exact hK _ _ (hk ok.2 F _ _ (s.put ok.1 _) ht)
end
theorem jCj {κ α:Type}[DecidableEq κ]{g:κ→Value}{r:α→Value}{b:Nat}{m m':List (κ×α)}(h:m.map (λp=>(g p.1,r p.2))=m'.map (λp=>(g p.1,r p.2)))(hk:m.map (·.1)=m'.map (·.1)){L:HL}:qi (VX g r b m::L) (VX g r b m'::L):=λw F H=>
 St.of_sep (L:=VX g r b m::(L++F)) (λhh ⟨h1,h2,ok,e,⟨es,c,⟨a1,a2,a3⟩,a4⟩,l⟩=>⟨h1,h2,ok,e,⟨es,c,⟨a1.trans h,by unfold qm at*;rw[←hk];exact a2,a3⟩,a4⟩,l⟩) H
end Go.SX
namespace Go.Proofs.YtlnfjhiphlfkjaaGreatDoor
open Go Go.SX
attribute [local irreducible] swp qq qL qJ vZ qh St qi qk vu qH
theorem jGh {ts:List TB}{k b mt:Nat}{x:Int}{t t':TV}(h:ts[k]? =some (x,b,t)){L:HL}:qi (gT mt ts::L) (gT mt (ts.set k (x,b,t'))::L):=by
 have hk:k<ts.length:=(jm.1 h).1;have he:=(jm.1 h).2;refine jCj ?_ ?_
 ·rw[List.map_set]
  have:(U64 x,XI (b,t'))=(ts.map λp:TB=>(U64 p.1,XI p.2))[k]'(by simpa using hk):=by rw[List.getElem_map,he]
  rw[this,List.set_getElem_self]
 ·rw[List.map_set]
  have:x=(ts.map λp:TB=>p.1)[k]'(by simpa using hk):=by rw[List.getElem_map,he]
  rw[this,List.set_getElem_self]
theorem rz {ts:List TB}{k b mt p md:Nat}{x:Int}{t t':TV}{M:OM}{j:JG}(h:ts[k]? =some (x,b,t))(hq:Vo M j (ts.set k (x,b,t'))){L:HL}:qi (gP p j mt md::gT mt ts::vk (b,t')::qF (ts.eraseIdx k)::gD md j.done::L) (qD M p j::L):=by
 have hk:k<ts.length:=(jm.1 h).1;exact qi.trans (qi.cons ((jGh (t':=t') h).trans (qi.cons (ny hk (x,b,t'))))) (qS hq)
theorem Vo.upd {M:OM}{j j':JG}{ts:List TB}(h:Vo M j ts)(hk:qm j.tr){k:Nat}{x:Int}{b:Nat}{t t':TV}(hx:ts[k]? =some (x,b,t))(ht:bI M t')(hs:j'.shards=j.shards)(htr:j'.tr=qN j.tr x t'.abs):Vo M j' (ts.set k (x,b,t')):=by
 refine ⟨by rw[hs];exact h.s1,by rw[hs];exact h.s2,?_,λu hu=> ?_⟩
 ·rw[htr,List.map_set,h.tr]
  have hkl:k<ts.length:=(jm.1 hx).1;have hkt:k<j.tr.length:=by rw[←h.tr,jf];exact hkl
  have he:j.tr[k]=(x,t.abs):=by
   have e2:=(jm.1 hx).2;simp only[←h.tr,List.getElem_map,e2]
  rcases wJ j.tr hk x with ⟨p,a,q,hpq,hp,hqn⟩|hn
  ·rw[hpq,wv hp hqn]
   have hkp:k=p.length:=by
    have hm:j.tr[k]? =some (x,t.abs):=by rw[jY hkt,he]
    rw[hpq] at hm
    rcases Nat.lt_trichotomy k p.length with h1|h1|h1
    ·rw[ko h1] at hm
     exact absurd rfl (hp _ (jn hm))
    ·exact h1
    ·rw[kG zo] at hm
     obtain ⟨d,hd⟩:∃d,k - p.length=d+1:=⟨k - p.length - 1,by omega⟩;rw[hd,jg] at hm;exact absurd rfl (hqn _ (jn hm))
   subst hkp;rw[List.set_append_right _ _ (jz _),Nat.sub_self,List.set_cons_zero]
  ·exact absurd rfl (hn (x,t.abs) (by rw[←he];exact List.getElem_mem hkt))
 ·rcases List.mem_or_eq_of_mem_set hu with hu|hu
  ·exact h.ok u hu
  ·subst hu;exact ht
theorem Zu (n:NV)(u:Nat×TV)(x:Int)(M:OM)(L:HL)(ht:bI M u.2)(hw:WT x u.2.abs)(hk:n.kind=20∨n.kind=21):
  qh kY 152 [XI u,n.val] (vk u::qp M::L) (λr L'=>∃(M':OM) (t':TV),r=.int .i64 (yT u.2.abs n.abs)∧qV M M'∧bI M' t'∧t'.abs=(if yT u.2.abs n.abs=0 then xX u.2.abs n.abs else u.2.abs)∧(yT u.2.abs n.abs≠0→t'=u.2)∧L'=vk (u.1,t')::qp M'::L):=by
 have hpl:=ht.pl;have hyl:=ht.yl;have hkl:=ht.kl;have hy4:u.2.yes.length≤4:=ke (YQ (Yy hw.yr) hw.ys) hw.pl;have hk4:u.2.acked.length≤4:=ke (YQ (Yy hw.kr) hw.ks) hw.pl;refine qg Tryz.func152 rfl rfl rfl ?_;have e:∀(E:Int),yT u.2.abs n.abs=E→(if yT u.2.abs n.abs=0 then xX u.2.abs n.abs else u.2.abs)=if E=0 then xX u.2.abs n.abs else u.2.abs:=λE h=>by rw[h]
 rcases hk with hk|hk
 ·have hE:yT u.2.abs n.abs=if 0<u.2.stamp then 10 else if n.who∉u.2.parts∨n.who∈u.2.yes then 1 else 0:=by
   unfold yT;rw[show n.abs.kind=20 from hk]
   by_cases h:0<u.2.stamp<;>simp[h]
  have hT:xX u.2.abs n.abs={u.2.abs with yes:=y8 u.2.yes n.who}:=by
   unfold xX;rw[show n.abs.kind=20 from hk];rfl
  by_cases h1:0<u.2.stamp
  ·rw[jb h1] at hE
   refine Q.r ?_;(repeat (intro b1;refine Q.r ?_));refine Q.dgo [true,true] [] [] [0,1,2,3,4,5,6,7,8,9,10] ?_;refine Q.rd ?_;refine Q.r ?_;exact N.t rfl (qi.drop (kZ _)) ⟨M,u.2,by rw[hE],qV.refl M,ht,by rw[e _ hE];rfl,λ_=>rfl,rfl⟩
  rw[ja h1] at hE
  by_cases h2:n.who∈u.2.parts
  ·by_cases h3:n.who∈u.2.yes
   ·rw[jb (.inr h3)] at hE
    refine Q.r ?_;(repeat (intro b1;refine Q.r ?_));refine Q.dgo [true,true] [] [] [0,1,2,3,4,5,6,7,8,9,10] ?_;refine Q.rd ?_;refine Q.r ?_;refine Q.dgo [true,true] [7,15] [] [0,1,2,3,4,5,6,7,8,9,10,11,12,13,14,15,16,17] ?_;refine Q.rd ?_;refine D.e rfl rfl rfl ?_;refine S.cr rfl (qP u.2.pa u.2.pc u.2.parts n.who _ ht.p.rd hpl) ?_;rintro _ _ ⟨rfl,rfl⟩;rw[jo h2];refine Q.r ?_;refine Q.rd ?_;refine D.e rfl rfl rfl ?_;refine S.guard rfl ?_;refine S.cr rfl (qP u.2.ya u.2.yc u.2.yes n.who _ ht.y.rd hyl) ?_;rintro _ _ ⟨rfl,rfl⟩;rw[jo h3];refine Q.r ?_;refine Q.rd ?_;refine Q.r ?_;exact N.t rfl (qi.trans (M:=vk u::qp M::L) eG (kZ _)) ⟨M,u.2,by rw[hE],qV.refl M,ht,by rw[e _ hE];rfl,λ_=>rfl,rfl⟩
   ·rw[ja (λh=>h.elim (λh=>h h2) h3)] at hE
    refine Q.r ?_;(repeat (intro b1;refine Q.r ?_));refine Q.dgo [true,true] [] [] [0,1,2,3,4,5,6,7,8,9,10] ?_;refine Q.rd ?_;refine Q.r ?_;refine Q.dgo [true,true] [7,15] [] [0,1,2,3,4,5,6,7,8,9,10,11,12,13,14,15,16,17] ?_;refine Q.rd ?_;refine D.e rfl rfl rfl ?_;refine S.cr rfl (qP u.2.pa u.2.pc u.2.parts n.who _ ht.p.rd hpl) ?_;rintro _ _ ⟨rfl,rfl⟩;rw[jo h2];refine Q.r ?_;refine Q.rd ?_;refine D.e rfl rfl rfl ?_;refine S.guard rfl ?_;refine S.cr rfl (qP u.2.ya u.2.yc u.2.yes n.who _ ht.y.rd hyl) ?_;rintro _ _ ⟨rfl,rfl⟩;rw[jv h3];refine Q.r ?_;refine Q.rd ?_;refine Q.r ?_;refine Q.dgo [true,true] [6,8] [8] [0,1,2,3,4,5,6,7,8] ?_;refine Q.rd ?_;refine D.e rfl rfl rfl ?_;refine S.cr rfl (cO u.2.ya u.2.yc u.2.yes n.who _ ht.y.rd hyl hw.yr) ?_;rintro _ _ ⟨na,nc,rfl,rfl⟩;refine qR na (λM1 hl1 hs1=> ?_);refine Q.r ?_;refine Q.rd ?_;refine Q.dc rfl rfl rfl rfl ?_;refine Q.r ?_;refine Q.rd ?_;refine Q.r ?_;rw[←Kb (l:=u.2.yes) (n:=n.who)];have ht1:=ht.mono hl1;refine N.t rfl (qi.trans (M:=vk (u.1,{u.2 with ya:=na,yc:=nc,yes:=y8 u.2.yes n.who})::qp M1::L) eG (kZ _)) ⟨M1,{u.2 with ya:=na,yc:=nc,yes:=y8 u.2.yes n.who},by rw[hE],hl1,?_,by rw[e _ hE,hT];rfl,λh=>absurd hE h,rfl⟩;exact ⟨ht1.p,(by have h:=hs1;rw[←Kb (l:=u.2.yes) (n:=n.who)] at h;exact h),ht1.k,ht1.o,ht1.ov,ht1.pl,by show (y8 u.2.yes n.who).length≤_;rw[Kb];omega,ht1.kl,ht1.ol⟩
  ·rw[jb (.inl h2)] at hE
   refine Q.r ?_;(repeat (intro b1;refine Q.r ?_));refine Q.dgo [true,true] [] [] [0,1,2,3,4,5,6,7,8,9,10] ?_;refine Q.rd ?_;refine Q.r ?_;refine Q.dgo [true,true] [7,15] [] [0,1,2,3,4,5,6,7,8,9,10,11,12,13,14,15,16,17] ?_;refine Q.rd ?_;refine D.e rfl rfl rfl ?_;refine S.cr rfl (qP u.2.pa u.2.pc u.2.parts n.who _ ht.p.rd hpl) ?_;rintro _ _ ⟨rfl,rfl⟩;rw[jv h2];refine Q.r ?_;refine Q.rd ?_;refine Q.r ?_;exact N.t rfl (qi.trans (M:=vk u::qp M::L) eG (kZ _)) ⟨M,u.2,by rw[hE],qV.refl M,ht,by rw[e _ hE];rfl,λ_=>rfl,rfl⟩
 ·have hE:yT u.2.abs n.abs=if ¬0<u.2.stamp then 10 else if n.who∉u.2.parts∨n.who∈u.2.acked then 1 else 0:=by
   unfold yT;rw[show n.abs.kind=21 from hk]
   by_cases h:0<u.2.stamp<;>simp[h]
  have hT:xX u.2.abs n.abs={u.2.abs with acked:=y8 u.2.acked n.who}:=by
   unfold xX;rw[show n.abs.kind=21 from hk];rfl
  by_cases h1:¬0<u.2.stamp
  ·rw[jb h1] at hE
   refine Q.r ?_;(repeat (intro b1;refine Q.r ?_));refine Q.dgo [true,true] [] [] [0,1,2,3,4,5,6,7,8,9,10] ?_;refine Q.rd ?_;refine Q.r ?_;exact N.t rfl (qi.drop (kZ _)) ⟨M,u.2,by rw[hE],qV.refl M,ht,by rw[e _ hE];rfl,λ_=>rfl,rfl⟩
  rw[ja h1] at hE
  by_cases h2:n.who∈u.2.parts
  ·by_cases h3:n.who∈u.2.acked
   ·rw[jb (.inr h3)] at hE
    refine Q.r ?_;(repeat (intro b1;refine Q.r ?_));refine Q.dgo [true,true] [] [] [0,1,2,3,4,5,6,7,8,9,10] ?_;refine Q.rd ?_;refine Q.r ?_;refine Q.dgo [true,true] [7,15] [] [0,1,2,3,4,5,6,7,8,9,10,11,12,13,14,15,16,17] ?_;refine Q.rd ?_;refine D.e rfl rfl rfl ?_;refine S.cr rfl (qP u.2.pa u.2.pc u.2.parts n.who _ ht.p.rd hpl) ?_;rintro _ _ ⟨rfl,rfl⟩;rw[jo h2];refine Q.r ?_;refine Q.rd ?_;refine D.e rfl rfl rfl ?_;refine S.guard rfl ?_;refine S.cr rfl (qP u.2.ka u.2.kc u.2.acked n.who _ ht.k.rd hkl) ?_;rintro _ _ ⟨rfl,rfl⟩;rw[jo h3];refine Q.r ?_;refine Q.rd ?_;refine Q.r ?_;exact N.t rfl (qi.trans (M:=vk u::qp M::L) eG (kZ _)) ⟨M,u.2,by rw[hE],qV.refl M,ht,by rw[e _ hE];rfl,λ_=>rfl,rfl⟩
   ·rw[ja (λh=>h.elim (λh=>h h2) h3)] at hE
    refine Q.r ?_;(repeat (intro b1;refine Q.r ?_));refine Q.dgo [true,true] [] [] [0,1,2,3,4,5,6,7,8,9,10] ?_;refine Q.rd ?_;refine Q.r ?_;refine Q.dgo [true,true] [7,15] [] [0,1,2,3,4,5,6,7,8,9,10,11,12,13,14,15,16,17] ?_;refine Q.rd ?_;refine D.e rfl rfl rfl ?_;refine S.cr rfl (qP u.2.pa u.2.pc u.2.parts n.who _ ht.p.rd hpl) ?_;rintro _ _ ⟨rfl,rfl⟩;rw[jo h2];refine Q.r ?_;refine Q.rd ?_;refine D.e rfl rfl rfl ?_;refine S.guard rfl ?_;refine S.cr rfl (qP u.2.ka u.2.kc u.2.acked n.who _ ht.k.rd hkl) ?_;rintro _ _ ⟨rfl,rfl⟩;rw[jv h3];refine Q.r ?_;refine Q.rd ?_;refine Q.r ?_;refine Q.dgo [true,true] [6,8] [8] [0,1,2,3,4,5,6,7,8] ?_;refine Q.rd ?_;refine D.e rfl rfl rfl ?_;refine S.cr rfl (cO u.2.ka u.2.kc u.2.acked n.who _ ht.k.rd hkl hw.kr) ?_;rintro _ _ ⟨na,nc,rfl,rfl⟩;refine qR na (λM1 hl1 hs1=> ?_);refine Q.r ?_;refine Q.rd ?_;refine Q.dc rfl rfl rfl rfl ?_;refine Q.r ?_;refine Q.rd ?_;refine Q.r ?_;rw[←Kb (l:=u.2.acked) (n:=n.who)];have ht1:=ht.mono hl1;refine N.t rfl (qi.trans (M:=vk (u.1,{u.2 with ka:=na,kc:=nc,acked:=y8 u.2.acked n.who})::qp M1::L) eG (kZ _)) ⟨M1,{u.2 with ka:=na,kc:=nc,acked:=y8 u.2.acked n.who},by rw[hE],hl1,?_,by rw[e _ hE,hT];rfl,λh=>absurd hE h,rfl⟩;exact ⟨ht1.p,ht1.y,(by have h:=hs1;rw[←Kb (l:=u.2.acked) (n:=n.who)] at h;exact h),ht1.o,ht1.ov,ht1.pl,ht1.yl,by show (y8 u.2.acked n.who).length≤_;rw[Kb];omega,ht1.ol⟩
  ·rw[jb (.inl h2)] at hE
   refine Q.r ?_;(repeat (intro b1;refine Q.r ?_));refine Q.dgo [true,true] [] [] [0,1,2,3,4,5,6,7,8,9,10] ?_;refine Q.rd ?_;refine Q.r ?_;refine Q.dgo [true,true] [7,15] [] [0,1,2,3,4,5,6,7,8,9,10,11,12,13,14,15,16,17] ?_;refine Q.rd ?_;refine D.e rfl rfl rfl ?_;refine S.cr rfl (qP u.2.pa u.2.pc u.2.parts n.who _ ht.p.rd hpl) ?_;rintro _ _ ⟨rfl,rfl⟩;rw[jv h2];refine Q.r ?_;refine Q.rd ?_;refine Q.r ?_;exact N.t rfl (qi.trans (M:=vk u::qp M::L) eG (kZ _)) ⟨M,u.2,by rw[hE],qV.refl M,ht,by rw[e _ hE];rfl,λ_=>rfl,rfl⟩
theorem fG (n:NV)(M:OM)(p:Nat)(j:JG)(L:HL)(hw:WG j)(hn:xN M n)(hN:OkN n)(h0:0≤n.stamp)(hr:qn n.abs=true)(hk:n.kind=17):
  qh kY 151 [vQ p,n.val] (qD M p j::qp M::L) (ZU n.abs M p j L):=by
 unfold ZU;refine wD λmt md ts hq=> ?_
 refine qg Tryz.func151 rfl rfl rfl ?_;have hnp:=hN.p;have hE:=Wm (j:=j) hr (n:=n.abs) hk;unfold py at hE;refine Q.r ?_;(repeat (intro b1;refine Q.r ?_));refine Q.dgo [true,true,true,true,true,true] [] [] [0,1,2,3,4,5,6,7] ?_;refine Q.rd ?_;refine D.y rfl rfl rfl zk (Y.lk false rfl rfl (λw=>Tryz.zeroValue148 w)) ?_;have hlk:=Xk hq.tr n.txn;rw[show n.abs.txn=n.txn from rfl] at hE
 by_cases hs0:n.stamp=0
 ·rw[jb hs0] at hE
  have fin:∀{f:vL} {Q:vm},True:=trivial
  cases hz:qE (α:=Nat×TV) ts n.txn with
  |some u=>
   dsimp only;refine Q.rd ?_;refine Q.r ?_;exact N.t rfl (qi.trans (M:=gP p j mt md::gT mt ts::qF ts::gD md j.done::qp M::L) eG (qS hq)) ⟨M,by rw[hE],qV.refl M,by rw[xo (by rw[hE];decide)]⟩
  |none=>
   dsimp only;refine Q.rd ?_;refine Q.r ?_;exact N.t rfl (qi.trans (M:=gP p j mt md::gT mt ts::qF ts::gD md j.done::qp M::L) eG (qS hq)) ⟨M,by rw[hE],qV.refl M,by rw[xo (by rw[hE];decide)]⟩
 rw[ja hs0] at hE
 cases hz:qE (α:=Nat×TV) ts n.txn with
 |some u=>
  obtain ⟨k,hkk⟩:=VB hz;rw[hz] at hlk;rw[show qE j.tr n.txn=some u.2.abs from hlk] at hE;dsimp only at hE ⊢;have hwt:=hw.lk hlk;have htv:=hq.ok _ (jn hkk);refine Q.rd ?_;refine Q.r ?_;refine yI hkk ?_
  by_cases hst:0<u.2.stamp
  ·rw[jb hst] at hE
   refine Q.r ?_;exact N.t rfl (qi.trans (M:=gP p j mt md::gT mt ts::vk u::qF (ts.eraseIdx k)::gD md j.done::qp M::L) eG (vt hkk hq)) ⟨M,by rw[hE],qV.refl M,by rw[xo (by rw[hE];decide)]⟩
  rw[ja hst] at hE;have hS:=J3 hE hk;rw[show n.abs.txn=n.txn from rfl,show qE j.tr n.txn=some u.2.abs from hlk] at hS;dsimp only[Option.getD_some] at hS;refine Q.r ?_;refine Q.dgo [true,false,true,true] [11] [] [0,1,2,3,4,5,6,7,8,9,10,11] ?_;refine Q.rd ?_;refine D.e rfl rfl rfl ?_;refine S.mu (r:=U64) (u:=n.stamp) rfl rfl rfl ?_;refine Q.r ?_;refine Q.rd ?_;refine Q.r ?_;refine Q.dgo [false,true,true] [10] [10] [0,1,2,3,4,5,6,7,8,9,10] ?_;refine Q.rd ?_;refine Q.dc rfl rfl rfl rfl ?_;refine Q.r ?_;refine Q.rd ?_;refine Q.r ?_;have hq2:Vo M {j with tr:=qN j.tr n.txn {u.2.abs with stamp:=n.stamp},done:=qN j.done u.2.batch n.stamp,last:=max j.last n.stamp} (ts.set k (n.txn,u.1,{u.2 with stamp:=n.stamp})):=hq.upd hw.kt hkk (t':={u.2 with stamp:=n.stamp}) ⟨htv.p,htv.y,htv.k,htv.o,htv.ov,htv.pl,htv.yl,htv.kl,htv.ol⟩ rfl rfl;refine N.t rfl (qi.trans (M:=gP p {j with tr:=qN j.tr n.txn {u.2.abs with stamp:=n.stamp},done:=qN j.done u.2.batch n.stamp,last:=max j.last n.stamp} mt md::gT mt ts::vk (u.1,{u.2 with stamp:=n.stamp})::qF (ts.eraseIdx k)::gD md (qN j.done u.2.batch n.stamp)::qp M::L) eG (rz hkk hq2)) ⟨M,by rw[hE],qV.refl M,by rw[hS]⟩
 |none=>
  rw[hz] at hlk;rw[show qE j.tr n.txn=none from hlk] at hE;dsimp only at hE ⊢;have hS:=J3 hE hk;rw[show n.abs.txn=n.txn from rfl,show qE j.tr n.txn=none from hlk] at hS;dsimp only[Option.getD_none] at hS;have hput:∀v:Nat×TV,qN ts n.txn v=ts++[(n.txn,v)]:=λv=>vJ (dV hq.tr hlk)
  refine Q.rd ?_;refine Q.r ?_;refine Q.dgo [true] [6,9] [] [0,1,2,3,4,5,6,7,8,9,10] ?_;refine Q.rd ?_;refine D.e rfl rfl rfl ?_;refine S.cr rfl (yF n.pa n.pc n.parts _ hn.rd.p hnp) ?_;rintro _ _ ⟨pa,pc,rfl,rfl⟩;refine qR pa (λM1 hl1 hs1=> ?_);refine Q.r ?_;refine Q.rd ?_;(repeat (intro b1;refine Q.rd ?_));refine Q.r ?_;refine Q.dgo [true,false,false,true] [7] [] [0,1,2,3,4,5,6,7] ?_;refine Q.rd ?_;refine D.e rfl rfl rfl ?_;refine S.mu (r:=XI) (u:=(b1,(⟨n.txn,n.batch,n.stamp,0,0,pa,pc,n.parts,none,0,[],none,0,[],none,0,[]⟩:TV))) rfl rfl rfl ?_;rw[hput];refine Q.r ?_;refine Q.rd ?_;refine Q.r ?_;refine Q.dgo [true,true,true] [11] [] [0,1,2,3,4,5,6,7,8,9,10,11] ?_;refine Q.rd ?_;refine D.e rfl rfl rfl ?_;refine S.mu (g:=U64) (q:=n.batch) (r:=U64) (u:=n.stamp) rfl rfl rfl ?_;refine Q.r ?_;refine Q.rd ?_;refine Q.r ?_;refine Q.dgo [true,true,true] [10] [10] [0,1,2,3,4,5,6,7,8,9,10] ?_;refine Q.rd ?_;refine Q.dc rfl rfl rfl rfl ?_;refine Q.r ?_;refine Q.rd ?_;refine Q.r ?_;have hq2:Vo M1 {j with tr:=qN j.tr n.txn {jAz n.abs with stamp:=n.stamp},done:=qN j.done n.batch n.stamp,last:=max j.last n.stamp} (ts++[(n.txn,b1,⟨n.txn,n.batch,n.stamp,0,0,pa,pc,n.parts,none,0,[],none,0,[],none,0,[]⟩)]):=(hq.mono hl1).new hlk ⟨hs1,qI.nil0,qI.nil0,qI.nil0,λo ho=>(by cases ho),hnp,jw _,jw _,jw _⟩ rfl rfl;refine N.t rfl (qi.trans (M:=vk (b1,(⟨n.txn,n.batch,n.stamp,0,0,pa,pc,n.parts,none,0,[],none,0,[],none,0,[]⟩:TV))::qF ts::gP p {j with tr:=qN j.tr n.txn {jAz n.abs with stamp:=n.stamp},done:=qN j.done n.batch n.stamp,last:=max j.last n.stamp} mt md::gT mt (ts++[(n.txn,b1,⟨n.txn,n.batch,n.stamp,0,0,pa,pc,n.parts,none,0,[],none,0,[],none,0,[]⟩)])::gD md (qN j.done n.batch n.stamp)::qp M1::L) eG (qi.trans (cY ts (n.txn,b1,_)) (qi.trans eG (qS (p:=p) (mt:=mt) (md:=md) (L:=qp M1::L) hq2)))) ⟨M1,by rw[hE],hl1,by rw[hS]⟩
theorem WM {ts:List TB}(hk:qm ts){k:Nat}{u:TB}(h:ts[k]? =some u):qO ts u.1=ts.eraseIdx k:=by
 have hkl:k<ts.length:=(jm.1 h).1;have he:=(jm.1 h).2
 rcases wJ ts hk u.1 with ⟨p,a,q,hpq,hp,hqn⟩|hn
 ·have hkp:k=p.length:=by
   rw[hpq] at h
   rcases Nat.lt_trichotomy k p.length with h1|h1|h1
   ·rw[ko h1] at h
    exact absurd rfl (hp _ (jn h))
   ·exact h1
   ·rw[kG zo] at h
    obtain ⟨d,hd⟩:∃d,k - p.length=d+1:=⟨k - p.length - 1,by omega⟩;rw[hd,jg] at h;exact absurd rfl (hqn _ (jn h))
  rw[hpq,Qt hp hqn,hkp,List.eraseIdx_append_of_length_le (jz _),Nat.sub_self,List.eraseIdx_cons_zero]
 ·exact absurd rfl (hn u (jn h))
theorem cW {ts:List TB}{tr:List (Int×TR)}(h:ts.map (λu=>(u.1,u.2.2.abs))=tr)(hk:qm tr):qm ts:=by
 have:tr.map (·.1)=ts.map (·.1):=by rw[←h,kE];rfl
 unfold qm at*;rw[←this];exact hk
theorem Vo.del {M:OM}{j j':JG}{ts:List TB}(h:Vo M j ts){x:Int}(hs:j'.shards=j.shards)(htr:j'.tr=qO j.tr x):Vo M j' (qO ts x):=
 ⟨by rw[hs];exact h.s1,by rw[hs];exact h.s2,by rw[htr,←h.tr];exact jCV (λu:Nat×TV=>u.2.abs) ts x,λu hu=>h.ok u (jB.1 hu).1⟩
theorem fI (n:NV)(M:OM)(p:Nat)(j:JG)(L:HL)(hw:WG j)(hn:xN M n)(hN:OkN n)(hT:zB M)(hu:ZX n)(hu2:n.txn<18446744073709551616)
  (hR:n.kind=16→qn n.abs=true→∀L:HL,qh kY 149 [vQ p,.int .u64 n.mark] (qD M p j::qp M::L) (ZU n.abs M p j L)):
  qh kY 78 [vQ p,n.val] (qD M p j::qp M::L) (ZU n.abs M p j L):=by
 unfold ZU at*;refine qg Tryz.func78 rfl rfl rfl ?_;refine Q.r ?_;(repeat (intro b1;refine Q.r ?_));refine S.cr rfl (JL n _ hn.rd hN hT.rd hu.kind) ?_;rintro _ _ ⟨rfl,rfl⟩
 cases hr:qn n.abs with
 |false=>
  have hE:qW j n.abs=4:=by unfold qW;rw[jb hr]
  refine Q.r ?_;exact N.t rfl (show qi _ (qD M p j::qp M::L) by exact eG) ⟨M,by rw[hE],qV.refl M,by rw[xo (by rw[hE];decide)]⟩
 |true=>
 refine Q.r ?_;refine V0 p (λmt md ts hq=> ?_);have hlk:=Xk hq.tr n.txn;revert b1;intro b3;refine vo (σ:=Unit) (λ_=> [(0,vQ p),(3,.pointer (some ⟨b3,0,none⟩)),(5,match qE (α:=Nat×TV) ts n.txn with|none=>.pointer none|some u=>XI u)])
  (λ_=>pt b3 (cl n.cells 82)::gP p j mt md::gT mt ts::qF ts::gD md j.done::qp M::L) (λ_=>True) ?_ ?_
 ·refine Q.dgo [true,true,true,true,true,true] [] [] [0,1,2,3,4,5,6,7] ?_
  refine Q.rd ?_;refine D.y rfl rfl rfl zk (Y.lk false rfl rfl (λw=>Tryz.zeroValue148 w)) ?_
  cases hz:qE (α:=Nat×TV) ts n.txn with
  |some u=>
   dsimp only;refine Q.rd ?_;exact N.tn ⟨(),zt,by (try dsimp only);exact eG,trivial⟩
  |none=>
   dsimp only;refine Q.rd ?_;exact N.tn ⟨(),zt,by (try dsimp only);exact eG,trivial⟩
 rintro _ _
 by_cases h16:n.kind=16
 ·refine Q.r ?_
  refine qo (Y2 (p:=p) (mt:=mt) (md:=md) (ts:=ts) hq) ?_;refine S.cg p rfl (hR h16 hr _) ?_;rintro _ _ ⟨M1,rfl,hl,rfl⟩;refine Q.r ?_;exact N.t rfl (show qi _ (qD M1 p (ve j n.abs)::qp M1::L) by exact eG) ⟨M1,rfl,hl,rfl⟩
 by_cases h19:n.kind=19
 ·refine Q.r ?_
  refine qo (Y2 (p:=p) (mt:=mt) (md:=md) (ts:=ts) hq) ?_;refine S.cg p rfl (mJ n M p j _ hw hn hN hu.txn hu2 hr h19) ?_;rintro _ _ ⟨M1,rfl,hl,rfl⟩;refine Q.r ?_;exact N.t rfl (show qi _ (qD M1 p (ve j n.abs)::qp M1::L) by exact eG) ⟨M1,rfl,hl,rfl⟩
 by_cases h17:n.kind=17
 ·refine Q.r ?_
  refine qo (Y2 (p:=p) (mt:=mt) (md:=md) (ts:=ts) hq) ?_;refine S.cg p rfl (fG n M p j _ hw hn hN hu.stamp hr h17) ?_;rintro _ _ ⟨M1,rfl,hl,rfl⟩;refine Q.r ?_;exact N.t rfl (show qi _ (qD M1 p (ve j n.abs)::qp M1::L) by exact eG) ⟨M1,rfl,hl,rfl⟩
 have hE0:∀E,(¬(n.kind=20∨n.kind=21∨n.kind=18∨n.kind=22)→E=4)→(n.kind=20∨n.kind=21∨n.kind=18∨n.kind=22→qE j.tr n.txn=none→E=6)→True:=λ_ _ _=>trivial
 by_cases hk:n.kind=20∨n.kind=21∨n.kind=18∨n.kind=22
 ·cases hz:qE (α:=Nat×TV) ts n.txn with
  |none=>
   rw[hz] at hlk;have hlk1:qE j.tr n.txn=none:=hlk;have hE:qW j n.abs=6:=by
    unfold qW;rw[ja (by rw[hr];decide),ja (show ¬n.abs.kind=16 from h16),ja (show ¬n.abs.kind=19 from h19),ja (show ¬n.abs.kind=17 from h17),jb (show n.abs.kind=20∨n.abs.kind=21∨n.abs.kind=18∨n.abs.kind=22 from hk),show qE j.tr n.abs.txn=none from hlk1]
   have fin:qi (pt b3 (cl n.cells 82)::gP p j mt md::gT mt ts::qF ts::gD md j.done::qp M::L) (qD M p j::qp M::L):=qi.drop (qS hq);dsimp only
   rcases hk with hk|hk|hk|hk
   ·refine Q.r ?_
    exact N.t rfl fin ⟨M,by rw[hE],qV.refl M,by rw[xo (by rw[hE];decide)]⟩
   ·refine Q.r ?_
    exact N.t rfl fin ⟨M,by rw[hE],qV.refl M,by rw[xo (by rw[hE];decide)]⟩
   ·refine Q.r ?_
    exact N.t rfl fin ⟨M,by rw[hE],qV.refl M,by rw[xo (by rw[hE];decide)]⟩
   ·refine Q.r ?_
    exact N.t rfl fin ⟨M,by rw[hE],qV.refl M,by rw[xo (by rw[hE];decide)]⟩
  |some u=>
   obtain ⟨k,hkk⟩:=VB hz;rw[hz] at hlk;have hlk1:qE j.tr n.txn=some u.2.abs:=hlk;have hwt:=hw.lk hlk1;have htv:=hq.ok _ (jn hkk);dsimp only
   by_cases hk1:n.kind=20∨n.kind=21
   ·have hE:=WS (j:=j) hr (show n.abs.kind=20∨n.abs.kind=21 from hk1)
    rw[show qE j.tr n.abs.txn=some u.2.abs from hlk1] at hE;dsimp only at hE;have key:∀(L2:HL) (r:Value) (M1:OM) (t':TV),r=.int .i64 (yT u.2.abs n.abs)→qV M M1→bI M1 t'→t'.abs=(if yT u.2.abs n.abs=0 then xX u.2.abs n.abs else u.2.abs)→(yT u.2.abs n.abs≠0→t'=u.2)→
      qi (vk (u.1,t')::qp M1::pt b3 (cl n.cells 82)::gP p j mt md::gT mt ts::qF (ts.eraseIdx k)::gD md j.done::L2) (qD M1 p (ve j n.abs)::qp M1::L2):=by
     intro L2 r M1 t' _ hl ht hta hne
     by_cases hs:yT u.2.abs n.abs=0
     ·rw[jb hs] at hta
      rw[cF (by rw[hE];exact hs) (show n.abs.kind=20∨n.abs.kind=21 from hk1) (show qE j.tr n.abs.txn=some u.2.abs from hlk1)];have hq2:Vo M1 {j with tr:=qN j.tr n.abs.txn (xX u.2.abs n.abs)} (ts.set k (n.txn,u.1,t')):=(hq.mono hl).upd hw.kt hkk ht rfl (by rw[hta]);exact qi.trans (M:=gP p {j with tr:=qN j.tr n.abs.txn (xX u.2.abs n.abs)} mt md::gT mt ts::vk (u.1,t')::qF (ts.eraseIdx k)::gD md j.done::qp M1::L2) eG (rz hkk hq2)
     ·rw[xo (by rw[hE];exact hs),hne hs]
      exact qi.trans (M:=gP p j mt md::gT mt ts::vk u::qF (ts.eraseIdx k)::gD md j.done::qp M1::L2) eG (vt hkk (hq.mono hl))
    rcases hk1 with hk1|hk1
    ·refine Q.r ?_
     refine yI hkk ?_;refine S.c2 (A:=vk u) (B:=qp M) rfl (Zu n u n.txn M _ htv hwt (.inl hk1)) ?_;rintro _ _ ⟨M1,t',rfl,hl,ht,hta,hne,rfl⟩;refine Q.r ?_;exact N.t rfl (qi.trans eG (key L (.int .i64 (yT u.2.abs n.abs)) M1 t' rfl hl ht hta hne)) ⟨M1,by rw[hE],hl,rfl⟩
    ·refine Q.r ?_
     refine yI hkk ?_;refine S.c2 (A:=vk u) (B:=qp M) rfl (Zu n u n.txn M _ htv hwt (.inr hk1)) ?_;rintro _ _ ⟨M1,t',rfl,hl,ht,hta,hne,rfl⟩;refine Q.r ?_;exact N.t rfl (qi.trans eG (key L (.int .i64 (yT u.2.abs n.abs)) M1 t' rfl hl ht hta hne)) ⟨M1,by rw[hE],hl,rfl⟩
   ·have hk2:n.kind=18∨n.kind=22:=by omega
    have hE:=jDq (j:=j) hr (show n.abs.kind=18∨n.abs.kind=22 from hk2);rw[show qE j.tr n.abs.txn=some u.2.abs from hlk1,show n.abs.kind=n.kind from rfl] at hE;dsimp only at hE
    rcases hk2 with hk2|hk2
    ·by_cases hst:¬0<u.2.stamp
     ·have hE1:qW j n.abs=10:=by rw[hE,hk2,jb (by simp[hst])]
      refine Q.r ?_;refine QM hkk ?_;refine Q.dgo [true,false,true] [] [] [0,1,2,3,4,5,6,7,8,9,10] ?_;refine Q.rd ?_;refine Q.r ?_;exact N.t rfl (qi.trans (M:=gP p j mt md::gT mt ts::vk u::qF (ts.eraseIdx k)::gD md j.done::qp M::L) eG (vt hkk hq)) ⟨M,by rw[hE1],qV.refl M,by rw[xo (by rw[hE1];decide)]⟩
     ·have hE1:qW j n.abs=0:=by rw[hE,hk2,ja (by simp[hst])]
      have hS:=Xr hE1 (show n.abs.kind=18∨n.abs.kind=22 from .inl hk2);refine Q.r ?_;refine QM hkk ?_;refine Q.dgo [true,false,true] [] [] [0,1,2,3,4,5,6,7,8,9,10] ?_;refine Q.rd ?_;refine Q.r ?_;refine Q.dgo [false,true,false,true] [6] [] [0,1,2,3,4,5,6] ?_;refine Q.rd ?_;refine D.e rfl rfl rfl ?_;refine S.dl (g:=U64) (q:=n.txn) rfl rfl ?_;refine Q.r ?_;refine Q.rd ?_;refine Q.r ?_;have hq2:Vo M {j with tr:=qO j.tr n.txn} (qO ts n.txn):=hq.del rfl rfl;refine N.t rfl (qi.trans (M:=gP p {j with tr:=qO j.tr n.txn} mt md::gT mt (qO ts n.txn)::qF (qO ts n.txn)::gD md j.done::qp M::L) ?_ (qS hq2)) ⟨M,by rw[hE1],qV.refl M,by rw[hS]⟩;rw[show qF (qO ts n.txn)=qF (ts.eraseIdx k) from jj qF (WM (cW hq.tr hw.kt) hkk)];exact eG
    ·by_cases hst:0<u.2.stamp
     ·have hE1:qW j n.abs=10:=by rw[hE,hk2,jb (by simp[hst])]
      refine Q.r ?_;refine QM hkk ?_;refine Q.dgo [true,false,true] [] [] [0,1,2,3,4,5,6,7,8,9,10] ?_;refine Q.rd ?_;refine Q.r ?_;exact N.t rfl (qi.trans (M:=gP p j mt md::gT mt ts::vk u::qF (ts.eraseIdx k)::gD md j.done::qp M::L) eG (vt hkk hq)) ⟨M,by rw[hE1],qV.refl M,by rw[xo (by rw[hE1];decide)]⟩
     ·have hE1:qW j n.abs=0:=by rw[hE,hk2,ja (by simp[hst])]
      have hS:=Xr hE1 (show n.abs.kind=18∨n.abs.kind=22 from .inr hk2);refine Q.r ?_;refine QM hkk ?_;refine Q.dgo [true,false,true] [] [] [0,1,2,3,4,5,6,7,8,9,10] ?_;refine Q.rd ?_;refine Q.r ?_;refine Q.dgo [false,true,false,true] [6] [] [0,1,2,3,4,5,6] ?_;refine Q.rd ?_;refine D.e rfl rfl rfl ?_;refine S.dl (g:=U64) (q:=n.txn) rfl rfl ?_;refine Q.r ?_;refine Q.rd ?_;refine Q.r ?_;have hq2:Vo M {j with tr:=qO j.tr n.txn} (qO ts n.txn):=hq.del rfl rfl;refine N.t rfl (qi.trans (M:=gP p {j with tr:=qO j.tr n.txn} mt md::gT mt (qO ts n.txn)::qF (qO ts n.txn)::gD md j.done::qp M::L) ?_ (qS hq2)) ⟨M,by rw[hE1],qV.refl M,by rw[hS]⟩;rw[show qF (qO ts n.txn)=qF (ts.eraseIdx k) from jj qF (WM (cW hq.tr hw.kt) hkk)];exact eG
 ·have hE:qW j n.abs=4:=by
   unfold qW;rw[ja (by rw[hr];decide),ja (show ¬n.abs.kind=16 from h16),ja (show ¬n.abs.kind=19 from h19),ja (show ¬n.abs.kind=17 from h17),ja (show ¬(n.abs.kind=20∨n.abs.kind=21∨n.abs.kind=18∨n.abs.kind=22) from hk)]
  have k1:¬n.kind=20:=λh=>hk (.inl h)
  have k2:¬n.kind=21:=λh=>hk (.inr (.inl h))
  have k3:¬n.kind=18:=λh=>hk (.inr (.inr (.inl h)))
  have k4:¬n.kind=22:=λh=>hk (.inr (.inr (.inr h)))
  refine Q.r ?_;exact N.t rfl (qi.drop (qS hq)) ⟨M,by rw[hE],qV.refl M,by rw[xo (by rw[hE];decide)]⟩
theorem pT (x:Int)(u:Nat×TV)(L:HL):qh kY 197 [.int .u64 x,XI u] (vk u::L) (λr L'=>r=.bool (decide (u.2.stamp=0))∧L'=vk u::L):=by
 refine qg Tryz.func197 rfl rfl rfl ?_;refine Q.r ?_;exact N.t rfl eG ⟨rfl,rfl⟩
def zz (done:List Int)(u:TB):Bool:= !(decide (u.1∈done)&&decide (u.2.2.stamp=0))
theorem jCx (ts:List TB):ts.filter (zz [])=ts:=List.filter_eq_self.2 λu _=>by simp[zz]
theorem lq {ts:List TB}(hk:qm ts){u v:TB}(hu:u∈ts)(hv:v∈ts)(e:u.1=v.1):u=v:=by
 obtain ⟨i,hi⟩:=List.mem_iff_getElem?.1 hu;obtain ⟨k,hj⟩:=List.mem_iff_getElem?.1 hv;have hij:i=k:=QT hk (x:=u.1) (by rw[jZ,hi];rfl) (by rw[jZ,hj,e];rfl);subst hij;rw[hi] at hj
 injection hj
theorem jAm {ts:List TB}(hk:qm ts){done:List Int}{u:TB}(hu:u∈ts)(hs:¬u.2.2.stamp=0):ts.filter (zz (done++[u.1]))=ts.filter (zz done):=by
 refine List.filter_congr λv hv=> ?_
 unfold zz
 by_cases h:v.1=u.1
 ·rw[lq hk hv hu h];simp[hs]
 ·simp[h]
theorem jEt {ts:List TB}(hk:qm ts){done:List Int}{u:TB}(hu:u∈ts)(hs:u.2.2.stamp=0):ts.filter (zz (done++[u.1]))=qO (ts.filter (zz done)) u.1:=by
 unfold qO;rw[List.filter_filter];refine List.filter_congr λv hv=> ?_
 unfold zz
 by_cases h:v.1=u.1
 ·rw[lq hk hv hu h];simp[hs]
 ·simp[h]
theorem jCy {ts:List TB}{done:List Int}(h:∀u∈ts.filter (zz done),u.1∈done):ts.filter (zz done)=ts.filter (λu=> !decide (u.2.2.stamp=0)):=by
 refine List.filter_congr λv hv=> ?_
 by_cases hs:v.2.2.stamp=0
 ·cases hk:zz done v with
  |false=>simp[hs]
  |true=>
   have:=h v (jB.2 ⟨hv,hk⟩);unfold zz at hk
   simp[this,hs] at hk
 ·simp[zz,hs]
theorem lu {ts:List TB}(hk:qm ts)(p:TB→Bool):qm (ts.filter p):=by
 unfold qm at*;exact List.Nodup.sublist (List.Sublist.map _ (List.filter_sublist ..)) hk
theorem jA7 (mt:Nat)(ts:List TB)(hk:qm ts)(L:HL):
  qh kY 196 [.map (some mt),.func (.func 197) #[] #[]] (gT mt ts::qF ts::L)
   (λ_ L'=>L'=gT mt (ts.filter λu=> !decide (u.2.2.stamp=0))::qF (ts.filter λu=> !decide (u.2.2.stamp=0))::L):=by
 refine qg Tryz.func196 rfl rfl rfl ?_;refine Q.r ?_;refine S.rg rfl (λr=> ?_);refine qo jEu ?_;refine Q.r ?_;refine ql (σ:=List Int×Option Int) (λ_=> [(0,.map (some mt)),(1,.func (.func 197) #[] #[]),(7,.pointer (some ⟨r,0,none⟩))])
  (λs=>pi U64 XI mt r (ts.filter (zz s.1)) s.1 s.2::qF (ts.filter (zz s.1))::L) (λs=>s.1.Nodup∧∀x∈s.1,x∈ts.map (·.1)) (λs=>ts.length - s.1.length) ([],none) zt (by rw[jCx];exact eG) ⟨List.nodup_nil,λ_ h=>by cases h⟩ ?_
 rintro ⟨done,last⟩ ⟨hd1,hd2⟩;dsimp only at hd1 hd2 ⊢;refine Q.r ?_;refine S.nxK rfl (λhend=> ?_) (λu hu hn=> ?_)
 ·have he:=jCy (λu hu=>hend u hu)
  refine Q.r ?_;rw[he];refine N.n0 RV.nil jEv ?_;rfl
 ·obtain ⟨k,hkk⟩:=List.mem_iff_getElem?.1 hu
  have hut:=(jB.1 hu).1;have hnd:(done++[u.1]).Nodup:=List.nodup_append.2 ⟨hd1,by simp,λx hx y hy=>by simp at hy;subst hy;exact λe=>hn (e▸hx)⟩;have hmm:∀x∈done++[u.1],x∈ts.map (·.1):=λx hx=>by
   rcases jy.1 hx with h|h
   ·exact hd2 x h
   ·rw[ji.1 h];exact jA (f:=λu:TB=>u.1) hut
  have hlen:(done++[u.1]).length≤ts.length:=by
   have:=List.Nodup.length_le_of_subset hnd (λx hx=>hmm x hx)
   rwa [jf] at this
  rw[jc,kT] at hlen;refine Q.r ?_;refine S.y (Y.enK rfl hu) ?_;refine Q.r ?_;refine yI hkk ?_;refine S.crF (fs:=[]) (cs:=[]) rfl rfl (pT u.1 u.2 _) ?_;rintro _ _ ⟨rfl,rfl⟩
  by_cases hs:u.2.2.stamp=0
  ·rw[jo hs]
   refine Q.r ?_;refine S.dlK r (g:=U64) (q:=u.1) rfl rfl ?_;refine Q.r ?_;refine ⟨(done++[u.1],none),zt,?_,⟨hnd,hmm⟩,by dsimp only;rw[jc,kT];omega⟩;dsimp only;rw[jEt hk hut hs,show qF (qO (ts.filter (zz done)) u.1)=qF ((ts.filter (zz done)).eraseIdx k) from jj qF (WM (lu hk _) hkk)];exact eG
  ·rw[jv hs]
   refine Q.r ?_;refine ⟨(done++[u.1],some u.1),zt,?_,⟨hnd,hmm⟩,by dsimp only;rw[jc,kT];omega⟩;dsimp only;rw[jAm hk hut hs];exact qi.trans (zX hkk) eG
theorem mG (n:NA)(M:OM)(p:Nat)(j:JG)(L:HL)(hw:WG j)(hr:qn n=true)(hk:n.kind=16):
  qh kY 149 [vQ p,.int .u64 n.mark] (qD M p j::qp M::L) (ZU n M p j L):=by
 unfold ZU;refine wD λmt md ts hq=> ?_
 refine qg Tryz.func149 rfl rfl rfl ?_;have hE:=fu (j:=j) hr hk
 by_cases hle:n.mark≤j.epoch
 ·rw[jb hle] at hE
  refine Q.r ?_;exact N.t rfl (qi.trans (M:=gP p j mt md::gT mt ts::qF ts::gD md j.done::qp M::L) eG (qS hq)) ⟨M,by rw[hE],qV.refl M,by rw[xo (by rw[hE];decide)]⟩
 ·rw[ja hle] at hE
  refine Q.r ?_;refine S.c2 (A:=gT mt ts) (B:=qF ts) rfl (jA7 mt ts (cW hq.tr hw.kt) _) ?_;rintro _ _ rfl;refine Q.r ?_;have hq2:Vo M {j with epoch:=n.mark,seq:=0,tr:=j.tr.filter λu=> !decide (u.2.stamp=0)} (ts.filter λu=> !decide (u.2.2.stamp=0)):=⟨hq.s1,hq.s2,by rw[←hq.tr,List.filter_map];rfl,λu hu=>hq.ok u (jB.1 hu).1⟩;refine N.t rfl (qi.trans (M:=gP p {j with epoch:=n.mark,seq:=0,tr:=j.tr.filter λu=> !decide (u.2.stamp=0)} mt md::gT mt (ts.filter λu=> !decide (u.2.2.stamp=0))::qF (ts.filter λu=> !decide (u.2.2.stamp=0))::gD md j.done::qp M::L) eG (qS hq2)) ⟨M,by rw[hE],qV.refl M,by rw[WV hE hk]⟩
theorem JN (n:NV)(M:OM)(p:Nat)(j:JG)(L:HL)(hw:WG j)(hn:xN M n)(hN:OkN n)(hT:zB M)(hu:ZX n)(hu2:n.txn<18446744073709551616):
  qh kY 78 [vQ p,n.val] (qD M p j::qp M::L) (ZU n.abs M p j L):=
 fI n M p j L hw hn hN hT hu hu2 (λhk hr L=>mG n.abs M p j L hw hr hk)
abbrev TV.c8 (t:TV):List Value:=[.int .u64 t.txn,.int .u64 t.batch,.int .u64 t.stamp,.int .u64 t.after,.int .i64 t.who,.slice t.pa t.parts.length t.pc,.slice t.ya t.yes.length t.yc,.slice t.ka t.acked.length t.kc]
theorem di {j:JG}{x:Int}(h:x∈vq (j.tr.map (·.1)))(hk:qm j.tr):∃t,qE j.tr x=some t:=by
 have h1:x∈j.tr.map (·.1):=(vE _).mem_iff.1 h;obtain ⟨u,hu,rfl⟩:=jM.1 h1;exact ⟨u.2,(vp hk).2 hu⟩
def jFg (j:JG)(xs:List Int):List TR:=(xs.filterMap λx=>qE j.tr x).filter λt=>decide (t.stamp=0)
def jHo (j:JG):PG:=⟨[],(jFg j (vq (j.tr.map (·.1)))).map λt=>wK t.txn,(jFg j (vq (j.tr.map (·.1)))).flatMap λt=>zY t 0 12,[],[]⟩
theorem jAf (xs:List (Int×NA)):(xs.flatMap zJ).all (·.oneCell')=true:=by
 rw[List.all_eq_true];intro v hv;obtain ⟨o,_,ho⟩:=List.mem_flatMap.1 hv;simp only[zJ,j9,List.mem_nil_iff,or_false] at ho
 rcases ho with rfl|rfl|rfl|rfl|rfl|rfl|rfl|rfl|rfl|rfl|rfl|rfl|rfl|rfl|rfl|rfl|rfl<;>rfl
section
variable {n : Nat} {ops rest : List Oper} {cd : Code} {Q : vm} {f : vL} {L L0 : HL} {M : OM}
end
theorem OkN.right {n:NV}(h:qn n.abs=true):OkN n:=by
 have hv:∀v:List Int,ws v=true→v.length≤1000000:=by
  intro v hv;unfold ws wQ at hv;simp only[kU,jF,jS] at hv;omega
 unfold qn vV at h;simp only[jF,kL,Bool.or_eq_false_iff,j5,Bool.not_eq_false'] at h;obtain ⟨_,⟨⟨⟨⟨_,⟨⟨h1,h2⟩,h3⟩,h4⟩,_⟩,h5⟩,h6⟩⟩:=h;have h1':n.parts.length≤1000000:=by
  have h:¬4<n.parts.length:=h1;omega
 have h2':n.ops.length≤1000000:=by
  have h:¬16<(n.ops.map OV.abs).length:=h2;rw[jf] at h;omega
 have h3':n.hits.length≤1000000:=by
  have h:¬16<(n.hits.map HV.abs).length:=h3;rw[jf] at h;omega
 refine ⟨h1',h2',λo ho=> ?_,hv _ h4,h3',λo ho=> ?_⟩
 ·have:=List.any_eq_false.1 h5 o.abs (jA (f:=OV.abs) ho)
  unfold xv at this;simp only[kU,jS,kL,not_or,Bool.not_eq_false] at this;exact hv _ this.2
 ·have:=List.any_eq_false.1 h6 o.abs (jA (f:=HV.abs) ho)
  unfold yd at this;simp only[kU,jS,kL,not_or,Bool.not_eq_false] at this;exact hv _ (by unfold ws;rw[this.2];simp)
theorem ZX.right {n:NV}(h:qn n.abs=true)(hz:NZ n.abs):ZX n:=by
 have hk:1≤n.kind∧n.kind≤22:=by
  unfold qn at h;simp only[jF,jS] at h;exact h.1.1
 exact ⟨by omega,hz.t0,hz.s,hz.m,hz.a⟩
theorem KF {j:JG}{n:NA}(h:qW j n=0):qn n=true:=by
 cases hr:qn n with
 |true=>rfl
 |false=>unfold qW at h;rw[jb hr] at h;cases h
theorem dQ {α β:Type}{f:α→β}{l:List α}{b:β}(h:l.map f=[b]):∃x,l=[x]∧f x=b:=by
 match l,h with
 | [x],h=>exact ⟨x,rfl,List.head_eq_of_cons_eq h⟩
theorem jEl {α β:Type}{f:α→β}{l:List α}{b c:β}(h:l.map f=[b,c]):∃x y,l=[x,y]∧f x=b∧f y=c:=by
 match l,h with
 | [x,y],h=>exact ⟨x,y,rfl,List.head_eq_of_cons_eq h,List.head_eq_of_cons_eq (List.tail_eq_of_cons_eq h)⟩
abbrev jHF (t:TV):Int×TR:=(t.txn,t.abs)
structure okC (t:TV):Prop where
 y:t.yes.length≤t.yc
 k:t.acked.length≤t.kc
structure RG (M:OM)(j:JG)(ta:OA)(tc:Nat)(ts:List TV)(da:OA)(ds:List (Int×Int)):Prop where
 s1:1≤j.shards
 s2:j.shards≤4
 tp:(ts.map jHF).Perm j.tr
 sT:(ts.map (·.txn)).Pairwise (· < ·)
 ok:∀t∈ts,bI M t
 oc:∀t∈ts,okC t
 tS:qI M ta ts.length 9 (ts.flatMap TV.cells)
 tc:ts.length≤tc
 dp:ds.Perm j.done
 sD:(ds.map (·.1)).Pairwise (· < ·)
 dS:qI M da ds.length 2 (ds.flatMap dC)
theorem RG.mono {M M':OM}{j:JG}{ta da:OA}{tc:Nat}{ts:List TV}{ds:List (Int×Int)}(h:RG M j ta tc ts da ds)(hl:qV M M'):RG M' j ta tc ts da ds:=
 ⟨h.s1,h.s2,h.tp,h.sT,λt ht=>(h.ok t ht).mono hl,h.oc,h.tS.mono hl,h.tc,h.dp,h.sD,h.dS.mono hl⟩
structure RGX where
 ta:OA
 tc:Nat
 ts:List TV
 da:OA
 dc:Nat
 ds:List (Int×Int)
section
variable {n : Nat} {ops rest : List Oper} {cd : Code} {Q : vm} {f : vL} {L L0 : HL} {M : OM} {j : JG}
end
section
variable {M M' : OM} {j j' : JG} {ta ta' da da' : OA} {tc tc' : Nat} {ts ts' : List TV} {ds ds' : List (Int × Int)}
theorem RG.len (h:RG M j ta tc ts da ds):ts.length=j.tr.length:=by have:=h.tp.length_eq;rwa [jf] at this
theorem RG.has (h:RG M j ta tc ts da ds)(hk:qm j.tr){u:TV}(hu:u∈ts):qE j.tr u.txn=some u.abs:=
 (vp hk).2 (h.tp.mem_iff.1 (jM.2 ⟨u,hu,rfl⟩))
theorem RG.no (h:RG M j ta tc ts da ds){x:Int}(hn:∀u∈ts,u.txn≠x):qE j.tr x=none:=by
 refine wX λw hw=> ?_
 obtain ⟨u,hu,rfl⟩:=jM.1 (h.tp.mem_iff.2 hw);exact hn u hu
theorem RG.any (h:RG M j ta tc ts da ds)(b:Int):(j.tr.any λu=>decide (u.2.batch=b))=ts.any λu=>decide (u.batch=b):=by
 rw[←h.tp.any_eq,List.any_map];rfl
theorem RG.keys (h:RG M j ta tc ts da ds):vq (j.tr.map (·.1))=ts.map (·.txn):=by
 refine yB ((vE _).trans ?_) (xc _) (h.sT.imp λh=>Int.le_of_lt h);have:=(h.tp.map (·.1)).symm
 rwa [kE] at this
theorem RG.abs (h:RG M j ta tc ts da ds)(hk:qm j.tr):(vq (j.tr.map (·.1))).filterMap (λx=>qE j.tr x)=ts.map TV.abs:=by
 rw[h.keys,List.filterMap_map];have:∀l:List TV,(∀u∈l,u∈ts)→l.filterMap ((λx=>qE j.tr x)∘λt=>t.txn)=l.map TV.abs:=by
  intro l
  induction l with
  |nil=>exact λ_=>rfl
  |cons u l ih=>
   intro hl;rw[List.filterMap_cons];have e:((λx=>qE j.tr x)∘λt:TV=>t.txn) u=some u.abs:=h.has hk (hl u kg);rw[e,jL,←ih λv hv=>hl v (jV _ hv)]
 exact this ts λ_ h=>h
theorem RG.of (h:RG M j ta tc ts da ds)(hl:qV M M')(hs:j'.shards=j.shards)(tp:(ts'.map jHF).Perm j'.tr)(sT:(ts'.map (·.txn)).Pairwise (· < ·))(ok:∀t∈ts',bI M' t∧okC t)(tS:qI M' ta' ts'.length 9 (ts'.flatMap TV.cells))(hc:ts'.length≤tc')(hd:j'.done=j.done):RG M' j' ta' tc' ts' da ds:=
 ⟨hs▸h.s1,hs▸h.s2,tp,sT,λt ht=>(ok t ht).1,λt ht=>(ok t ht).2,tS,hc,hd▸h.dp,h.sD,h.dS.mono hl⟩
theorem RG.same (h:RG M j ta tc ts da ds)(hs:j'.shards=j.shards)(htr:j'.tr=j.tr)(hd:j'.done=j.done):RG M j' ta tc ts da ds:=
 ⟨hs▸h.s1,hs▸h.s2,htr▸h.tp,h.sT,h.ok,h.oc,h.tS,h.tc,hd▸h.dp,h.sD,h.dS⟩
end
end Go.Proofs.YtlnfjhiphlfkjaaGreatDoor
namespace Go.Proofs.YtlnfjhiphlfkjaaGreatDoor
open Go Go.SX
structure OkA (r:NA):Prop where
 p:r.parts.length≤1000000
 o:r.ops.length≤1000000
 ov:∀o∈r.ops,o.2.length≤1000000
 v:r.vec.length≤1000000
 h:r.hits.length≤1000000
 hv:∀h∈r.hits,h.2.2.length≤1000000
theorem OkN.of {n:NV}(h:OkA n.abs):OkN n:=
 ⟨h.p,by have:=h.o;rwa [jf] at this,λo ho=>h.ov o.abs (jA (f:=OV.abs) ho),h.v,by have:=h.h;rwa [jf] at this,λo ho=>h.hv o.abs (jA (f:=HV.abs) ho)⟩
theorem xW.of {r:NA}(k0:0≤r.kind)(k1:r.kind≤255)(t0:0≤r.txn)(t1:r.txn≤18446744073709551615)(b0:0≤r.batch)(b1:r.batch≤18446744073709551615)(s0:0≤r.stamp)(s1:r.stamp≤18446744073709551615)(a0:0≤r.after)(a1:r.after≤18446744073709551615)(w:r.who≤9223372036854775807)
  (m0:0≤r.mark) (m1:r.mark≤18446744073709551615) (h2:r.query=0) (h3:r.id=0) (h4:r.k=0) (h5:r.ef=0) (h6:r.code=0):xW r:=
 ⟨⟨k0,k1⟩,⟨t0,t1⟩,⟨b0,b1⟩,⟨s0,s1⟩,⟨a0,a1⟩,⟨m0,m1⟩,by rw[h2];decide,by rw[h3];decide,by rw[h4];decide,by rw[h5];decide,by rw[h6];decide,w⟩
theorem xW.nv {n:NV}(h:xW n.abs):ZX n:=⟨h.kind,h.txn.1,h.stamp.1,h.mark.1,h.after.1⟩
structure NT (x:Int)(t:TR):Prop where
 x1:x≤18446744073709551615
 b0:0≤t.batch
 b1:t.batch≤18446744073709551615
 s1:t.stamp≤1099511627776
 a0:0≤t.after
 a1:t.after≤1099511627776
 w0:0≤t.who
 w1:t.who<16
 ov:∀o∈t.ops,o.2.length≤64
structure WN (j:JG):Prop where
 g:WG j
 t:∀u∈j.tr,NT u.1 u.2
 d:∀u∈j.done,0≤u.1∧u.1≤18446744073709551615∧u.2≤1099511627776
theorem WN.lk {j:JG}(h:WN j){x:Int}{t:TR}(ht:qE j.tr x=some t):NT x t:=h.t _ ((vp h.g.kt).1 ht)
theorem jDl {v:List Int}(h:ws v=true):v.length≤64:=by have:=sR h;omega
theorem nQ {n:NA}(h:qn n=true):n.after≤1099511627776∧0≤n.who∧n.who<16∧(∀o∈n.ops,o.2.length≤64)∧0≤n.code∧n.code≤13:=by
 unfold qn vV at h;simp only[jF,kL,Bool.or_eq_false_iff,j5] at h;refine ⟨by omega,by omega,by omega,λo ho=> ?_,by omega,by omega⟩;have h1:=h.2.1.2;have:=List.any_eq_false.1 h1 o ho;unfold xv at this;simp only[kU,jS,kL,not_or,Bool.not_eq_false] at this;exact jDl this.2
theorem WN.app {j:JG}(h:WN j){n:NA}(u:xW n):WN (ve j n):=by
 have hG:=h.g.app u.txn.1 u.stamp.1 u.mark.1
 by_cases hE:¬qW j n=0
 ·rw[xo hE];exact h
 have hE:qW j n=0:=kv.1 hE;have hr:=KF hE;have hm:=bh hr;have hq:=nQ hr;refine ⟨hG,?_,?_⟩
 ·by_cases h16:n.kind=16
  ·rw[WV hE h16];exact λv hv=>h.t v (jB.1 hv).1
  by_cases h19:n.kind=19
  ·rw[WU hE h19]
   intro v hv
   rcases vC hv with hv|rfl
   ·exact h.t v hv
   ·exact ⟨u.txn.2,u.batch.1,u.batch.2,(show (0:Int)≤1099511627776 by decide),u.after.1,hq.1,hq.2.1,hq.2.2.1,hq.2.2.2.1⟩
  by_cases h17:n.kind=17
  ·rw[J3 hE h17]
   intro v hv
   rcases vC hv with hv|rfl
   ·exact h.t v hv
   ·cases hz:qE j.tr n.txn with
    |some t=>
     have ht:=h.lk hz;exact ⟨ht.x1,ht.b0,ht.b1,hm.1,ht.a0,ht.a1,ht.w0,ht.w1,ht.ov⟩
    |none=>exact ⟨u.txn.2,u.batch.1,u.batch.2,hm.1,ki _,(show (0:Int)≤1099511627776 by decide),ki _,(show (0:Int)<16 by decide),λ_ h=>(by cases h)⟩
  by_cases hw:n.kind=20∨n.kind=21
  ·have hE2:=hE
   rw[WS hr hw] at hE2
   cases hz:qE j.tr n.txn with
   |none=>rw[hz] at hE2;cases hE2
   |some t=>
    have ht:=h.lk hz;rw[cF hE hw hz];intro v hv
    rcases vC hv with hv|rfl
    ·exact h.t v hv
    ·unfold xX
     split<;>exact ⟨ht.x1,ht.b0,ht.b1,ht.s1,ht.a0,ht.a1,ht.w0,ht.w1,ht.ov⟩
  ·by_cases he:n.kind=18∨n.kind=22
   ·rw[Xr hE he];exact λv hv=>h.t v (jB.1 hv).1
   ·unfold qW at hE
    rw[ja (by rw[hr];decide),ja h16,ja h19,ja h17,ja zo] at hE
    cases hE
 ·by_cases h16:n.kind=16
  ·rw[WV hE h16];exact h.d
  by_cases h19:n.kind=19
  ·rw[WU hE h19];exact h.d
  by_cases h17:n.kind=17
  ·rw[J3 hE h17]
   intro v hv
   rcases vC hv with hv|rfl
   ·exact h.d v hv
   ·cases hz:qE j.tr n.txn with
    |some t=>
     have ht:=h.lk hz;exact ⟨ht.b0,ht.b1,hm.1⟩
    |none=>exact ⟨u.batch.1,u.batch.2,hm.1⟩
  by_cases hw:n.kind=20∨n.kind=21
  ·have hE2:=hE
   rw[WS hr hw] at hE2
   cases hz:qE j.tr n.txn with
   |none=>rw[hz] at hE2;cases hE2
   |some t=>rw[cF hE hw hz];exact h.d
  ·by_cases he:n.kind=18∨n.kind=22
   ·rw[Xr hE he];exact h.d
   ·unfold qW at hE
    rw[ja (by rw[hr];decide),ja h16,ja h19,ja h17,ja zo] at hE
    cases hE
theorem jDp {j:JG}{n:NA}:(ve j n).tr.length≤j.tr.length+1∧(ve j n).done.length≤j.done.length+1∧(ve j n).shards=j.shards∧(ve j n).dim=j.dim:=by
 unfold ve
 split
 ·exact ⟨Nat.le_succ _,Nat.le_succ _,rfl,rfl⟩
 split
 ·exact ⟨Nat.le_succ_of_le (kw _ _),Nat.le_succ _,rfl,rfl⟩
 split
 ·exact ⟨yf _ _ _,Nat.le_succ _,rfl,rfl⟩
 split
 ·exact ⟨yf _ _ _,yf _ _ _,rfl,rfl⟩
 split
 ·split
  ·exact ⟨yf _ _ _,Nat.le_succ _,rfl,rfl⟩
  ·exact ⟨Nat.le_succ _,Nat.le_succ _,rfl,rfl⟩
 ·exact ⟨Nat.le_succ_of_le (Zb _ _),Nat.le_succ _,rfl,rfl⟩
structure PN (pl:PG):Prop where
 r:∀r∈pl.rec_,xW r∧OkA r
 n:∀r∈pl.notes,xW r∧OkA r
 i:∀r∈pl.inst,xW r∧OkA r
 m:∀m∈pl.mail,OkA m.2
 e:∀m∈pl.els,OkA m.2
theorem PN.none :PN PG.none:=⟨λ_ h=>(by cases h),λ_ h=>(by cases h),λ_ h=>(by cases h),λ_ h=>(by cases h),λ_ h=>(by cases h)⟩
def appL (j:JG)(l:List NA):JG:=l.foldl ve j
abbrev qv (m:Int):NA:={NA.zero with kind:=16,mark:=m}
def jHa (j:JG)(d fr:Int)(n:NA)(w:Bool):List NA:=
 if d % 11=8 then [n]
 else if d % 11=9 then (jHo j).notes
 else if d % 11=10 then [qv (j.epoch+1)]
 else if w=false∧0<(w8 j fr n).rec_.length then (w8 j fr n).inst
 else (w8 j fr n).rec_++(w8 j fr n).notes
def jI6 (j:JG)(d fr:Int)(n:NA)(w:Bool):JG:=appL j (jHa j d fr n w)
theorem Yh {l:List NA}:∀{j:JG},WN j→(∀r∈l,xW r)→WN (appL j l)∧(appL j l).tr.length≤j.tr.length+l.length∧(appL j l).done.length≤j.done.length+l.length∧(appL j l).shards=j.shards∧(appL j l).dim=j.dim:=by
 induction l with
 |nil=>exact λh _=>⟨h,jz _,jz _,rfl,rfl⟩
 |cons r l ih=>
  intro j h hl;have h1:=h.app (hl r kg);obtain ⟨i1,i2,i3,i4,i5⟩:=ih h1 λx hx=>hl x (jV _ hx)
  obtain ⟨a1,a2,a3,a4⟩:=jDp (j:=j) (n:=r);refine ⟨i1,?_,?_,i4.trans a3,i5.trans a4⟩
  ·rw[jC];show (appL (ve j r) l).tr.length≤_;omega
  ·rw[jC];show (appL (ve j r) l).done.length≤_;omega
structure LS (j:JG)(k:Nat):Prop where
 w:WN j
 s:j.shards=3
 dm:j.dim=2
 t:j.tr.length≤2*min k 40
 d:j.done.length≤2*min k 40
theorem LS.zero :LS (wy 3 2) 0:=⟨⟨WG.zero zd zd,λ_ h=>(by cases h),λ_ h=>(by cases h)⟩,rfl,rfl,jw _,jw _⟩
theorem LS.b {j:JG}{k:Nat}(h:LS j k):j.tr.length≤80∧j.done.length≤80:=by
 have ht:=h.t;have hd:=h.d;omega
def ZG (j:JG):List TR:=(vq (j.tr.map (·.1))).filterMap λx=>qE j.tr x
theorem QL {j:JG}(hk:qm j.tr):(ZG j).Perm (j.tr.map (·.2)):=by
 unfold ZG;refine ((vE _).filterMap _).trans ?_;have:∀l:List (Int×TR),(∀u∈l,u∈j.tr)→(l.map (·.1)).filterMap (λx=>qE j.tr x)=l.map (·.2):=by
  intro l
  induction l with
  |nil=>exact λ_=>rfl
  |cons u l ih=>
   intro hl;rw[jL,List.filterMap_cons,(vp hk).2 (hl u kg),jL,←ih λv hv=>hl v (jV _ hv)]
 rw[this j.tr λ_ h=>h]
attribute [local irreducible] swp qq qL qJ vZ qh St qi qk vu qH
def Va (s:Int)(t:TR)(q:Int):List (Int×NA):=if t.stamp=0∧q∉t.yes then [Xg s t q] else if 0<t.stamp∧q∉t.acked then [Qu q t.txn t.stamp 0] else []
def jE8 (s:Int)(t:TR):List (Int×NA):=t.parts.flatMap (Va s t)
def Z3 (j:JG)(xs:List Int):List (Int×NA):=(xs.filterMap λx=>qE j.tr x).flatMap (jE8 j.shards)
def Ym (j:JG):List (Int×NA):=Z3 j (vq (j.tr.map (·.1)))
theorem m8 {j:JG}{xs:List Int}{i:Nat}{x:Int}{t:TR}(hx:xs[i]? =some x)(ht:qE j.tr x=some t):Z3 j (xs.take (i+1))=Z3 j (xs.take i)++jE8 j.shards t:=by
 unfold Z3;rw[qA hx,List.filterMap_append,List.filterMap_cons,ht,kS]
 simp
theorem qY.row1g {L:HL}{b n:Nat}{l:List Value}{t:TypeId}[h:zK b L (cl l t)](hl:l.length=n):qY L (some ⟨b,0,none⟩) n 1 l:=⟨by rw[hl,jX],.inr ⟨b,0,rfl,vi.row⟩⟩
abbrev jEm (m:Int×NV):Int×NA:=(m.1,m.2.abs)
theorem pW (M:OM)(p:Nat)(j:JG)(L:HL)(hw:WG j)(hn:j.tr.length≤100000):
  qh kY 50 [vQ p] (qD M p j::qp M::L)
   (λr L'=>∃(a:OA) (c:Nat) (ms:List (Int×NV)) (M':OM),r=.slice a ms.length c∧qV M M'∧(∀m∈ms,xN M' m.2)∧ms.map jEm=Ym j∧L'=slO 176 17 a ms.length c (ms.flatMap vA)::qD M' p j::qp M'::L):=by
 refine qg Tryz.func50 rfl rfl rfl ?_;refine Q.r ?_;refine S.cgn p rfl (Zs M p j _ zo) ?_;rintro _ _ ⟨a,c,rfl,rfl⟩;have hsl:(vq (j.tr.map (·.1))).length=j.tr.length:=by rw[(vE _).length_eq,jf]
 refine Q.r ?_;refine wF a (λM1 hl1 hs1=> ?_);refine nB p hl1 ?_;refine ql (σ:=Nat×OA×Nat×List (Int×NV)×(OM)) (λs=> [(0,vQ p),(12,.slice a j.tr.length c),(13,.int .i64 j.tr.length),(3,.slice s.2.1 s.2.2.2.1.length s.2.2.1),(14,.int .i64 s.1)])
  (λs=>slO 176 17 s.2.1 s.2.2.2.1.length s.2.2.1 (s.2.2.2.1.flatMap vA)::qD s.2.2.2.2 p j::qp s.2.2.2.2::L)
  (λs=>s.1≤j.tr.length∧qV M1 s.2.2.2.2∧(∀m∈s.2.2.2.1,xN s.2.2.2.2 m.2)∧s.2.2.2.1.map jEm=Z3 j ((vq (j.tr.map (·.1))).take s.1)∧s.2.2.2.1.length≤s.1*1000001) (λs=>j.tr.length - s.1) (0,none,0,[],M1) zt (qi.trans vj eG) ⟨jw _,qV.refl M1,λ_ h=>(by cases h),rfl,jw _⟩ ?_
 rintro ⟨i,a3,c3,ms,M2⟩ ⟨hi,hl2,hmo,hms,hml⟩;dsimp only at hi hl2 hmo hms hml ⊢
 by_cases hlt:i<j.tr.length
 ·obtain ⟨x,hx⟩:=qx (l:=vq (j.tr.map (·.1))) (k:=i) zo
  obtain ⟨t,ht⟩:=di (jn hx) hw.kt;obtain ⟨ba,oa,haa,cr⟩:=qI.cm1 (g:=U64) (hs1.mono hl2) hx hsl.symm;rw[haa];refine V0 p (λmt md ts hq=> ?_);have hlk:=Xk hq.tr x;rw[ht] at hlk;refine Q.rn ?_;refine S.y (Y.lk false rfl rfl (λw=>Tryz.zeroValue148 w)) ?_
  cases hz:qE (α:=Nat×TV) ts x with
  |none=>rw[hz] at hlk;cases hlk
  |some u=>
   rw[hz] at hlk;obtain ⟨k,hkk⟩:=VB hz;have hok:=hq.ok _ (jn hkk);have htu:t=u.2.abs:=Option.some.inj hlk;have hpl:u.2.parts.length≤1000000:=hok.pl;dsimp only;refine Q.rn ?_;refine yI hkk ?_;refine Q.rn ?_;refine ql (σ:=Nat×OA×Nat×List (Int×NV)×(OM)) (λs=> [(0,vQ p),(6,XI u),(12,.slice (some ⟨ba,oa,none⟩) j.tr.length c),(13,.int .i64 j.tr.length),(14,.int .i64 i),(28,.slice u.2.pa u.2.parts.length u.2.pc),(29,.int .i64 u.2.parts.length),(3,.slice s.2.1 s.2.2.2.1.length s.2.2.1),(30,.int .i64 s.1)])
    (λs=>slO 176 17 s.2.1 s.2.2.2.1.length s.2.2.1 (s.2.2.2.1.flatMap vA)::vk u::qF (ts.eraseIdx k)::gP p j mt md::gT mt ts::gD md j.done::qp s.2.2.2.2::L)
    (λs=>s.1≤u.2.parts.length∧qV M2 s.2.2.2.2∧(∀m∈s.2.2.2.1,xN s.2.2.2.2 m.2)∧s.2.2.2.1.map jEm=Z3 j ((vq (j.tr.map (·.1))).take i)++(u.2.parts.take s.1).flatMap (Va j.shards u.2.abs)∧s.2.2.2.1.length≤i*1000001+s.1) (λs=>u.2.parts.length - s.1) (0,a3,c3,ms,M2) zt eG ⟨jw _,qV.refl M2,hmo,by simpa using hms,ke hml (Nat.le_add_right _ _)⟩ ?_
   rintro ⟨n,a5,c5,ns,M3⟩ ⟨hn1,hl3,hno,hns,hnl⟩;dsimp only at hn1 hl3 hno hns hnl ⊢;have hnb:ns.length≤100001000000:=by
    have h1:i*1000001≤99999*1000001:=Nat.mul_le_mul_right _ zo;omega
   by_cases hnt:n<u.2.parts.length
   ·obtain ⟨q,hq1⟩:=qx hnt
    obtain ⟨bp,op,hpa,cp⟩:=qI.cm1 (g:=I64) (hok.p.mono hl3) hq1 rfl;rw[hpa];have hstn:0≤u.2.stamp:=by have:=(hw.lk ht).st;rw[htu] at this;exact this
    by_cases hs:u.2.stamp=0
    ·refine Q.rn ?_
     first|refine S.cr rfl (qP u.2.ya u.2.yc u.2.yes q _ (hok.y.mono hl3).rd hok.yl) ?_|(refine S.guard rfl ?_;refine S.cr rfl (qP u.2.ya u.2.yc u.2.yes q _ (hok.y.mono hl3).rd hok.yl) ?_)
     rintro _ _ ⟨rfl,rfl⟩
     by_cases hm:q∈u.2.yes
     ·have hwq:Va j.shards u.2.abs q=[]:=by
       unfold Va;rw[ja (λh=>h.2 hm),ja (λh=>by have h1:0<u.2.stamp:=h.1;omega)]
      rw[jo hm];refine Q.rn ?_;refine ⟨(n+1,a5,c5,ns,M3),zt,by exact eG,⟨hnt,hl3,hno,?_,?_⟩,?_⟩
      ·dsimp only
       rw[hns,qA hq1,kS,jK,hwq];simp
      ·exact Nat.le_succ_of_le hnl
      ·show u.2.parts.length - (n+1)<u.2.parts.length - n
       omega
     ·have hwq:Va j.shards u.2.abs q=[Xg j.shards u.2.abs q]:=by
       unfold Va;rw[jb ⟨hs,hm⟩]
      rw[jv hm];refine Q.rn ?_;refine S.c3 (A:=gP p j mt md) (B:=vk u) (C:=qp M3) rfl (Vn p j mt md u q M3 _ (hok.mono hl3) hq.s1 hq.s2) ?_;rintro _ _ ⟨m,M4,rfl,hl4,hm4,hma,rfl⟩;refine Q.rn ?_;(repeat (intro b1;refine Q.rn ?_));refine S.app rfl rfl (vG.sl vi.row zr zr) zr zo zo (λa7 c7=> ?_);refine Q.rn ?_;refine ⟨(n+1,a7,c7,ns++[(q,m)],M4),⟨rfl,rfl,rfl,rfl,rfl,by rw[←hpa];rfl,rfl,jj some (by simp),rfl,trivial⟩,?_,⟨hnt,hl3.trans hl4,λw hw=> ?_,?_,?_⟩,jr u.2.parts.length n hnt⟩
      ·dsimp only
       rw[qG,vK];exact eG
      ·rcases jy.1 hw with hw|hw
       ·exact (hno w hw).mono hl4
       ·rw[ji] at hw;subst hw;exact hm4
      ·dsimp only
       rw[jq,hns,qA hq1,kS,jK,hwq,ju];exact jj (λz=>_++(_++[z])) hma
      ·dsimp only
       rw[qG];omega
    ·have hs0:0<u.2.stamp:=by omega
     refine Q.rn ?_;refine S.cr rfl (qP u.2.ka u.2.kc u.2.acked q _ (hok.k.mono hl3).rd hok.kl) ?_;rintro _ _ ⟨rfl,rfl⟩
     by_cases hm:q∈u.2.acked
     ·have hwq:Va j.shards u.2.abs q=[]:=by
       unfold Va;rw[ja (λh=>hs h.1),ja (λh=>h.2 hm)]
      rw[jo hm];refine Q.rn ?_;refine ⟨(n+1,a5,c5,ns,M3),zt,by exact eG,⟨hnt,hl3,hno,?_,?_⟩,jr u.2.parts.length n hnt⟩
      ·dsimp only
       rw[hns,qA hq1,kS,jK,hwq];simp
      ·exact Nat.le_succ_of_le hnl
     ·have hwq:Va j.shards u.2.abs q=[Qu q u.2.txn u.2.stamp 0]:=by
       unfold Va;rw[ja (λh=>hs h.1),jb ⟨hs0,hm⟩]
      rw[jv hm];refine Q.rn ?_;refine Q.dgo [false,true] [12,13,14] [] [0,1,2,3,4,5,6,7,8,9,10,11,12,13,14,15] ?_;refine Q.rdn ?_;(repeat (intro b1;refine Q.rdn ?_));refine D.e rfl rfl rfl ?_;refine S.cr rfl (zS u.2.txn u.2.stamp 0 (some ⟨b1,0,none⟩) 1 [q] _ (qY.row1g rfl) (show 1≤1000000 by decide)) ?_;rintro _ _ ⟨a9,c9,rfl,rfl⟩;rw[kT];refine Q.rn ?_;refine Q.rdn ?_;refine D.e rfl rfl rfl ?_;refine qZ a9 (λh9=> ?_);refine S.app rfl rfl (vG.rd (qY.own h9 (by rw[lD (sz:=17) (λ_=>rfl)];rfl)) (jAf _)) zr zo zo (λa8 c8=> ?_);refine Q.rn ?_;refine Q.rdn ?_;refine Q.rn ?_;refine ⟨(n+1,a8,c8,ns++[((Qu q u.2.txn u.2.stamp 0).1,(Qu q u.2.txn u.2.stamp 0).2.nv)],M3),⟨rfl,rfl,rfl,rfl,rfl,by rw[←hpa];rfl,rfl,jj some (by simp),rfl,trivial⟩,?_,⟨hnt,hl3,λw hw=> ?_,?_,?_⟩,jr u.2.parts.length n hnt⟩
      ·dsimp only
       rw[qG,vK];have e9:List.map (λp=>Qu p u.2.txn u.2.stamp 0) [q]=[Qu q u.2.txn u.2.stamp 0]:=rfl;rw[e9];refine qi.trans (M:=slO 176 17 a8 (ns.length+1) c8 (ns.flatMap vA++[Qu q u.2.txn u.2.stamp 0].flatMap zJ)::vk u::qF (ts.eraseIdx k)::gP p j mt md::gT mt ts::gD md j.done::qp M3::L) eG ?_;rw[jK,j3,jG];exact kZ _
      ·rcases jy.1 hw with hw|hw
       ·exact hno w hw
       ·rw[ji] at hw;subst hw;exact xN.nv _
      ·dsimp only
       rw[jq,hns,qA hq1,kS,jK,hwq,ju];rfl
      ·dsimp only
       rw[qG];omega
   ·have hne:n=u.2.parts.length:=by omega
    rw[hne,jI] at hns;refine Q.rn ?_;refine ⟨(i+1,a5,c5,ns,M3),zt,?_,⟨hlt,hl2.trans hl3,hno,?_,?_⟩,jr j.tr.length i hlt⟩
    ·dsimp only
     exact qi.trans (jEx (p:=p) (mt:=mt) (md:=md) hkk (hq.mono hl3)) eG
    ·dsimp only
     rw[hns,m8 hx ht,htu];rfl
    ·dsimp only
     have h1:ns.length≤i*1000001+u.2.parts.length:=by omega
     have h2:(i+1)*1000001=i*1000001+1000001:=Nat.succ_mul ..;omega
 ·have hie:i=(vq (j.tr.map (·.1))).length:=by omega
  rw[hie,jI] at hms;refine Q.rn ?_;exact N.t rfl (kZ _) ⟨a3,c3,ms,M2,rfl,hl1.trans hl2,hmo,hms,rfl⟩
end Go.Proofs.YtlnfjhiphlfkjaaGreatDoor
