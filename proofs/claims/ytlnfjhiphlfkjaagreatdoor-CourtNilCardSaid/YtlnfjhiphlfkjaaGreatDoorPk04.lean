/- Walks of functions, and plain laws, that the last text rests on. No condition. -/
import Derived.Test.YtlnfjhiphlfkjaaGreatDoorPk03
set_option linter.unusedVariables false
set_option linter.unusedSimpArgs false
set_option linter.unusedSectionVars false
set_option maxHeartbeats 4000000
namespace Go.Proofs.YtlnfjhiphlfkjaaGreatDoor
open Go Go.SX
attribute [local irreducible] swp qq qM qL vX qh St qi qk vu qG
def vo (xs:List Int):List Int:=xs.mergeSort λx y=>decide (x≤y)
theorem vK (xs:List Int):(vo xs).Perm xs:=List.mergeSort_perm _ _
theorem wW (xs:List Int):(vo xs).length=xs.length:=(vK xs).length_eq
theorem wJ (xs:List Int):(vo xs).Pairwise (· ≤ ·):=by
 have:=List.pairwise_mergeSort (le:=λx y:Int=>decide (x≤y)) (λa b c h1 h2=>by simp at*;omega) (λa b=>by simp;omega) xs;exact this.imp λh=>by simpa using h
theorem xP :∀{l1 l2:List Int},l1.Perm l2→l1.Pairwise (· ≤ ·)→l2.Pairwise (· ≤ ·)→l1=l2
 | [],l2,h,_,_=>by simpa using h
 |x::l1,[],h,_,_=>by simp at h
 |x::l1,y::l2,h,h1,h2=>by
  have hx:x∈y::l2:=h.subset (by simp);have hy:y∈x::l1:=h.symm.subset (by simp);have e:x=y:=by
   rcases j9.1 hx with e|hx
   ·exact e
   ·rcases j9.1 hy with e|hy
    ·exact e.symm
    ·have a:=(kH.1 h2).1 x hx
     have b:=(kH.1 h1).1 y hy;omega
  subst e;rw[xP ((List.perm_cons x).1 h) (kH.1 h1).2 (kH.1 h2).2]
theorem d8 {xs ys:List Int}(h:xs.Perm ys):vo xs=vo ys:=xP ((vK xs).trans (h.trans (vK ys).symm)) (wJ _) (wJ _)
theorem Q7 (sv:Value)(L:HL):qh kY 221 [sv,.int .i64 (0:Nat),.int .i64 (0:Nat)] L (λv L'=>v=.tuple #[]∧L'=L):=by
 refine qg Tryz.func221 rfl rfl rfl ?_;refine Q.rn ?_;refine ql (σ:=Unit) (λs=> [(2,.int .i64 (0:Nat)),(6,.int .i64 (1:Nat))]) (λs=>L) (λs=>True) (λs=>0) () zt (kZ _) trivial ?_;intro _ _;refine Q.rn ?_;exact N.n0 RV.nil (kZ _) ⟨rfl,rfl⟩
theorem jA1 (sv:Value)(lim:Nat)(L:HL):qh kY 186 [sv,.int .i64 (0:Nat),.int .i64 (0:Nat),.int .i64 lim] L (λv L'=>v=.tuple #[]∧L'=L):=by
 refine qg Tryz.func186 rfl rfl rfl ?_;refine Q.rn ?_;refine ql (σ:=Unit) (λs=> [(0,sv),(1,.int .i64 (0:Nat)),(2,.int .i64 (0:Nat))]) (λs=>L) (λs=>True) (λs=>0) () zt (kZ _) trivial ?_;intro _ _;refine Q.rn ?_;refine S.cr rfl (Q7 _ _) ?_;rintro _ _ ⟨rfl,rfl⟩;refine Q.rn ?_;exact N.r0 RV.nil (kZ _) ⟨rfl,rfl⟩
theorem Z2 {k:IntKind}{d:Array Int}{rs:List Value}:ar k d rs=d.toList.map (Value.int k)++rs:=rfl
theorem th (a:OA)(m c:Nat)(xs:List Int)(L:HL)(hm:m=xs.length)(hn:m≤17592186044416):
  qh kY 132 [.slice a m c] (slO 31 1 a m c (xs.map U64)::L) (λv L'=>v=.tuple #[]∧L'=slO 31 1 a m c ((vo xs).map U64)::L):=by
 have hu:IntKind.u64.wrap (m:Int)=(m:Int):=wrap_u64 zo zo;have hl:Sort.bitsLen m≤45:=(Sort.bitsLen_le_iff m 45).2 zo
 by_cases h0:m=0
 ·have hx:xs=[]:=jO zo
  subst hx;have hs:vo []=[]:=by simp[vo]
  rw[hs];refine qg Tryz.func132 rfl rfl rfl ?_;refine Q.rn ?_;refine S.y (Y.cvi rfl) ?_;rw[hu];refine Q.rn ?_;refine S.cr rfl (K7 m zo _) ?_;rintro _ _ ⟨rfl,rfl⟩;subst h0;refine S.cr rfl (jA1 _ (Sort.bitsLen 0) _) ?_;rintro _ _ ⟨rfl,rfl⟩;refine Q.rn ?_;exact N.n0 RV.nil (kZ _) ⟨rfl,rfl⟩
 refine qh.slO zo λb rest ha hmc hlen=> ?_
 subst ha;refine qg Tryz.func132 rfl rfl rfl ?_;refine Q.rn ?_;refine S.y (Y.cvi rfl) ?_;rw[hu];refine Q.rn ?_;refine S.cr rfl (K7 m zo _) ?_;rintro _ _ ⟨rfl,rfl⟩;have hd:xs.toArray.size=m:=by simp[hm]
 refine S.cr rfl (jA2 b m c rest _ hn m 0 m (Sort.bitsLen m) xs.toArray zo hd zo (jz _) zo (.inl rfl)) ?_;rintro _ _ ⟨rfl,e,rfl,h1,h2⟩;have he:e.toList=vo xs:=by
  have:=Sort.sorted_unique_holds (lt:=Sort.ltInt) Sort.swo_ltInt (λx y h1 h2=>by simp[Sort.ltInt] at h1 h2;omega) xs.toArray e (by rw[hd];exact h1) (by rw[hd];exact h2);rw[this];unfold vo
  congr 1
  funext x y
  simp[Sort.ltInt]
  by_cases h:x≤y<;>simp[h]<;>omega
 refine Q.rn ?_;refine N.n0 RV.nil ?_ ⟨rfl,rfl⟩;have hen:(ar .u64 e rest)=(vo xs).map U64++rest:=by rw[Z2,he]
 unfold AR;rw[hen];exact slO_shut (by simp[wW,hm]) hmc (by simpa[wW] using hlen)
theorem WL (gf:FuncId)(lb:List Value)[he:qj kY gf](ks:List Int)(A A':HL)(hk:ks.length≤17592186044416)(hseq:VT kY gf lb U64 ks.length (λxs=>xs.Perm ks) A A'):
  qh kY 66 [.func (.func gf) #[] lb.toArray] A (λv L'=>∃a c,v=.slice a ks.length c∧L'=slO 31 1 a ks.length c ((vo ks).map U64)::A'):=by
 refine qg Tryz.func66 rfl rfl rfl ?_;refine Q.r ?_;refine S.cr rfl (dE gf lb _ A A' (hseq.mono hk)) ?_;rintro _ _ ⟨xs,a,c,hp,rfl,rfl⟩;have hl:=hp.length_eq;refine Q.r ?_;refine S.cr rfl (th a xs.length c xs A' rfl zo) ?_;rintro _ _ ⟨rfl,rfl⟩;rw[d8 hp,hl];refine Q.r ?_;exact N.t rfl (kZ _) ⟨a,c,rfl,rfl⟩
def Y6 (k:Nat)(ops:VL):VL:=(ops.take k).map λo=>(o.1,o.2.take 10)
theorem f3 {n:Nat}{l:VL}(h:l.length≤n):Y6 n l=l.map λo=>(o.1,o.2.take 10):=by unfold Y6;rw[kK h]
theorem tT (n:Nat)(a:OA)(c:Nat)(ops:List OV)(A:HL)(h:RdO A a ops)(hc:∀o∈ops,o.vec.length≤o.c)(hn:ops.length≤9223372036854775807)(hnn:n≤1000000):
  qh kY 106 [.slice a ops.length c,.int .i64 n] A (λv L'=>∃(a':OA) (c':Nat) (us:List OV),us.map OV.abs=Y6 n (ops.map OV.abs)∧(∀o∈us,o.vec.length=0∨∃b,o.a=some ⟨b,0,none⟩)∧v=.slice a' us.length c'∧L'=slO 38 2 a' us.length c' (us.flatMap OV.cells)::zR us::A):=by
 refine qg Tryz.func106 rfl rfl rfl ?_;refine Q.r ?_;refine ql (σ:=Nat×OA×Nat×List OV) (λs=> [(1,.int .i64 n),(8,.slice a ops.length c),(9,.int .i64 ops.length),(5,.slice s.2.1 s.2.2.2.length s.2.2.1),(10,.int .i64 s.1)])
  (λs=>slO 38 2 s.2.1 s.2.2.2.length s.2.2.1 (s.2.2.2.flatMap OV.cells)::zR s.2.2.2::A)
  (λs=>s.1≤ops.length∧s.2.2.2.map OV.abs=Y6 n ((ops.take s.1).map OV.abs)∧∀o∈s.2.2.2,o.vec.length=0∨∃b,o.a=some ⟨b,0,none⟩) (λs=>ops.length - s.1) (0,none,0,[]) zt ?_ ⟨by omega,by simp[Y6],by simp⟩ ?_
 ·exact qi.trans (qi.trans gg vh) (kZ _)
 rintro ⟨k,a3,c3,us⟩ ⟨hk,hus,hua⟩;dsimp only at hk hus hua ⊢;have hul:us.length=min n k:=by
  have:=jj List.length hus
  simp[Y6] at this;omega
 by_cases hlt:k<ops.length
 ·obtain ⟨o,ho⟩:=qw hlt
  have hmo:o∈ops:=jn ho;obtain ⟨b,oo,hia,hr⟩:=qW.elem (g:=OV.cells) (λ_=>rfl) h.1 ho rfl;rw[hia]
  repeat (first|(refine GQ.y ?_;refine Q.y ?_)|refine Q.go ?_|(refine GQ.g ?_;refine Q.gq ?_)|(refine GQ.s ?_;refine Q.st ?_)|(refine GQ.a ?_;refine Q.al (λb1=> ?_)))
  by_cases hkn:k<n
  ·refine Q.r ?_;(repeat (intro b1;refine Q.r ?_))
   refine Q.dgo [true,false,false] [5,7,8] [] [0,1,2,3,4,5,6,7,8,9] ?_;refine Q.rd ?_;refine D.e rfl rfl rfl ?_;refine S.cr rfl (K9 o.a o.c 10 o.vec _ ((h.2 o hmo).sub) (hc o hmo) zo) ?_;rintro _ _ ⟨a',c',rfl,rfl⟩;refine qX a' (λha'=> ?_);refine Q.r ?_;refine Q.rd ?_;(repeat (intro b1;refine Q.rd ?_));refine D.e rfl rfl rfl ?_;refine S.app rfl rfl (vA.sl vg.row zr zr) zr zo zo (λa4 c4=> ?_);refine Q.r ?_;refine Q.rd ?_;refine Q.r ?_;refine ⟨(k+1,a4,c4,us++[⟨o.id,a',c',o.vec.take 10⟩]),⟨rfl,rfl,rfl,jj some (by simp),rfl,trivial⟩,?_,⟨by dsimp only;omega,?_,?_⟩,by dsimp only;omega⟩
   ·dsimp only
    rw[qF,vE];refine qi.pick (qi.trans ?_ (Zo (o:=⟨o.id,a',c',o.vec.take 10⟩) rfl));exact eG
   ·dsimp only
    rw[jq,hus,f3 (l:=(ops.take k).map OV.abs) (by simp;omega),f3 (l:=(ops.take (k+1)).map OV.abs) (by simp;omega),qz ho,jq,jq];rfl
   ·intro u hu
    rcases jy.1 hu with hu|hu
    ·exact hua u hu
    ·obtain rfl:=ji.1 hu
     exact ha'
  ·refine Q.r ?_;(repeat (intro b1;refine Q.r ?_))
   refine ⟨(k+1,a3,c3,us),zt,by exact eG,⟨by dsimp only;omega,?_,hua⟩,by dsimp only;omega⟩;dsimp only;rw[hus];unfold Y6;rw[←List.map_take,←List.map_take,List.take_take,List.take_take,show min n k=min n (k+1) by omega]
 ·have hke:k=ops.length:=by omega
  subst hke;rw[jI] at hus;refine Q.r ?_;exact N.t rfl eG ⟨a3,c3,us,hus,hua,rfl,rfl⟩
structure EV where
 id:Int
 a:OA
 c:Nat
 vs:List OV
abbrev EV.cells (e:EV):List Value:=[.int .u64 e.id,.slice e.a e.vs.length e.c]
abbrev EV.abs (e:EV):Int×VL:=(e.id,e.vs.map OV.abs)
def okE (M:OM)(e:EV):Prop:=qH M e.a e.vs.length 2 (e.vs.flatMap OV.cells)∧okR M e.vs
theorem okE.mono {M M':OM}{e:EV}(h:okE M e)(hl:qU M M'):okE M' e:=⟨h.1.mono hl,λo ho=>(h.2 o ho).mono hl⟩
structure ROK (M:OM)(st:VS)(a:OA)(c:Nat)(es:List EV)(a':OA)(c':Nat)(is:List IV):Prop where
 ch:(es.map EV.abs).Perm st.ch
 cs:(es.map (·.id)).Pairwise (· < ·)
 its:(is.map IV.abs).Perm st.its
 ss:(is.map (·.txn)).Pairwise (· < ·)
 oe:∀e∈es,okE M e
 oi:∀i∈is,okI M i
 sE:qH M a es.length 2 (es.flatMap EV.cells)
 sI:qH M a' is.length 3 (is.flatMap IV.cells)
 cE:es.length≤c
 cI:is.length≤c'
 k1:qn st.ch
 k2:qn st.its
 oc:∀i∈is,∀o∈i.ops,o.vec.length≤o.c
structure RX where
 a:OA
 c:Nat
 es:List EV
 a':OA
 c':Nat
 is:List IV
 M:OM
section
variable {n : Nat} {ops rest : List Oper} {cd : Code} {Q : vk} {f : vF} {L L0 : HL} {st : VS}
end
theorem WM (a:OA)(c:Nat)(xs:List Int)(A:HL)(h:qW A a xs.length 1 (xs.map yT))(hn:xs.length≤4611686018427387904):
  qh kY 116 [.slice a xs.length c] A (λv L'=>v=.bool (wK xs)∧L'=A):=by
 refine qg Tryz.func116 rfl rfl rfl ?_;unfold wK;refine Q.r ?_;refine ql (σ:=Nat) (λk=> [(0,.slice a xs.length c),(5,.slice a xs.length c),(6,.int .i64 xs.length),(7,.int .i64 k)]) (λ_=>A)
  (λk=>k≤xs.length∧(xs.take k).any Ve=false) (λk=>xs.length - k) 0 zt (kZ _) ⟨by omega,by simp⟩ ?_
 rintro k ⟨hk,hany⟩
 by_cases hlt:k<xs.length
 ·obtain ⟨x,hx⟩:=qw hlt
  have hmx:x∈xs:=jn hx;obtain ⟨b,o,rfl,hr⟩:=qW.elem (g:=cI) (l:=xs) (λ_=>rfl) (by rw[cN];exact h) hx rfl
  by_cases h1:268435456<x
  ·have hb:Ve x=true:=by simp[Ve];omega
   refine Q.r ?_;exact N.t rfl (kZ _) ⟨by rw[show xs.any Ve=true from ku.2 ⟨x,hmx,hb⟩];simp,rfl⟩
  by_cases h2:x< -268435456
  ·have hb:Ve x=true:=by simp[Ve];omega
   refine Q.r ?_;exact N.t rfl (kZ _) ⟨by rw[show xs.any Ve=true from ku.2 ⟨x,hmx,hb⟩];simp,rfl⟩
  ·have hb:Ve x=false:=by simp[Ve];omega
   refine Q.r ?_;exact ⟨k+1,zt,kZ _,⟨by omega,by rw[qz hx,kW,hany,kX,hb];rfl⟩,by omega⟩
 ·have hke:k=xs.length:=by omega
  subst hke;rw[jI] at hany;rw[hany]
  by_cases h0:0<xs.length
  ·by_cases h8:xs.length≤8
   ·refine Q.r ?_
    exact N.t rfl (kZ _) ⟨by simp[h0,h8];try omega,rfl⟩
   ·refine Q.r ?_
    exact N.t rfl (kZ _) ⟨by simp[h0,h8];try omega,rfl⟩
  ·refine Q.r ?_
   exact N.t rfl (kZ _) ⟨by simp[h0],rfl⟩
theorem ZU {α:Type}{g:α→List Value}{sz:Nat}(hg:∀x,(g x).length=sz):∀(l:List α) (k:Nat),(l.flatMap g).drop (k*sz)=(l.drop k).flatMap g
 | [],k=>by simp
 |x::l,0=>by simp
 |x::l,k+1=>by
  rw[jK,List.drop_succ_cons,←ZU hg l k,Nat.add_mul,Nat.one_mul,Nat.add_comm,←hg x,List.drop_length_add_append]
theorem vQ {κ α:Type}[DecidableEq κ]{m:List (κ×α)}(h:qn m){x:κ}{a:α}:qJ m x=some a↔(x,a)∈m:=by
 refine ⟨Jb,λhm=> ?_⟩
 rcases w9 m h x with ⟨p,b,q,rfl,hp,hq⟩|hn
 ·rw[Jc hp]
  rcases jy.1 hm with hm|hm
  ·exact absurd rfl (hp _ hm)
  rcases j9.1 hm with hm|hm
  ·cases hm;rfl
  ·exact absurd rfl (hq _ hm)
 ·exact absurd rfl (hn _ hm)
theorem Zz {α:Type}{key:α→Int}{l:List α}(h:(l.map key).Pairwise (· < ·))(p:α→Bool):((l.filter p).map key).Pairwise (· < ·):=by
 rw[List.pairwise_map] at h ⊢;exact h.filter p
theorem ROK.len {M:OM}{st:VS}{a a':OA}{c c':Nat}{es:List EV}{is:List IV}(h:ROK M st a c es a' c' is):is.length=st.its.length∧es.length=st.ch.length:=by
 have h1:=h.its.length_eq;have h2:=h.ch.length_eq
 simp at h1 h2
 exact ⟨h1,h2⟩
end Go.Proofs.YtlnfjhiphlfkjaaGreatDoor
namespace Go.SX
open Go
theorem Xk {t sz m c:Nat}{a:OA}{cs:List Value}{L:HL}:qi (slO t sz a m c cs::L) (wv (m≤c)::slO t sz a m c cs::L):=λw F H=>by
 have hc:m≤c:=Kv.cap (a:=a) (L:=slO t sz a m c cs::L) inferInstance H;have e:qi (slO t sz a m c cs::L) (wv (m≤c)::slO t sz a m c cs::L):=qi.shut_pure hc;exact e w F H
end Go.SX
theorem Go.SX.RV.c {P:Go.Program}{n:Nat}{rs:List Go.ResultVar}{f:Go.SX.vF}{L:List Go.SX.HP}{l:List Go.Value}(h:Go.SX.RV P n rs f L l:=by apply Go.SX.RV.cellN;rfl;exact Go.SX.vg.row;rfl;exact Go.SX.RV.nil):Go.SX.RV P n rs f L l:=h
namespace Go.Proofs.YtlnfjhiphlfkjaaGreatDoor
open Go Go.SX
attribute [local irreducible] swp qq qM qL vX qh St qi qk vu qG
theorem sk {κ α:Type}[DecidableEq κ]{m:List (κ×α)}(h:qn m){x:κ}(a:α)(hx:qJ m x=none):qn (m++[(x,a)]):=by
 have hn:=fK hx;unfold qn;rw[jq,List.nodup_append];refine ⟨h,by simp,λy hy z hz=> ?_⟩
 simp at hz
 subst hz;obtain ⟨u,hu,rfl⟩:=jM.1 hy;exact hn u hu
theorem rb {L L0:HL}{M:OM}[hp:xb L M L0]:∀us:List OV,qi (zR us::L) (cQ (λM'=>xO [wv (qU M M'∧okR M' us∧∀o∈us,o.vec.length≤o.c),qo M'])::L0):=by
 intro us
 induction us generalizing M L with
 |nil=>
  refine qi.drop (hp.ent.trans ?_);refine qi.trans ?_ (qi.shut_ex M);refine qi.trans ?_ qi.shut_all;exact qi.shut_pure ⟨qU.refl M,λo ho=>by (cases ho),λo ho=>by (cases ho)⟩
 |cons o us ih=>
  have h1:qi (zR (o::us)::L) (slO 21 1 o.a o.vec.length o.c (o.vec.map yT)::zR us::L):=by
   unfold zR;exact sQ (p:=[]) (by simp)
  refine h1.trans (Xk.trans (qi.pure λhc=> ?_));have hp2:xb (zR us::L) M (zR us::L0):=inferInstance;refine (qi.absorb (h:=hp2)).trans ?_;refine qi.ex λM1=>qi.open_all.trans (qi.pure λhs=> ?_)
  refine qi.trans (qi.perm (.swap _ _ _)) ?_;refine (ih (M:=M1) (L:=qo M1::L0) (hp:=inferInstance)).trans ?_;refine qi.ex λM2=>qi.open_all.trans (qi.pure λhs2=> ?_)
  refine qi.trans ?_ (qi.shut_ex M2);refine qi.trans ?_ qi.shut_all;refine qi.shut_pure ⟨hs.1.trans hs2.1,λu hu=> ?_,λu hu=> ?_⟩
  ·rcases j9.1 hu with rfl|hu
   ·exact hs.2.mono hs2.1
   ·exact hs2.2.1 u hu
  ·rcases j9.1 hu with rfl|hu
   ·exact hc
   ·exact hs2.2.2 u hu
theorem jB4 {dim:Int}{ops:VL}(h:v7 dim ops=0):1≤dim∧dim≤8∧1≤ops.length∧ops.length≤16∧(ops.map (·.1)).Nodup∧∀o∈ops,o.2.length≤8∧(0<o.2.length→wK o.2=true):=by
 unfold v7 at h
 by_cases h1:dim<1∨8<dim
 ·rw[jb h1] at h;cases h
 rw[ja h1] at h
 by_cases h3:ops.length=0
 ·rw[jb h3] at h;cases h
 rw[ja h3] at h
 by_cases h4:16<ops.length
 ·rw[jb h4] at h;cases h
 rw[ja h4] at h
 by_cases h5:ops.any (Kg dim)=true
 ·rw[jb h5] at h;cases h
 rw[ja h5] at h
 by_cases h6:(ops.map (·.1)).Nodup
 ·refine ⟨by omega,by omega,by omega,by omega,h6,λo ho=> ?_⟩
  have hb:Kg dim o=false:=by
   cases hb:Kg dim o with
   |false=>rfl
   |true=>exact absurd (ku.2 ⟨o,ho,hb⟩) h5
  unfold Kg at hb;simp only[Bool.or_eq_false_iff,Bool.and_eq_false_iff,j5,Bool.not_eq_false',Decidable.not_not] at hb;obtain ⟨_,hb⟩:=hb
  rcases hb with hb|hb
  ·exact ⟨by omega,λh=>absurd h hb⟩
  ·exact ⟨by omega,λ_=>hb.1⟩
 ·rw[ja h6] at h;cases h
def Qw (a:OA)(c l sz:Nat):OA:=if l=0 then a else a.map λad=>⟨ad.block,if c=l then ad.off else ad.off+l*sz,ad.spot⟩
section
variable {P : Program} {n : Nat} {ops : List Oper} {f : vF} {A : HL} {d : Tmp} {ty : TypeId} {pos : String} {af : Array Edge}
theorem Y.slFa {x lo:Operand}{t e:TypeId}{a:OA}{m c sz bts l:Nat}{ag:Bool}{zs:List Value}{i:Int}{kl:IntKind}[hs:wu P t e][h2:Ty P e ag sz zs bts](hx:ev f x=some (.slice a m c))
  (hl:ev f lo=some (.int kl i)) (el:i=(l:Int)) (h1:l≤m) (ha:m=0∨∃b o,a=some ⟨b,o,none⟩):qk P n ops ⟨some d,.slice t x (some lo) none none,ty,pos,af,none⟩ f A (.slice (Qw a c l sz) (m - l) (c - l)):=by
 by_cases h0:l=0
 ·subst h0
  unfold Qw;rw[jb rfl,Nat.sub_zero,Nat.sub_zero]
  cases a with
  |none=>
   rcases ha with rfl|⟨b,o,h⟩
   ·exact Y.slFn (hs:=hs) (h2:=h2) hx hl el
   ·cases h
  |some ad=>
   refine Y.of (λac w s=> ?_);subst el;have e1:∀ad:Addr,ad.add 0=ad:=λ_=>rfl
   by_cases hc:c=0<;>simp[execOp,s.eval hx,s.eval hl,Instr.sliceAt,hs.und,Instr.slice,Instr.sliceBounds,h2.size,Instr.sliceBound,asIntOf,hc,e1]
 ·rcases ha with rfl|⟨b,o,rfl⟩
  ·omega
  ·unfold Qw
   rw[ja h0];exact Y.slF (hs:=hs) (h2:=h2) hx hl el h1
end
theorem qH.at {M:OM}{a:OA}{m sz:Nat}{cs:List Value}(h:qH M a m sz cs):m=0∨∃b o,a=some ⟨b,o,none⟩:=by
 have:=h.rd (L:=[qo M])
 rcases this.2 with h3|⟨b,o,h3,_⟩
 ·exact .inl h3
 ·exact .inr ⟨b,o,h3⟩
def W8 (es:List EV)(nw:EV):List EV:=es.filter (λe=>decide (e.id<nw.id))++nw::es.filter (λe=>decide (nw.id<e.id))
theorem Ya {κ α:Type}[DecidableEq κ]{m:List (κ×α)}(h:qn m):m.Nodup:=by
 unfold qn at h;rw[List.nodup_iff_pairwise_ne,List.pairwise_map] at h;rw[List.nodup_iff_pairwise_ne];exact h.imp λh1 h2=>h1 (by rw[h2])
theorem ml {m:List (Int×VL)}(h:(m.map (·.1)).Pairwise (· < ·)):qn m:=by
 unfold qn;rw[List.nodup_iff_pairwise_ne];exact h.imp λh1 h2=>by omega
theorem WH {es:List EV}{nw:EV}(hs:(es.map (·.id)).Pairwise (· < ·)):((W8 es nw).map (·.id)).Pairwise (· < ·):=by
 unfold W8;rw[jq,jL,List.pairwise_append];refine ⟨Zz hs _,kH.2 ⟨λy hy=> ?_,Zz hs _⟩,λx hx y hy=> ?_⟩
 ·obtain ⟨u,hu,rfl⟩:=jM.1 hy
  have h1:=(jB.1 hu).2
  simpa using h1
 ·obtain ⟨u,hu,rfl⟩:=jM.1 hx
  have h1:=(jB.1 hu).2
  simp at h1
  rcases j9.1 hy with rfl|hy
  ·exact h1
  ·obtain ⟨w,hw,rfl⟩:=jM.1 hy
   have h3:=(jB.1 hw).2
   simp at h3;omega
theorem fQ {es:List EV}{nw e:EV}(h:e∈W8 es nw):e=nw∨e∈es∧e.id≠nw.id:=by
 unfold W8 at h
 rcases jy.1 h with h|h
 ·have h1:=jB.1 h
  have h2:=h1.2
  simp at h2
  exact .inr ⟨h1.1,by omega⟩
 rcases j9.1 h with h|h
 ·exact .inl h
 ·have h1:=jB.1 h
  have h2:=h1.2
  simp at h2
  exact .inr ⟨h1.1,by omega⟩
theorem ZQ {es:List EV}{nw e:EV}(h:e=nw∨e∈es∧e.id≠nw.id):e∈W8 es nw:=by
 unfold W8
 rcases h with rfl|⟨h1,h2⟩
 ·simp
 ·by_cases h3:e.id<nw.id
  ·exact List.mem_append_left _ (jB.2 ⟨h1,by simpa using h3⟩)
  ·refine List.mem_append_right _ (jV _ (jB.2 ⟨h1,?_⟩))
   simp;omega
theorem X8 {es:List EV}:(es.map EV.abs).map (·.1)=es.map (·.id):=by rw[kE];rfl
theorem sn {es:List EV}{nw:EV}{ch:List (Int×VL)}(hp:(es.map EV.abs).Perm ch)(hk:qn ch)(hs:(es.map (·.id)).Pairwise (· < ·)):((W8 es nw).map EV.abs).Perm (qZ ch nw.id (nw.vs.map OV.abs)):=by
 have k1:qn ((W8 es nw).map EV.abs):=ml (by rw[X8];exact WH hs);have k2:=vL hk nw.id (nw.vs.map OV.abs);rw[List.perm_ext_iff_of_nodup (Ya k1) (Ya k2)];rintro ⟨x,w⟩;rw[←vQ k2,Ka hk]
 constructor
 ·intro h
  obtain ⟨e,he,h2⟩:=jM.1 h;clear h
  rcases fQ he with rfl|⟨he1,he2⟩
  ·have hx:x=e.id:=(jj Prod.fst h2).symm
   have hx2:w=e.vs.map OV.abs:=(jj Prod.snd h2).symm;rw[jb hx,hx2]
  ·have hm:(x,w)∈ch:=hp.mem_iff.1 (by rw[←h2];exact jA he1)
   have hx:x=e.id:=(jj Prod.fst h2).symm;rw[ja (by rw[hx];exact he2)];exact (vQ hk).2 hm
 ·intro h
  by_cases hx:x=nw.id
  ·rw[jb hx] at h
   cases h
   rw[hx];exact jA (f:=EV.abs) (ZQ (.inl rfl))
  ·rw[ja hx] at h
   obtain ⟨e,he,h2⟩:=jM.1 (hp.mem_iff.2 ((vQ hk).1 h));rw[←h2];refine jA (f:=EV.abs) (ZQ (.inr ⟨he,?_⟩));have:x=e.id:=(jj Prod.fst h2).symm;rw[←this];exact hx
theorem ROK.put {M:OM}{st:VS}{a a':OA}{c c':Nat}{es:List EV}{is:List IV}(h:ROK M st a c es a' c' is){M2:OM}(hl:qU M M2){a2:OA}{c2:Nat}{nw:EV}(hnw:okE M2 nw)
  (hs:qH M2 a2 (W8 es nw).length 2 ((W8 es nw).flatMap EV.cells)) (hc:(W8 es nw).length≤c2):ROK M2 {st with ch:=qZ st.ch nw.id (nw.vs.map OV.abs)} a2 c2 (W8 es nw) a' c' is:=
 ⟨sn h.ch h.k1 h.cs,WH h.cs,h.its,h.ss,λe he=>by
  rcases fQ he with rfl|⟨he,_⟩
  ·exact hnw
  ·exact (h.oe e he).mono hl,λi hi=>(h.oi i hi).mono hl,hs,h.sI.mono hl,hc,h.cI,vL h.k1 _ _,h.k2,h.oc⟩
theorem d7 {vs:VL}(h:zU vs):∀v∈vs,v.1≤KP vs:=by
 intro v hv;unfold KP
 cases hg:vs.getLast? with
 |none=>rw[List.getLast?_eq_none_iff] at hg;subst hg;cases hv
 |some l=>
  rw[List.getLast?_eq_some_iff] at hg;obtain ⟨p,rfl⟩:=hg;unfold zU at h;rw[jq,List.pairwise_append] at h
  rcases jy.1 hv with hv|hv
  ·have:=h.2.2 v.1 (jA hv) l.1 (by simp)
   simp;omega
  ·obtain rfl:=ji.1 hv
   simp
def jFn (vs:VL)(s:Int):Nat:=if sY vs s=0 then 0 else if 0<(((vs[sY vs s - 1]?).map (·.2)).getD []).length then sY vs s - 1 else sY vs s
abbrev GL :=List (Int×Int)
def sw1 (s:Int)(u:List (Int×VL)×GL)(id:Int):List (Int×VL)×GL:=
 (if ((Xc u.1 id).drop (jFn (Xc u.1 id) s)).length=0 then qT u.1 id else qZ u.1 id ((Xc u.1 id).drop (jFn (Xc u.1 id) s)),u.2++((Xc u.1 id).take (jFn (Xc u.1 id) s)).map λv=>(id,v.1))
def swF (s:Int)(ks:List Int)(ch:List (Int×VL)):List (Int×VL)×GL:=ks.foldl (sw1 s) (ch,[])
def jEa (ch:List (Int×VL)):List Int:=vo (ch.map (·.1))
def bO (st:VS)(s:Int):VS:=if min s 1099511627776≤st.mark then st else {st with mark:=min s 1099511627776,ch:=(swF (min s 1099511627776) (jEa st.ch) st.ch).1}
theorem jDk {κ α:Type}[DecidableEq κ]{m:List (κ×α)}(x y:κ)(h:y≠x):qJ (qT m x) y=qJ m y:=by
 unfold qJ qT;rw[List.find?_filter]
 congr 2
 funext u
 by_cases hu:u.1=y
 ·have:u.1≠x:=λe=>h (by rw[←hu,e])
  simp[hu,h]
 ·simp[hu]
theorem ROK.ids {M:OM}{st:VS}{a a':OA}{c c':Nat}{es:List EV}{is:List IV}(h:ROK M st a c es a' c' is):jEa st.ch=es.map (·.id):=by
 refine xP ((vK _).trans ?_) (wJ _) (h.cs.imp λh=>by omega);have:=(h.ch.map (·.1)).symm;rw[X8] at this;exact this
structure DV where
 d:Int
 txn:Int
 after:Int
 a:OA
 c:Nat
 ops:List OV
 stamp:Int
 ask:Int
 id:Int
 ia:OA
 ic:Nat
 ids:List Int
abbrev DV.cells (o:DV):List Value:=[.int .u8 o.d,.int .u64 o.txn,.int .u64 o.after,.slice o.a o.ops.length o.c,.int .u64 o.stamp,.int .u64 o.ask,.int .u64 o.id,.slice o.ia o.ids.length o.ic]
abbrev DV.val (o:DV):Value:=.agg #[.int .u8 o.d,.int .u64 o.txn,.int .u64 o.after,.slice o.a o.ops.length o.c,.int .u64 o.stamp,.int .u64 o.ask,.int .u64 o.id,.slice o.ia o.ids.length o.ic]
def doS (st:VS)(o:DV):VS:=
 if o.d.tmod 9=4 then {st with its:=qT st.its o.txn}
 else if o.d.tmod 9=5∨o.d.tmod 9=6∨o.d.tmod 9=7 then Kh st o.txn o.stamp
 else if o.d.tmod 9=8 then bO st o.stamp
 else zz st o.txn o.after (Y6 18 (o.ops.map OV.abs))
structure p7 (st:VS)(n:Nat):Prop where
 wf:WF st n
 k1:qn st.ch
 k2:qn st.its
theorem WF.mono {st:VS}{n m:Nat}(h:WF st n)(hm:n≤m):WF st m:=
 ⟨h.d1,h.d2,by have:=h.il;omega,h.io,by have:=h.cl;omega,λc hc=>⟨(h.co c hc).1,by have:=(h.co c hc).2.1;omega,(h.co c hc).2.2⟩⟩
theorem p7.mono {st:VS}{n m:Nat}(h:p7 st n)(hm:n≤m):p7 st m:=⟨h.wf.mono hm,h.k1,h.k2⟩
theorem p7.free {st:VS}{n:Nat}(h:p7 st n)(t:Int):p7 {st with its:=qT st.its t} n:=
 ⟨⟨h.wf.d1,h.wf.d2,by have:=h.wf.il;have e:=kw (λu:Int×Int×VL=> !decide (u.1=t)) st.its;exact ke e this,λi hi=>h.wf.io i (jB.1 hi).1,h.wf.cl,h.wf.co⟩,h.k1,ze h.k2 t⟩
theorem Vg {s:Int}{c:Int×VL}:∀{ops:VL} {ch:List (Int×VL)},qn ch→(ops.map (·.1)).Nodup→c∈Vh s ch ops→c∈ch∨∃o∈ops,c=(o.1,Xc ch o.1++[(s,o.2)])
 | [],_,_,_,h=>.inl h
 |o::ops,ch,hk,hn,h=>by
  simp only[jL,List.nodup_cons] at hn;have hput:∀c∈bX s ch o,c∈ch∨c=(o.1,Xc ch o.1++[(s,o.2)]):=λc hc=>by
   unfold bX at hc
   rcases w9 ch hk o.1 with ⟨p,b,q,rfl,hp,hq⟩|hno
   ·rw[wS hp hq] at hc
    rcases jy.1 hc with hc|hc
    ·exact .inl (List.mem_append_left _ hc)
    rcases j9.1 hc with hc|hc
    ·exact .inr hc
    ·exact .inl (List.mem_append_right _ (jV _ hc))
   ·rw[vH hno] at hc
    rcases jy.1 hc with hc|hc
    ·exact .inl hc
    ·exact .inr (ji.1 hc)
  rcases Vg (s:=s) (ops:=ops) (XU hk s o) hn.2 h with h|⟨o',ho',h⟩
  ·rcases hput c h with h|h
   ·exact .inl h
   ·exact .inr ⟨o,by simp,h⟩
  ·refine .inr ⟨o',jV _ ho',?_⟩
   have hne:o'.1≠o.1:=λe=>hn.1 (by rw[←e];exact jA ho')
   have:Xc (bX s ch o) o'.1=Xc ch o'.1:=by
    unfold Xc bX;rw[Ka hk,ja hne]
   rw[h,this]
theorem p7.apply {st:VS}{n:Nat}(h:p7 st n)(t s:Int):p7 (Kh st t s) (n+1):=by
 unfold Kh
 cases hl:qJ st.its t with
 |none=>exact h.mono zo
 |some i=>
  dsimp only
  by_cases hE:Wk st t s=0
  ·rw[jb hE]
   have hio:=h.wf.io _ (Jb hl);dsimp only at hio;have hany:∀o∈i.2,¬s≤KP (Xc st.ch o.1):=by
    unfold Wk at hE;rw[hl] at hE;dsimp only at hE
    by_cases h1:s=0∨1099511627776<s∨s≤i.1
    ·rw[jb h1] at hE;cases hE
    rw[ja h1] at hE
    by_cases h2:(i.2.any λo=>decide (s≤KP (Xc st.ch o.1)))=true
    ·rw[jb h2] at hE;cases hE
    ·intro o ho hh
     exact h2 (ku.2 ⟨o,ho,jo hh⟩)
   refine ⟨⟨h.wf.d1,h.wf.d2,?_,λj hj=>h.wf.io j (jB.1 hj).1,?_,λc hc=> ?_⟩,Z3 h.k1,ze h.k2 t⟩
   ·have e:=kw (λu:Int×Int×VL=> !decide (u.1=t)) st.its
    have:=h.wf.il;have e2:(qT st.its t).length≤st.its.length:=e;dsimp only;omega
   ·have e:=Yy (s:=s) (ops:=i.2) h.k1
    have:=h.wf.cl;dsimp only;omega
   ·rcases Vg h.k1 hio.2.1 hc with hc|⟨o,ho,rfl⟩
    ·have:=h.wf.co c hc
     exact ⟨this.1,by omega,this.2.2⟩
    ·have hcv:zU (Xc st.ch o.1)∧(Xc st.ch o.1).length≤n∧∀v∈Xc st.ch o.1,v.2.length≤8:=by
      unfold Xc
      cases hz:qJ st.ch o.1 with
      |none=>exact ⟨List.Pairwise.nil,jw _,by simp⟩
      |some w=>exact h.wf.co _ (Jb hz)
     have hla:=d7 hcv.1;have hs:=hany o ho;refine ⟨?_,by simp;omega,λv hv=> ?_⟩
     ·unfold zU at hcv ⊢
      rw[jq,List.pairwise_append];refine ⟨hcv.1,by simp,λx hx y hy=> ?_⟩;obtain ⟨w,hw,rfl⟩:=jM.1 hx
      simp at hy
      subst hy;have:=hla w hw;omega
     ·rcases jy.1 hv with hv|hv
      ·exact hcv.2.2 v hv
      ·obtain rfl:=ji.1 hv
       exact (hio.2.2 o ho).1
  ·rw[ja hE];exact h.mono zo
theorem p7.lock {st:VS}{n:Nat}(h:p7 st n)(t a:Int)(ops:VL):p7 (zz st t a ops) (n+1):=by
 unfold zz
 by_cases hE:Kn st t a ops=0
 ·rw[jb hE]
  unfold Kn at hE
  by_cases h1:1099511627776<a
  ·rw[jb h1] at hE;cases hE
  rw[ja h1] at hE
  by_cases h2:v7 st.dim ops≠0
  ·rw[jb h2] at hE;exact absurd hE h2
  rw[ja h2] at hE;have h2':v7 st.dim ops=0:=Decidable.not_not.1 h2
  by_cases h3:(qJ st.its t).isSome=true
  ·rw[jb h3] at hE;cases hE
  obtain ⟨_,_,c1,c2,c3,c4⟩:=jB4 h2';have hno:qJ st.its t=none:=by
   cases hz:qJ st.its t with
   |none=>rfl
   |some w=>rw[hz] at h3;exact absurd rfl h3
  refine ⟨⟨h.wf.d1,h.wf.d2,?_,λi hi=> ?_,by have:=h.wf.cl;dsimp only;omega,λc hc=> ?_⟩,h.k1,sk h.k2 _ hno⟩
  ·have:=h.wf.il
   simp;omega
  ·rcases jy.1 hi with hi|hi
   ·exact h.wf.io i hi
   ·obtain rfl:=ji.1 hi
    exact ⟨c2,c3,c4⟩
  ·have:=h.wf.co c hc
   exact ⟨this.1,by omega,this.2.2⟩
 ·rw[ja hE];exact h.mono zo
structure HV where
 id:Int
 dist:Int
 a:OA
 c:Nat
 vec:List Int
abbrev HV.cells (h:HV):List Value:=[.int .u64 h.id,.int .u64 h.dist,.slice h.a h.vec.length h.c]
abbrev I64 :Int→Value:=Value.int .i64
abbrev HV.val (h:HV):Value:=.agg #[.int .u64 h.id,.int .u64 h.dist,.slice h.a h.vec.length h.c]
abbrev HV.abs (h:HV):Int×Int×List Int:=(h.id,h.dist,h.vec)
structure NV where
 kind:Int
 txn:Int
 batch:Int
 stamp:Int
 after:Int
 mark:Int
 query:Int
 id:Int
 k:Int
 ef:Int
 code:Int
 who:Int
 pa:OA
 pc:Nat
 parts:List Int
 oa:OA
 oc:Nat
 ops:List OV
 va:OA
 vc:Nat
 vec:List Int
 ha:OA
 hc:Nat
 hits:List HV
abbrev NV.cells (n:NV):List Value:=[.int .u8 n.kind,.int .u64 n.txn,.int .u64 n.batch,.int .u64 n.stamp,.int .u64 n.after,.int .u64 n.mark,.int .u64 n.query,.int .u64 n.id,.int .i64 n.k,.int .i64 n.ef,.int .i64 n.code,.int .i64 n.who,
 .slice n.pa n.parts.length n.pc,.slice n.oa n.ops.length n.oc,.slice n.va n.vec.length n.vc,.slice n.ha n.hits.length n.hc]
abbrev NV.val (n:NV):Value:=.agg #[.int .u8 n.kind,.int .u64 n.txn,.int .u64 n.batch,.int .u64 n.stamp,.int .u64 n.after,.int .u64 n.mark,.int .u64 n.query,.int .u64 n.id,.int .i64 n.k,.int .i64 n.ef,.int .i64 n.code,.int .i64 n.who,
 .slice n.pa n.parts.length n.pc,.slice n.oa n.ops.length n.oc,.slice n.va n.vec.length n.vc,.slice n.ha n.hits.length n.hc]
def NV.bits (n:NV):List Bool:=[decide (0<n.txn),decide (0<n.batch),decide (0<n.stamp),decide (0<n.after),decide (0<n.mark),decide (0<n.query),decide (0<n.id),!decide (n.k=0),!decide (n.ef=0),!decide (n.code=0),!decide (n.who=0),decide (0<(n.parts.length:Int)),decide (0<(n.ops.length:Int)),decide (0<(n.vec.length:Int)),decide (0<(n.hits.length:Int))]
structure NA where
 kind:Int
 txn:Int
 batch:Int
 stamp:Int
 after:Int
 mark:Int
 query:Int
 id:Int
 k:Int
 ef:Int
 code:Int
 who:Int
 parts:List Int
 ops:VL
 vec:List Int
 hits:List (Int×Int×List Int)
abbrev NA.zero :NA:=⟨0,0,0,0,0,0,0,0,0,0,0,0,[],[],[],[]⟩
def NA.bits (n:NA):List Bool:=[decide (0<n.txn),decide (0<n.batch),decide (0<n.stamp),decide (0<n.after),decide (0<n.mark),decide (0<n.query),decide (0<n.id),!decide (n.k=0),!decide (n.ef=0),!decide (n.code=0),!decide (n.who=0),decide (0<(n.parts.length:Int)),decide (0<(n.ops.length:Int)),decide (0<(n.vec.length:Int)),decide (0<(n.hits.length:Int))]
def fldN :Nat→Nat
 |1=>4098|2=>518|3=>6153|4=>513|5=>517|6=>1|7=>1|8=>8672|9=>8692|10=>16928|11=>16932|12=>6153|13=>5|14=>1|15=>16|16=>16|17=>2055|18=>1|19=>7179|20=>1025|21=>1025|22=>1|_=>0
def xu (v:List Int):Bool:=decide (v.length=0)||wK v
def yi (o:Int×List Int):Bool:=decide (1099511627776<o.1)|| !xu o.2
def xA (h:Int×Int×List Int):Bool:=decide (1099511627776<h.1)|| !wK h.2.2
def cj (l:List Int)(k:Nat):Bool:=decide (0≤l.getD k 0)&&decide (l.getD k 0<16)&&(decide (k=0)||decide (l.getD (k - 1) 0<l.getD k 0))
def wL (l:List Int):Bool:=(List.range l.length).all (cj l)
def wQ (n:NA):Bool:=
 !(decide (1099511627776<max (max n.stamp n.after) n.mark)||decide (1099511627776<n.id)||decide (min (min (min n.k n.ef) n.who) n.code<0)||decide (16<n.k)||decide (256<n.ef)||decide (16≤n.who)||decide (13<n.code))&&
 !(decide (4<n.parts.length)||decide (16<n.ops.length)||decide (16<n.hits.length)|| !xu n.vec)&&wL n.parts&& !n.ops.any yi&& !n.hits.any xA
def qu (n:NA):Bool:=decide (1≤n.kind∧n.kind≤22)&&(n.bits.zipIdx.all λb=> !b.1||(fldN n.kind.toNat).testBit b.2)&&wQ n
abbrev NV.abs (n:NV):NA:=⟨n.kind,n.txn,n.batch,n.stamp,n.after,n.mark,n.query,n.id,n.k,n.ef,n.code,n.who,n.parts,n.ops.map OV.abs,n.vec,n.hits.map HV.abs⟩
theorem NV.bits_abs (n:NV):n.abs.bits=n.bits:=by unfold NA.bits NV.bits;simp
structure RdN (A:HL)(n:NV):Prop where
 p:qW A n.pa n.parts.length 1 (n.parts.map I64)
 o:RdO A n.oa n.ops
 v:qW A n.va n.vec.length 1 (n.vec.map yT)
 h:qW A n.ha n.hits.length 3 (n.hits.flatMap HV.cells)
 hv:∀h∈n.hits,qW A h.a h.vec.length 1 (h.vec.map yT)
theorem RdN.sub {A L:HL}{n:NV}(h:RdN A n)[s:tg A L]:RdN L n:=⟨h.p.sub,h.o.sub,h.v.sub,h.h.sub,λx hx=>(h.hv x hx).sub⟩
structure OkN (n:NV):Prop where
 p:n.parts.length≤1000000
 o:n.ops.length≤1000000
 ov:∀o∈n.ops,o.vec.length≤1000000
 v:n.vec.length≤1000000
 h:n.hits.length≤1000000
 hv:∀h∈n.hits,h.vec.length≤1000000
def xG :List Bool→Nat
 | []=>0
 |b::l=>(if b then 1 else 0)+2*xG l
theorem jGz (b0 b1 b2 b3 b4 b5 b6 b7 b8 b9 b10 b11 b12 b13 b14:Bool):ZV (W3 1 15) (15*1) (cellsOf [(0,Value.bool b0),(1,Value.bool b1),(2,Value.bool b2),(3,Value.bool b3),(4,Value.bool b4),(5,Value.bool b5),(6,Value.bool b6),(7,Value.bool b7),(8,Value.bool b8),(9,Value.bool b9),(10,Value.bool b10),(11,Value.bool b11),(12,Value.bool b12),(13,Value.bool b13),(14,Value.bool b14)])=true:=by rfl
theorem jFg (b0 b1 b2 b3 b4 b5 b6 b7 b8 b9 b10 b11 b12 b13 b14:Bool):WI (W3 1 15) [Value.bool false,Value.bool false,Value.bool false,Value.bool false,Value.bool false,Value.bool false,Value.bool false,Value.bool false,Value.bool false,Value.bool false,Value.bool false,Value.bool false,Value.bool false,Value.bool false,Value.bool false] (cellsOf [(0,Value.bool b0),(1,Value.bool b1),(2,Value.bool b2),(3,Value.bool b3),(4,Value.bool b4),(5,Value.bool b5),(6,Value.bool b6),(7,Value.bool b7),(8,Value.bool b8),(9,Value.bool b9),(10,Value.bool b10),(11,Value.bool b11),(12,Value.bool b12),(13,Value.bool b13),(14,Value.bool b14)])=[Value.bool b0,Value.bool b1,Value.bool b2,Value.bool b3,Value.bool b4,Value.bool b5,Value.bool b6,Value.bool b7,Value.bool b8,Value.bool b9,Value.bool b10,Value.bool b11,Value.bool b12,Value.bool b13,Value.bool b14]:=by kernel_rfl
section
variable {P : Program} {n : Nat} {ops : List Oper} {f : vF} {A : HL} {d : Tmp} {ty : TypeId} {pos : String} {af : Array Edge}
theorem Y.ixa {x y:Operand}{t e:TypeId}{len bts i:Nat}{k:IntKind}{zs:List Value}{cs:Array Value}{v:Value}[h:YV P t len e][h2:Ty P e false 1 zs bts](hx:ev f x=some (.agg cs))(hy:ev f y=some (.int k (i:Int)))(hi:i<len)(hv:cs[i]? =some v):
  qk P n ops ⟨some d,.index t x y,ty,pos,af,none⟩ f A v:=
 Y.of (fun _ w s => by
  have e1:(0:Int)≤(i:Int)∧(i:Int)<(len:Int):=⟨by omega,by omega⟩
  simp[execOp,s.eval hx,s.eval hy,Instr.index,asIntOf,h.und,e1,part,h2.agg,h2.size,hv,hi])
theorem Y.or {x y:Operand}{t t':TypeId}{k:IntKind}{a b:Int}(hx:ev f x=some (.int k a))(hy:ev f y=some (.int k b)):qk P n ops ⟨some d,.binOp .or t x y t',ty,pos,af,none⟩ f A ((.int k (k.wrap ((BitVec.ofInt k.bits a)|||(BitVec.ofInt k.bits b)).toNat))):=  Y.of (λ_ w s=>by simp[execOp,s.eval hx,s.eval hy,eqGuard,binOp,Op.intBits])
theorem Y.andNot {x y:Operand}{t t':TypeId}{k:IntKind}{a b:Int}(hx:ev f x=some (.int k a))(hy:ev f y=some (.int k b)):qk P n ops ⟨some d,.binOp .andNot t x y t',ty,pos,af,none⟩ f A ((.int k (k.wrap ((BitVec.ofInt k.bits a)&&& ~~~(BitVec.ofInt k.bits b)).toNat))):=  Y.of (λ_ w s=>by simp[execOp,s.eval hx,s.eval hy,eqGuard,binOp,Op.intBits])
end
theorem jC3 {a i:Nat}(ha:a<2^i)(hi:i<15):IntKind.i64.wrap (((BitVec.ofInt IntKind.i64.bits (a:Int))|||(BitVec.ofInt IntKind.i64.bits (IntKind.i64.wrap ((1*2^i:Nat):Int)))).toNat:Int)=((a+2^i:Nat):Int):=by
 have hp:2^i≤2^14:=Nat.pow_le_pow_right zo zo;have e0:∀x:Nat,x<1000000→IntKind.i64.wrap (x:Int)=(x:Int):=λx hx=>vl zo zo
 have e:∀x:Nat,x<18446744073709551616→(BitVec.ofInt IntKind.i64.bits (x:Int)).toNat=x:=λx hx=>by
  show (BitVec.ofInt 64 (x:Int)).toNat=x
  simp;omega
 have e2:IntKind.i64.wrap ((1*2^i:Nat):Int)=((1*2^i:Nat):Int):=e0 _ zo;rw[e2,BitVec.toNat_or,e _ zo,e _ zo,Nat.one_mul];have h:=Nat.two_pow_add_eq_or_of_lt ha 1;rw[jX,Nat.or_comm] at h;rw[←h,e0 _ zo,Nat.add_comm]
theorem Yv :∀l:List Bool,xG l<2^l.length
 | []=>by simp[xG]
 |b::l=>by
  have:=Yv l;rw[jC,Nat.pow_succ];unfold xG
  cases b<;>simp<;>omega
theorem Yu (b:Bool):∀l:List Bool,xG (l++[b])=xG l+(if b then 2^l.length else 0)
 | []=>by cases b<;>simp[xG]
 |c::l=>by
  have:=Yu b l;rw[List.cons_append,jC,Nat.pow_succ];unfold xG;rw[this]
  cases b<;>simp<;>omega
theorem sr (n:NV)(L:HL):qh kY 162 [n.val] L (λr L'=>r=.int .i64 (xG n.bits)∧L'=L):=by
 refine qg Tryz.func162 rfl rfl rfl ?_
 iterate 60 (first|(refine GQ.y ?_;refine Q.y ?_)|refine Q.go ?_|(refine GQ.g ?_;refine Q.gq ?_)|(refine GQ.s ?_;refine Q.st ?_)|(refine GQ.a ?_;refine Q.al (λb1=> ?_)))
 iterate 3 (first|(refine GQ.y ?_;refine Q.y ?_)|refine Q.go ?_|(refine GQ.g ?_;refine Q.gq ?_)|(refine GQ.s ?_;refine Q.st ?_)|(refine GQ.a ?_;refine Q.al (λb1=> ?_)))
 refine S.y (Y.bda (l:=[_,_,_,_,_,_,_,_,_,_,_,_,_,_,_]) (cs:=n.bits.map Value.bool) rfl rfl (jGz _ _ _ _ _ _ _ _ _ _ _ _ _ _ _) (jFg _ _ _ _ _ _ _ _ _ _ _ _ _ _ _)) ?_;refine Q.r ?_;have hlen:n.bits.length=15:=rfl;refine ql (σ:=Nat) (λs=> [(1,.pointer (some ⟨b1,0,none⟩)),(55,.agg (n.bits.map Value.bool).toArray),(3,.int .i64 (xG (n.bits.take s))),(56,.int .i64 s)])
  (λ_=>pt b1 (cl n.cells 82)::L) (λs=>s≤15) (λs=>15 - s) 0 zt (kZ _) zo ?_
 intro k hk
 by_cases hlt:k<15
 ·obtain ⟨b,hb⟩:=qw (l:=n.bits) (by rw[hlen];exact hlt)
  have hv:(n.bits.map Value.bool).toArray[k]? =some (.bool b):=by simp[hb]
  have htk:n.bits.take (k+1)=n.bits.take k++[b]:=qz hb;have hl:xG (n.bits.take k)<2^k:=by
   have:=Yv (n.bits.take k);rw[jP,hlen,Nat.min_eq_left zo] at this;exact this
  have hs:=Yu b (n.bits.take k);rw[←htk,jP,hlen,Nat.min_eq_left zo] at hs;refine Q.r ?_;refine S.y (Y.ixa rfl rfl hlt hv) ?_
  cases b with
  |true=>
   refine Q.r ?_;refine S.y (Y.shl (a:=1) rfl rfl (by show k≤64;omega)) ?_;refine Q.r ?_;refine S.y (Y.or rfl rfl) ?_;rw[jC3 hl hlt];refine Q.r ?_;exact ⟨k+1,⟨rfl,rfl,jj some (jj (λz:Nat=>Value.int .i64 (z:Int)) hs.symm),rfl,trivial⟩,kZ _,by omega,by omega⟩
  |false=>
   refine Q.r ?_;exact ⟨k+1,⟨rfl,rfl,jj some (jj (λz:Nat=>Value.int .i64 (z:Int)) hs.symm),rfl,trivial⟩,kZ _,by omega,by omega⟩
 ·have:k=15:=by omega
  subst this;refine Q.r ?_;exact N.t rfl (qi.drop (kZ _)) ⟨rfl,rfl⟩
theorem tG (f:FuncId)(fs cs:List Value)[he:qj kY f](p:HV→Bool)(a:OA)(c:Nat)(xs:List HV)(A:HL)(h:qW A a xs.length 3 (xs.flatMap HV.cells))(hn:xs.length≤4611686018427387904)
  (hf:∀x∈xs,qh kY f (fs++[HV.val x]++cs) A (λv L'=>v=.bool (p x)∧L'=A)):
  qh kY 239 [.slice a xs.length c,.func (.func f) fs.toArray cs.toArray] A (λv L'=>(∃i:Int,v=.int .i64 i∧decide (0≤i)=xs.any p)∧L'=A):=by
 refine qg Tryz.func239 rfl rfl rfl ?_;refine Q.r ?_;refine ql (σ:=Nat) (λk=> [(0,.slice a xs.length c),(1,.func (.func f) fs.toArray cs.toArray),(7,.int .i64 xs.length),(8,.int .i64 k)]) (λ_=>A)
  (λk=>k≤xs.length∧(xs.take k).any p=false) (λk=>xs.length - k) 0 zt (kZ _) ⟨by omega,by simp⟩ ?_
 rintro k ⟨hk,hany⟩
 by_cases hlt:k<xs.length
 ·obtain ⟨x,hx⟩:=qw hlt
  obtain ⟨b,o,rfl,hr⟩:=qW.elem (g:=HV.cells) (λ_=>rfl) h hx rfl;have hmx:x∈xs:=jn hx;refine Q.r ?_;refine S.crF (fs:=fs) (cs:=cs) rfl rfl (hf x hmx) ?_;rintro _ _ ⟨rfl,rfl⟩
  cases hp:p x with
  |true=>
   refine Q.r ?_;exact N.t rfl (kZ _) ⟨⟨_,rfl,by rw[show xs.any p=true from ku.2 ⟨x,hmx,hp⟩];simp⟩,rfl⟩
  |false=>
   refine Q.r ?_;refine ⟨k+1,zt,kZ _,⟨by omega,?_⟩,by omega⟩;rw[qz hx,kW,hany]<;>simp[hp]
 ·have hke:k=xs.length:=by omega
  subst hke;rw[jI] at hany;refine Q.r ?_;exact N.t rfl (kZ _) ⟨⟨_,rfl,by rw[hany]<;>rfl⟩,rfl⟩
theorem tK (f:FuncId)(fs cs:List Value)[he:qj kY f](p:HV→Bool)(a:OA)(c:Nat)(xs:List HV)(A:HL)(h:qW A a xs.length 3 (xs.flatMap HV.cells))(hn:xs.length≤4611686018427387904)
  (hf:∀x∈xs,qh kY f (fs++[HV.val x]++cs) A (λv L'=>v=.bool (p x)∧L'=A)):
  qh kY 203 [.slice a xs.length c,.func (.func f) fs.toArray cs.toArray] A (λv L'=>v=.bool (xs.any p)∧L'=A):=by
 refine qg Tryz.func203 rfl rfl rfl ?_;refine Q.r ?_;refine S.cr rfl (tG f fs cs p a c xs A h hn hf) ?_;rintro _ _ ⟨⟨i,rfl,hi⟩,rfl⟩;refine Q.r ?_;exact N.t rfl (kZ _) ⟨by rw[←hi],rfl⟩
theorem yh (xs:List Int):xs.flatMap (λz=> [I64 z])=xs.map I64:=by induction xs with
 |nil=>rfl
 |cons x xs ih=>rw[jK,ih];rfl
theorem Z0 (a:OA)(c:Nat)(xs:List Int)(A:HL)(h:qW A a xs.length 1 (xs.map yT))(hn:xs.length≤1000000):
  qh kY 200 [.slice a xs.length c] A (λr L'=>r=.bool (xu xs)∧L'=A):=by
 unfold xu;refine qg Tryz.func200 rfl rfl rfl ?_
 by_cases h0:xs.length=0
 ·refine Q.r ?_
  exact N.t rfl (kZ _) ⟨by simp[h0],rfl⟩
 ·refine Q.r ?_
  refine S.cr rfl (Vk a c xs _ h.sub zo) ?_;rintro _ _ ⟨rfl,rfl⟩;refine Q.r ?_;exact N.t rfl (kZ _) ⟨by simp[h0],rfl⟩
theorem sU (o:OV)(A:HL)(h:qW A o.a o.vec.length 1 (o.vec.map yT))(hn:o.vec.length≤1000000):
  qh kY 202 ([]++[o.val]++[]) A (λr L'=>r=.bool (yi o.abs)∧L'=A):=by
 unfold yi;refine qg Tryz.func202 rfl rfl rfl ?_
 by_cases h0:1099511627776<o.id
 ·refine Q.r ?_;(repeat (intro b1;refine Q.r ?_))
  exact N.t rfl (qi.drop (kZ _)) ⟨by simp[h0],rfl⟩
 ·refine Q.r ?_;(repeat (intro b1;refine Q.r ?_))
  refine S.cr rfl (Z0 o.a o.c o.vec _ h.sub hn) ?_;rintro _ _ ⟨rfl,rfl⟩;refine Q.r ?_;exact N.t rfl (qi.drop (kZ _)) ⟨by simp[h0],rfl⟩
theorem sS (o:HV)(A:HL)(h:qW A o.a o.vec.length 1 (o.vec.map yT))(hn:o.vec.length≤1000000):
  qh kY 204 ([]++[o.val]++[]) A (λr L'=>r=.bool (xA o.abs)∧L'=A):=by
 unfold xA;refine qg Tryz.func204 rfl rfl rfl ?_
 by_cases h0:1099511627776<o.id
 ·refine Q.r ?_;(repeat (intro b1;refine Q.r ?_))
  exact N.t rfl (qi.drop (kZ _)) ⟨by simp[h0],rfl⟩
 ·refine Q.r ?_;(repeat (intro b1;refine Q.r ?_))
  refine S.cr rfl (Vk o.a o.c o.vec _ h.sub zo) ?_;rintro _ _ ⟨rfl,rfl⟩;refine Q.r ?_;exact N.t rfl (qi.drop (kZ _)) ⟨by simp[h0],rfl⟩
section
variable {P : Program} {n : Nat} {ops : List Oper} {f : vF} {A : HL} {d : Tmp} {ty : TypeId} {pos : String} {af : Array Edge}
theorem Y.max3 {x y z:Operand}{t t' t2:TypeId}{k:IntKind}{a b c:Int}(hx:ev f x=some (.int k a))(hy:ev f y=some (.int k b))(hz:ev f z=some (.int k c)):
  qk P n ops ⟨some d,.call ⟨.builtin .max,#[x,y,z],#[t,t',t2]⟩,ty,pos,af,none⟩ f A (.int k (Max.max (Max.max a b) c)):=
 Y.of λac w s=>by
  have h:∀a b:Int,Max.max a b=if a<b then b else a:=λa b=>by simp only[Int.max_def];split<;>split<;>omega
  simp[execOp,resolve,invoke,s.eval hx,s.eval hy,s.eval hz,builtin,Builtin.max_,Builtin.max2,h]
theorem Y.min4 {x y z u:Operand}{t t' t2 t3:TypeId}{k:IntKind}{a b c e:Int}(hx:ev f x=some (.int k a))(hy:ev f y=some (.int k b))(hz:ev f z=some (.int k c))(hu:ev f u=some (.int k e)):
  qk P n ops ⟨some d,.call ⟨.builtin .min,#[x,y,z,u],#[t,t',t2,t3]⟩,ty,pos,af,none⟩ f A (.int k (Min.min (Min.min (Min.min a b) c) e)):=
 Y.of λac w s=>by
  have h:∀a b:Int,Min.min a b=if b<a then b else a:=λa b=>by simp only[Int.min_def];split<;>split<;>omega
  simp[execOp,resolve,invoke,s.eval hx,s.eval hy,s.eval hz,s.eval hu,builtin,Builtin.min_,Builtin.min2,h]
end
theorem cZ (n:NV)(A:HL)(h:RdN A n)(hk:OkN n):
  qh kY 163 [n.val] A (λr L'=>r=.bool (wQ n.abs)∧L'=A):=by
 have hE : wQ n.abs = (!(decide (1099511627776 < max (max n.stamp n.after) n.mark) || decide (1099511627776 < n.id) || decide (min (min (min n.k n.ef) n.who) n.code < 0) || decide (16 < n.k) || decide (256 < n.ef) || decide (16 ≤ n.who) || decide (13 < n.code)) &&
   !(decide (4<n.parts.length)||decide (16<n.ops.length)||decide (16<n.hits.length)|| !xu n.vec)&&wL n.parts&& !(n.ops.any λo=>yi o.abs)&& !(n.hits.any λo=>xA o.abs)):=by
  unfold wQ;simp[List.any_map];rfl
 rw[hE];clear hE;refine qg Tryz.func163 rfl rfl rfl ?_
 by_cases a1:1099511627776<max (max n.stamp n.after) n.mark
 ·refine Q.r ?_;(repeat (intro b1;refine Q.r ?_));refine S.y (Y.max3 rfl rfl rfl) ?_;(refine Q.r ?_)
  exact N.t rfl (qi.drop (kZ _)) ⟨by simp only[jo a1,j6,j4,jW,jR,jH,jD,jN,jQ,jJ,jT],rfl⟩
 by_cases a2:1099511627776<n.id
 ·refine Q.r ?_;(repeat (intro b1;refine Q.r ?_));refine S.y (Y.max3 rfl rfl rfl) ?_;(refine Q.r ?_)
  exact N.t rfl (qi.drop (kZ _)) ⟨by simp only[jo a2,j6,j4,jW,jR,jH,jD,jN,jQ,jJ,jT],rfl⟩
 by_cases a3:min (min (min n.k n.ef) n.who) n.code<0
 ·refine Q.r ?_;(repeat (intro b1;refine Q.r ?_));refine S.y (Y.max3 rfl rfl rfl) ?_;(refine Q.r ?_);refine S.y (Y.min4 rfl rfl rfl rfl) ?_;(refine Q.r ?_)
  exact N.t rfl (qi.drop (kZ _)) ⟨by simp only[jo a3,j6,j4,jW,jR,jH,jD,jN,jQ,jJ,jT],rfl⟩
 by_cases a4:16<n.k
 ·refine Q.r ?_;(repeat (intro b1;refine Q.r ?_));refine S.y (Y.max3 rfl rfl rfl) ?_;(refine Q.r ?_);refine S.y (Y.min4 rfl rfl rfl rfl) ?_;(refine Q.r ?_)
  exact N.t rfl (qi.drop (kZ _)) ⟨by simp only[jo a4,j6,j4,jW,jR,jH,jD,jN,jQ,jJ,jT],rfl⟩
 by_cases a5:256<n.ef
 ·refine Q.r ?_;(repeat (intro b1;refine Q.r ?_));refine S.y (Y.max3 rfl rfl rfl) ?_;(refine Q.r ?_);refine S.y (Y.min4 rfl rfl rfl rfl) ?_;(refine Q.r ?_)
  exact N.t rfl (qi.drop (kZ _)) ⟨by simp only[jo a5,j6,j4,jW,jR,jH,jD,jN,jQ,jJ,jT],rfl⟩
 by_cases a6:16≤n.who
 ·refine Q.r ?_;(repeat (intro b1;refine Q.r ?_));refine S.y (Y.max3 rfl rfl rfl) ?_;(refine Q.r ?_);refine S.y (Y.min4 rfl rfl rfl rfl) ?_;(refine Q.r ?_)
  exact N.t rfl (qi.drop (kZ _)) ⟨by simp only[jo a6,j6,j4,jW,jR,jH,jD,jN,jQ,jJ,jT],rfl⟩
 by_cases a7:13<n.code
 ·refine Q.r ?_;(repeat (intro b1;refine Q.r ?_));refine S.y (Y.max3 rfl rfl rfl) ?_;(refine Q.r ?_);refine S.y (Y.min4 rfl rfl rfl rfl) ?_;(refine Q.r ?_)
  exact N.t rfl (qi.drop (kZ _)) ⟨by simp only[jo a7,j6,j4,jW,jR,jH,jD,jN,jQ,jJ,jT],rfl⟩
 by_cases q1:4<n.parts.length
 ·refine Q.r ?_;(repeat (intro b1;refine Q.r ?_));refine S.y (Y.max3 rfl rfl rfl) ?_;(refine Q.r ?_);refine S.y (Y.min4 rfl rfl rfl rfl) ?_;(refine Q.r ?_)
  exact N.t rfl (qi.drop (kZ _)) ⟨by simp only[jo q1,j6,j4,jW,jR,jH,jD,jN,jQ,jJ,jT],rfl⟩
 by_cases q2:16<n.ops.length
 ·refine Q.r ?_;(repeat (intro b1;refine Q.r ?_));refine S.y (Y.max3 rfl rfl rfl) ?_;(refine Q.r ?_);refine S.y (Y.min4 rfl rfl rfl rfl) ?_;(refine Q.r ?_)
  exact N.t rfl (qi.drop (kZ _)) ⟨by simp only[jo q2,j6,j4,jW,jR,jH,jD,jN,jQ,jJ,jT],rfl⟩
 by_cases q3:16<n.hits.length
 ·refine Q.r ?_;(repeat (intro b1;refine Q.r ?_));refine S.y (Y.max3 rfl rfl rfl) ?_;(refine Q.r ?_);refine S.y (Y.min4 rfl rfl rfl rfl) ?_;(refine Q.r ?_)
  exact N.t rfl (qi.drop (kZ _)) ⟨by simp only[jo q3,j6,j4,jW,jR,jH,jD,jN,jQ,jJ,jT],rfl⟩
 refine Q.r ?_;(repeat (intro b1;refine Q.r ?_));refine S.y (Y.max3 rfl rfl rfl) ?_;(refine Q.r ?_);refine S.y (Y.min4 rfl rfl rfl rfl) ?_;(refine Q.r ?_);refine S.cr rfl (Z0 n.va n.vc n.vec _ h.v.sub hk.v) ?_;rintro _ _ ⟨rfl,rfl⟩
 cases hbv:xu n.vec with
 |false=>
  refine Q.r ?_;exact N.t rfl (qi.drop (kZ _)) ⟨by simp only[j6,j4,jW,jR,jH,jD,jN,jQ,jJ,jT],rfl⟩
 |true=>
 simp only[jv a1,jv a2,jv a3,jv a4,jv a5,jv a6,jv a7,jv q1,jv q2,jv q3,j6,j4,jW,jR,jH,jD,jN,jQ,jJ,jT];clear a1 a2 a3 a4 a5 a6 a7;refine Q.r ?_;refine qx (σ:=Unit) (λ_=> [(1,.pointer (some ⟨b1,0,none⟩))]) (λ_=>pt b1 (cl n.cells 82)::A) (λ_=>wL n.parts=true) ?_ ?_
 ·refine ql (σ:=Nat) (λk=> [(1,.pointer (some ⟨b1,0,none⟩)),(74,.slice n.pa n.parts.length n.pc),(75,.int .i64 n.parts.length),(76,.int .i64 k)])
   (λ_=>pt b1 (cl n.cells 82)::A) (λk=>k≤n.parts.length∧(List.range k).all (cj n.parts)=true) (λk=>n.parts.length - k) 0 zt (kZ _) ⟨by omega,rfl⟩ ?_
  rintro k ⟨hk1,hk2⟩
  by_cases hlt:k<n.parts.length
  ·obtain ⟨p,hp⟩:=qw hlt
   obtain ⟨bp,op,hpa,hr⟩:=qW.elem (g:=λz=> [I64 z]) (λ_=>rfl) (by rw[yh];exact h.p) hp rfl;have hgp:n.parts.getD k 0=p:=by rw[j8,hp];rfl
   have hfail:cj n.parts k=false→wL n.parts=false:=λhh=>by
    unfold wL;rw[List.all_eq_false];exact ⟨k,List.mem_range.2 hlt,by rw[hh];decide⟩
   rw[hpa]
   by_cases e1:p<0
   ·repeat (first|refine S.y (Y.ldRj rfl (by first|assumption|exact vg.sub (by assumption)) rfl) ?_|(refine GQ.y ?_;refine Q.y ?_)|refine Q.go ?_|(refine GQ.g ?_;refine Q.gq ?_)|(refine GQ.s ?_;refine Q.st ?_)|(refine GQ.g ?_;refine Q.gd ?_)|refine Q.ct rfl ?_|refine Q.cf rfl ?_|(refine GQ.a ?_;refine Q.al (λb1=> ?_)))
    exact N.t rfl (qi.drop (kZ _)) ⟨by rw[hfail (by unfold cj;rw[hgp,jv (by omega:¬0≤p)];rfl)];rfl,rfl⟩
   by_cases e2:16≤p
   ·repeat (first|refine S.y (Y.ldRj rfl (by first|assumption|exact vg.sub (by assumption)) rfl) ?_|(refine GQ.y ?_;refine Q.y ?_)|refine Q.go ?_|(refine GQ.g ?_;refine Q.gq ?_)|(refine GQ.s ?_;refine Q.st ?_)|(refine GQ.g ?_;refine Q.gd ?_)|refine Q.ct rfl ?_|refine Q.cf rfl ?_|(refine GQ.a ?_;refine Q.al (λb1=> ?_)))
    exact N.t rfl (qi.drop (kZ _)) ⟨by rw[hfail (by unfold cj;rw[hgp,jv (by omega:¬p<16),jQ];rfl)];rfl,rfl⟩
   by_cases e3:k=0
   ·subst e3
    repeat (first|refine S.y (Y.ldRj rfl (by first|assumption|exact vg.sub (by assumption)) rfl) ?_|(refine GQ.y ?_;refine Q.y ?_)|refine Q.go ?_|(refine GQ.g ?_;refine Q.gq ?_)|(refine GQ.s ?_;refine Q.st ?_)|(refine GQ.g ?_;refine Q.gd ?_)|refine Q.ct rfl ?_|refine Q.cf rfl ?_|(refine GQ.a ?_;refine Q.al (λb1=> ?_)))
    exact ⟨1,⟨by rw[←hpa];rfl,by rw[←hpa];rfl,rfl,rfl,trivial⟩,kZ _,⟨by omega,by rw[show List.range (0+1)=[0] from rfl,List.all_cons,List.all_nil];unfold cj;rw[hgp,jo (by omega:(0:Int)≤p),jo (by omega:p<16)];rfl⟩,by omega⟩
   ·obtain ⟨q,hq⟩:=qw (l:=n.parts) (show k - 1<n.parts.length by omega)
    obtain ⟨bq,oq,hqa,hr2⟩:=qW.elem (g:=λz=> [I64 z]) (λ_=>rfl) (by rw[yh];exact h.p) hq rfl;have hgq:n.parts.getD (k - 1) 0=q:=by rw[j8,hq];rfl
    by_cases e4:p≤q
    ·refine Q.rd6 ?_
     rw[hqa];refine Q.rd6 ?_;exact N.t rfl (qi.drop (kZ _)) ⟨by rw[hfail (by unfold cj;rw[hgp,hgq,jv e3,jv (by omega:¬q<p),jW,jQ])];rfl,rfl⟩
    ·refine Q.rd6 ?_
     rw[hqa];refine Q.rd6 ?_;refine ⟨k+1,⟨rfl,by first|rfl|(rw[←hqa];rfl)|(rw[←hpa];rfl)|(rw[hqa];rfl)|(rw[hpa];rfl),rfl,rfl,trivial⟩,kZ _,⟨by omega,?_⟩,by omega⟩;rw[List.range_succ,List.all_append,hk2,List.all_cons,List.all_nil];unfold cj;rw[hgp,hgq,jo (by omega:(0:Int)≤p),jo (by omega:p<16),jo (by omega:q<p),j6];rfl
  ·have:k=n.parts.length:=by omega
   subst this;refine Q.r ?_;exact ⟨(),zt,kZ _,hk2⟩
 ·rintro _ hp
  refine Q.r ?_;refine S.cr rfl (tI 202 [] [] (λo=>yi o.abs) n.oa n.oc n.ops _ h.o.1.sub (by have:=hk.o;omega) (λo ho=>sU o _ ((h.o.2 o ho).sub) (hk.ov o ho))) ?_;rintro _ _ ⟨rfl,rfl⟩
  cases hop:n.ops.any λo=>yi o.abs with
  |true=>
   refine Q.r ?_;exact N.t rfl (qi.drop (kZ _)) ⟨by simp only[j6,j4,jW,jR,jH,jD,jN,jQ,jJ,jT],rfl⟩
  |false=>
   refine Q.r ?_;refine S.cr rfl (tK 204 [] [] (λo=>xA o.abs) n.ha n.hc n.hits _ h.h.sub (by have:=hk.h;omega) (λo ho=>sS o _ ((h.hv o ho).sub) (hk.hv o ho))) ?_;rintro _ _ ⟨rfl,rfl⟩;refine Q.r ?_;exact N.t rfl (qi.drop (kZ _)) ⟨by simp only[hp,j6,j4,jW,jR,jH,jD,jN,jQ,jJ,jT],rfl⟩
abbrev ST :=List UInt8×Nat
abbrev ST.cells (p:ST):List Value:=[str p.1,.int .i64 (p.2:Int)]
def J4 :List ST:=[([],0),([65,115,107],4098),([82,101,112,108,121],518),([80,114,101,112,97,114,101],6153),([86,111,116,101],513),([68,101,99,105,100,101],517),([65,99,107],1),([80,114,111,98,101],1),([81,117,101,114,121],8672),([76,111,111,107],8692),([83,101,101,110],16928),([82,101,115,117,108,116],16932),([80,114,101,112,97,114,101,100],6153),([67,111,109,109,105,116,116,101,100],5),([65,98,111,114,116,101,100],1),([83,119,101,112,116],16),([69,112,111,99,104],16),([67,111,109,109,105,116],2055),([69,110,100],1),([66,101,103,105,110],7179),([89,101,115],1025),([65,99,107,101,100],1025),([71,111,110,101],1)]
def sortsC :List Value:=J4.flatMap ST.cells
def wx (k:Nat):ST:=(J4[k]?).getD ([],0)
theorem XM (k:Nat):(wx k).2=fldN k:=by
 by_cases h:k<23
 ·exact (by decide:∀k,k<23→(wx k).2=fldN k) k h
 ·have h1:wx k=([],0):=by
   unfold wx;rw[List.getElem?_eq_none (by show 23≤k;omega)];rfl
  rw[h1];unfold fldN
  split<;>first|omega|rfl
theorem Zt (k:Nat):(decide ((wx k).1=[]))= !decide (1≤k∧k≤22):=by
 by_cases h:k<23
 ·exact (by decide:∀k,k<23→(decide ((wx k).1=[]))= !decide (1≤k∧k≤22)) k h
 ·have h1:wx k=([],0):=by
   unfold wx;rw[List.getElem?_eq_none (by show 23≤k;omega)];rfl
  rw[h1,jv (by omega:¬(1≤k∧k≤22))];rfl
theorem Wx (k:Nat)(A:HL)(hT:vg A 0 0 sortsC)(hk:k≤255):
  qh kY 159 [.int .u8 (k:Int)] A (λr L'=>r=.agg (ST.cells (wx k)).toArray∧L'=A):=by
 refine qg Tryz.func159 rfl rfl rfl ?_
 by_cases h:23≤k
 ·have h1:wx k=([],0):=by
   unfold wx;rw[List.getElem?_eq_none (by show 23≤k;omega)];rfl
  rw[h1];refine Q.r ?_;(repeat (intro b1;refine Q.r ?_));refine S.y (Y.cvi rfl) ?_;rw[vl zo zo];refine Q.r ?_;exact N.r1 RV.c (qi.drop (kZ _)) ⟨rfl,rfl⟩
 ·have hs:J4[k]? =some (wx k):=by
   unfold wx;rw[jY (show k<J4.length by show k<23;omega)];rfl
  have hr:vg A 0 (0+k*2) (ST.cells (wx k)):=hT.part λj v e=>JH (g:=ST.cells) (λ_=>rfl) J4 k j _ v hs e
  refine Q.r ?_;(repeat (intro b1;refine Q.r ?_));refine S.y (Y.cvi rfl) ?_;rw[vl zo zo];refine Q.rn ?_;exact N.r1 RV.c (qi.drop (kZ _)) ⟨rfl,rfl⟩
theorem Ji :∀(l:List Bool) (i:Nat),(xG l).testBit i=l.getD i false
 | [],i=>by simp[xG]
 |b::l,0=>by
  unfold xG;rw[Nat.testBit_zero]
  cases b<;>simp[Nat.add_mod]
 |b::l,i+1=>by
  unfold xG;rw[Nat.testBit_succ,List.getD_cons_succ,←Ji l i]
  congr 1
  cases b<;>simp<;>omega
theorem jDq (a f:Nat)(ha:a<2^15):IntKind.i64.wrap (((BitVec.ofInt IntKind.i64.bits (a:Int))&&& ~~~(BitVec.ofInt IntKind.i64.bits (f:Int))).toNat:Int)=(((BitVec.ofNat 64 a&&& ~~~ BitVec.ofNat 64 f).toNat:Nat):Int):=by
 have e:∀x:Nat,BitVec.ofInt IntKind.i64.bits (x:Int)=BitVec.ofNat 64 x:=λx=>by
  show BitVec.ofInt 64 (x:Int)=_
  rw[BitVec.ofInt_natCast]
 rw[e,e];have h:(BitVec.ofNat 64 a&&& ~~~ BitVec.ofNat 64 f).toNat≤a:=by
  rw[BitVec.toNat_and];refine ke Nat.and_le_left ?_
  simp;omega
 show IntKind.i64.wrap (((BitVec.ofNat 64 a&&& ~~~ BitVec.ofNat 64 f).toNat:Nat):Int)=_
 exact vl zo zo
theorem su (n:NA)(f:Nat):decide ((((BitVec.ofNat 64 (xG n.bits)&&& ~~~ BitVec.ofNat 64 f).toNat:Nat):Int)=0)=n.bits.zipIdx.all λb=> !b.1||f.testBit b.2:=by
 have hl:n.bits.length=15:=rfl;rw[Bool.eq_iff_iff,decide_eq_true_iff,List.all_eq_true]
 constructor
 ·intro h b hb
  obtain ⟨x,i⟩:=b;have hi:=List.mem_zipIdx_iff_getElem?.1 hb;dsimp only at hi ⊢
  cases x with
  |false=>rfl
  |true=>
   have hlt:i<15:=by rw[←hl];exact (jm.1 hi).1
   have h0:(BitVec.ofNat 64 (xG n.bits)&&& ~~~ BitVec.ofNat 64 f)=0#64:=BitVec.eq_of_toNat_eq (by simpa using h);have h1:=jj (λv:BitVec 64=>v.getLsbD i) h0;simp only[BitVec.getLsbD_and,BitVec.getLsbD_not,BitVec.getLsbD_ofNat] at h1;rw[Ji,j8,hi] at h1
   simp[show i<64 by omega] at h1
   simpa using h1
 ·intro h
  have h0:(BitVec.ofNat 64 (xG n.bits)&&& ~~~ BitVec.ofNat 64 f)=0#64:=by
   apply BitVec.eq_of_getLsbD_eq;intro i hi;simp only[BitVec.getLsbD_and,BitVec.getLsbD_not,BitVec.getLsbD_ofNat,BitVec.getLsbD_zero];rw[Ji,j8]
   cases hb:n.bits[i]? with
   |none=>simp
   |some b=>
    have:=h (b,i) (List.mem_zipIdx_iff_getElem?.2 hb);dsimp only at this
    cases b with
    |false=>simp
    |true=>simp at this;simp[this,hi]
  rw[h0];rfl
theorem Je (n:NV)(A:HL)(h:RdN A n)(hk:OkN n)(hT:vg A 0 0 sortsC)(h0:0≤n.kind∧n.kind≤255):
  qh kY 87 [n.val] A (λr L'=>r=.bool (qu n.abs)∧L'=A):=by
 obtain ⟨k,hkk⟩:∃k:Nat,n.kind=(k:Int):=⟨n.kind.toNat,by omega⟩;have hbd:xG n.bits<2^15:=Yv n.bits;have hE:qu n.abs=((!decide ((wx k).1=[]))&&decide ((((BitVec.ofNat 64 (xG n.bits)&&& ~~~ BitVec.ofNat 64 (wx k).2).toNat:Nat):Int)=0)&&wQ n.abs):=by
  have:=su n.abs (wx k).2;rw[NV.bits_abs] at this;unfold qu;rw[NV.bits_abs,this,Zt,XM,Bool.not_not]
  show (decide (1≤n.kind∧n.kind≤22)&&(n.bits.zipIdx.all λb=> !b.1||(fldN n.kind.toNat).testBit b.2)&&wQ n.abs)=_
  rw[hkk,kz,show decide (1≤(k:Int)∧(k:Int)≤22)=decide (1≤k∧k≤22) from by congr 1;simp;omega]
 rw[hE];clear hE;refine qg Tryz.func87 rfl rfl rfl ?_;refine Q.r ?_;(repeat (intro b1;refine Q.r ?_));refine S.cr (args:=[.int .u8 (k:Int)]) (by rw[←hkk];rfl) (Wx k _ hT.sub zo) ?_;rintro _ _ ⟨rfl,rfl⟩
 by_cases hn:(wx k).1=[]
 ·rw[jo hn]
  refine Q.r ?_;(repeat (intro b1;refine Q.r ?_));refine Q.dgo [true,true] [5,13] [] [0,1,2,3,4,6,7,5,8,9,10,11,12,13,14,15] ?_;refine Q.rd ?_;refine Q.r ?_;exact N.t rfl (qi.drop (qi.drop (kZ _))) ⟨by simp only[jH,jN],rfl⟩
 rw[jv hn];refine Q.r ?_;(repeat (intro b1;refine Q.r ?_));refine Q.dgo [true,true] [5,13] [] [0,1,2,3,4,6,7,5,8,9,10,11,12,13,14,15] ?_;refine Q.rd ?_;refine D.e rfl rfl rfl ?_;refine S.guard rfl ?_;refine S.cr rfl (sr n _) ?_;rintro _ _ ⟨rfl,rfl⟩;refine Q.r ?_;refine D.y rfl rfl rfl zk (Y.guard rfl (Y.andNot rfl rfl)) ?_;rw[jDq _ _ hbd];generalize (BitVec.ofNat 64 (xG n.bits)&&& ~~~ BitVec.ofNat 64 (wx k).2).toNat=z
 by_cases hz:(z:Int)=0
 ·rw[jo hz]
  refine Q.rd ?_;refine D.e rfl rfl rfl ?_;refine S.guard rfl ?_;refine S.cr rfl (cZ n _ h hk) ?_;rintro _ _ ⟨rfl,rfl⟩;refine Q.r ?_;refine Q.rd ?_;refine Q.r ?_;exact N.t rfl (qi.drop (qi.drop (kZ _))) ⟨by simp only[jD,jJ],rfl⟩
 ·rw[jv hz]
  refine Q.rd ?_;refine Q.r ?_;exact N.t rfl (qi.drop (qi.drop (kZ _))) ⟨by simp only[jD,jQ,jN],rfl⟩
end Go.Proofs.YtlnfjhiphlfkjaaGreatDoor
namespace Go.Proofs.YtlnfjhiphlfkjaaGreatDoor
open Go Go.SX
structure JS where
 v:VS
 parts:List (Int×List Int)
 done:List (Int×Int)
structure PA where
 rec_:List NA
 mail:List (Int×NA)
 els:List (Int×NA)
def PA.none :PA:=⟨[],[],[]⟩
abbrev Zn (txn code:Int):Int×NA:=(0,{NA.zero with kind:=4,txn:=txn,code:=code})
def QU (st:VS)(ops:VL):Bool:=st.its.any λi=>i.2.2.any λo=>Kb ops o.1
def YC (st:VS)(s:Int)(ops:VL):Bool:= !st.ch.any λc=>decide (s≤KP c.2)&&Kb ops c.1
def jEf (j:JS)(n:NA):PA:=
 if (qJ j.done n.txn).isSome∨v7 j.v.dim n.ops≠0 then PA.none
 else if (qJ j.v.its n.txn).isSome then ⟨[],[Zn n.txn 0],[]⟩
 else if QU j.v n.ops then ⟨[],[Zn n.txn 11],[]⟩
 else ⟨[{n with kind:=12}],[Zn n.txn 0],[Zn n.txn 8]⟩
abbrev jFz (txn:Int):Int×NA:=(0,{NA.zero with kind:=6,txn:=txn})
def jEs (j:JS)(from_:Int)(n:NA):PA:=
 if n.code≠0 then if (qJ j.v.its n.txn).isSome∧from_=0 then ⟨[{NA.zero with kind:=14,txn:=n.txn}],[],[]⟩ else PA.none
 else match qJ j.done n.txn with
  |some s=>if s=n.stamp then ⟨[],[jFz n.txn],[]⟩ else PA.none
  |none=>match qJ j.v.its n.txn with
   |some i=>if max i.1 j.v.mark<n.stamp∧YC j.v n.stamp i.2=true then ⟨[{NA.zero with kind:=13,txn:=n.txn,stamp:=n.stamp}],[jFz n.txn],[]⟩ else PA.none
   |none=>PA.none
def WA (j:JS)(from_:Int)(n:NA):PA:=
 if qu n=false then PA.none
 else if n.kind=3 then if from_=0 then jEf j n else PA.none
 else if n.kind=5 then jEs j from_ n
 else if n.kind=7 then match qJ j.done n.txn with
  |some s=>⟨[],[(from_,{NA.zero with kind:=5,txn:=n.txn,stamp:=s})],[]⟩
  |none=>PA.none
 else PA.none
def gm (j:JS)(n:NA):Int:=
 if qu n=false then 4
 else if n.kind=12 then Kn j.v n.txn n.after n.ops
 else if n.kind=13 then Wk j.v n.txn n.stamp
 else if n.kind=14 then if (qJ j.v.its n.txn).isSome then 0 else 6
 else if n.kind=15 then 0
 else 4
def zH (j:JS)(n:NA):JS:=
 if gm j n≠0 then j
 else if n.kind=12 then ⟨zz j.v n.txn n.after n.ops,qZ j.parts n.txn n.parts,j.done⟩
 else if n.kind=13 then ⟨Kh j.v n.txn n.stamp,qT j.parts n.txn,qZ j.done n.txn n.stamp⟩
 else if n.kind=14 then ⟨{j.v with its:=qT j.v.its n.txn},qT j.parts n.txn,j.done⟩
 else if n.kind=15 then ⟨bO j.v n.mark,j.parts,j.done⟩
 else j
structure JOK (j:JS)(n:Nat):Prop where
 w:p7 j.v n
 kp:qn j.parts
 kd:qn j.done
 o:∀t s,qJ j.done t=some s→qJ j.v.its t=none
 p:∀t s,qJ j.done t=some s→0<s
 m:0≤j.v.mark
 ne:∀c∈j.v.ch,0<c.2.length
theorem fh {t:Int}(h:0≤t):qu {NA.zero with kind:=14,txn:=t}=true:=by
 unfold qu wQ NA.bits NA.zero xu
 by_cases h0:0<t
 ·simp[h0,List.zipIdx,fldN,wL]
 ·simp[h0,List.zipIdx,fldN,wL]
theorem bT {t s:Int}(h2:s≤1099511627776):qu {NA.zero with kind:=13,txn:=t,stamp:=s}=true:=by
 unfold qu wQ NA.bits NA.zero xu
 by_cases h0:0<t<;>by_cases h1:0<s<;>simp[h0,h1,List.zipIdx,fldN,wL]<;>first|omega|(refine ⟨?_,?_⟩<;>first|decide|omega)
theorem lQ {n:NA}(h:qu n=true)(hk:n.kind=3):qu {n with kind:=12}=true:=by
 unfold qu at h ⊢;rw[hk] at h;exact h
theorem Wz {n:NA}(h:qu n=true):n.stamp≤1099511627776∧n.after≤1099511627776∧n.mark≤1099511627776:=by
 unfold qu wQ at h;simp only[jF,kL,Bool.or_eq_false_iff,j5] at h;omega
theorem ZP {α:Type}{o:Option α}(h:¬o.isSome=true):o=none:=by cases o with
 |none=>rfl
 |some a=>exact absurd rfl h
theorem fL {κ α:Type}[DecidableEq κ]{m:List (κ×α)}{x y:κ}{a:α}(h:qJ m x=none):qJ (m++[(x,a)]) y=if y=x then some a else qJ m y:=by
 have hm:=fK h
 by_cases hy:y=x
 ·subst hy
  rw[jb rfl];exact Jc (q:=[]) hm
 ·rw[ja hy]
  unfold qJ;rw[List.find?_append];have:(List.find? (λp:κ×α=>decide (p.1=y)) [(x,a)])=none:=by simp[Ne.symm hy]
  rw[this,Option.or_none]
theorem jBp {κ α:Type}[DecidableEq κ](m:List (κ×α))(x:κ):qJ (qT m x) x=none:=zB λu hu=>by
 have:=(jB.1 hu).2
 simpa using this
theorem KN {κ α:Type}[DecidableEq κ]{m:List (κ×α)}(x y:κ):qJ (qT m x) y=if y=x then none else qJ m y:=by
 by_cases hy:y=x
 ·subst hy;rw[jb rfl,jBp]
 ·rw[ja hy,jDk x y hy]
theorem lC {st:VS}{ops:VL}(h:QU st ops=false):(ops.any λo=>st.its.any λi=>Kb i.2.2 o.1)=false:=by
 rw[List.any_eq_false];intro o ho hh;obtain ⟨i,hi,hx⟩:=ku.1 hh;unfold Kb at hx;obtain ⟨u,hu,hux⟩:=ku.1 hx;have hux:=kV hux;have:QU st ops=true:=by
  unfold QU;refine ku.2 ⟨i,hi,ku.2 ⟨u,hu,?_⟩⟩;unfold Kb;exact ku.2 ⟨o,ho,jo hux.symm⟩
 rw[h] at this;cases this
theorem rJ {j:JS}{n:NA}(ha:n.after≤1099511627776)(hc:v7 j.v.dim n.ops=0)(hl:qJ j.v.its n.txn=none)(ht:QU j.v n.ops=false):Kn j.v n.txn n.after n.ops=0:=by
 unfold Kn;rw[ja zo,ja (by simp[hc]),hl,ja (by simp),lC ht];rfl
theorem gy {j:JS}{t s:Int}{i:Int×VL}(hl:qJ j.v.its t=some i)(h1:max i.1 j.v.mark<s)(hm:0≤j.v.mark)(h2:s≤1099511627776)(ha:YC j.v s i.2=true):Wk j.v t s=0:=by
 unfold Wk;rw[hl];dsimp only;rw[ja zo];have hno:(i.2.any λo=>decide (s≤KP (Xc j.v.ch o.1)))=false:=by
  rw[List.any_eq_false];intro o ho hh;have hh:=kV hh;unfold Xc at hh
  cases hz:qJ j.v.ch o.1 with
  |none=>
   rw[hz] at hh;have:KP ([]:VL)=0:=rfl;rw[Option.getD_none,this] at hh;omega
  |some w=>
   rw[hz,Option.getD_some] at hh;have hmem:=Jb hz;unfold YC at ha;rw[kL,List.any_eq_false] at ha;refine ha _ hmem ?_;rw[jF];refine ⟨jo hh,?_⟩;unfold Kb;exact ku.2 ⟨o,ho,jo rfl⟩
 rw[hno,ja (by simp),ja zo]
theorem sW {s:Int}{ops:VL}{ch:List (Int×VL)}(hk:qn ch)(hn:(ops.map (·.1)).Nodup)(h:∀c∈ch,0<c.2.length):∀c∈Vh s ch ops,0<c.2.length:=λc hc=>by
 rcases Vg hk hn hc with hc|⟨o,ho,rfl⟩
 ·exact h c hc
 ·simp
structure tq (j:JS)(k:Nat)(n r:NA):Prop where
 tx:r.txn=n.txn
 nd:qJ j.done n.txn=none
 e:gm j r=0
 ok:JOK (zH j r) (k+1)
 rt:qu r=true
theorem rV {j:JS}{k:Nat}(hj:JOK j k){n:NA}(hr:qu n=true)(hk:n.kind=3)(hd:qJ j.done n.txn=none)(hc:v7 j.v.dim n.ops=0)(hl:qJ j.v.its n.txn=none)(ht:QU j.v n.ops=false):
  tq j k n {n with kind:=12}∧(zH j {n with kind:=12}).done=j.done∧∀t,(qJ (zH j {n with kind:=12}).v.its t).isSome=true→t=n.txn∨(qJ j.v.its t).isSome=true:=by
 have hb:=Wz hr;have hlk:=rJ (j:=j) hb.2.1 hc hl ht;have hr2:=lQ hr hk;have hE:gm j {n with kind:=12}=0:=by
  unfold gm;rw[ja (by rw[hr2];decide),jb rfl];exact hlk
 have hS:zH j {n with kind:=12}=⟨zz j.v n.txn n.after n.ops,qZ j.parts n.txn n.parts,j.done⟩:=by
  unfold zH;rw[ja (by rw[hE];decide),jb rfl]
 have hSv:zz j.v n.txn n.after n.ops={j.v with its:=j.v.its++[(n.txn,n.after,n.ops)]}:=by unfold zz;rw[jb hlk]
 refine ⟨⟨rfl,hd,hE,?_,hr2⟩,by rw[hS],λt h=> ?_⟩
 ·rw[hS]
  refine ⟨hj.w.lock _ _ _,vL hj.kp _ _,hj.kd,λt s h=> ?_,hj.p,?_,?_⟩
  ·dsimp only at h ⊢
   rw[hSv];dsimp only;rw[fL hl]
   by_cases ht:t=n.txn
   ·subst ht;rw[hd] at h;cases h
   ·rw[ja ht];exact hj.o t s h
  ·rw[hSv];exact hj.m
  ·rw[hSv];exact hj.ne
 ·rw[hS] at h
  dsimp only at h;rw[hSv] at h;dsimp only at h;rw[fL hl] at h
  by_cases ht:t=n.txn
  ·exact .inl ht
  ·rw[ja ht] at h;exact .inr h
abbrev Xb (t s:Int):NA:={NA.zero with kind:=13,txn:=t,stamp:=s}
abbrev Ze (t:Int):NA:={NA.zero with kind:=14,txn:=t}
theorem fx {j:JS}{k:Nat}(hj:JOK j k){n:NA}(hr:qu n=true)(hd:qJ j.done n.txn=none){i:Int×VL}(hl:qJ j.v.its n.txn=some i)(h1:max i.1 j.v.mark<n.stamp)(ha:YC j.v n.stamp i.2=true):
  tq j k n (Xb n.txn n.stamp)∧0<n.stamp∧(zH j (Xb n.txn n.stamp)).done=qZ j.done n.txn n.stamp∧∀t,(qJ (zH j (Xb n.txn n.stamp)).v.its t).isSome=true→(qJ j.v.its t).isSome=true:=by
 have hb:=Wz hr;have hm:=hj.m;have hE0:=gy hl h1 hj.m hb.1 ha;have hr2:qu (Xb n.txn n.stamp)=true:=bT hb.1;have hE:gm j (Xb n.txn n.stamp)=0:=by
  unfold gm;rw[ja (by rw[hr2];decide),ja (show ¬(13:Int)=12 by decide),jb rfl];exact hE0
 have hS:zH j (Xb n.txn n.stamp)=⟨Kh j.v n.txn n.stamp,qT j.parts n.txn,qZ j.done n.txn n.stamp⟩:=by
  unfold zH;rw[ja (by rw[hE];decide),ja (show ¬(13:Int)=12 by decide),jb rfl]
 have hSv:Kh j.v n.txn n.stamp={j.v with ch:=Vh n.stamp j.v.ch i.2,its:=qT j.v.its n.txn}:=by unfold Kh;rw[hl];dsimp only;rw[jb hE0]
 have hpos:0<n.stamp:=by omega
 refine ⟨⟨rfl,hd,hE,?_,hr2⟩,hpos,by rw[hS],λt h=> ?_⟩
 ·rw[hS]
  refine ⟨hj.w.apply _ _,ze hj.kp _,vL hj.kd _ _,λt s h=> ?_,λt s h=> ?_,?_,?_⟩
  ·dsimp only at h ⊢
   rw[hSv];dsimp only;rw[Ka hj.kd] at h;rw[KN]
   by_cases ht:t=n.txn
   ·rw[jb ht]
   ·rw[ja ht] at h ⊢;exact hj.o t s h
  ·dsimp only at h
   rw[Ka hj.kd] at h
   by_cases ht:t=n.txn
   ·rw[jb ht] at h;cases h;exact hpos
   ·rw[ja ht] at h;exact hj.p t s h
  ·rw[hSv];exact hj.m
  ·rw[hSv]
   exact sW hj.w.k1 (hj.w.wf.io _ (Jb hl)).2.1 hj.ne
 ·rw[hS] at h
  dsimp only at h;rw[hSv] at h;dsimp only at h;rw[KN] at h
  by_cases ht:t=n.txn
  ·rw[jb ht] at h;cases h
  ·rw[ja ht] at h;exact h
theorem lY {j:JS}{k:Nat}(hj:JOK j k){n:NA}(h0:0≤n.txn)(hl:(qJ j.v.its n.txn).isSome=true):
  tq j k n (Ze n.txn)∧(zH j (Ze n.txn)).done=j.done∧∀t,(qJ (zH j (Ze n.txn)).v.its t).isSome=true→t≠n.txn∧(qJ j.v.its t).isSome=true:=by
 have hd:qJ j.done n.txn=none:=by
  cases hz:qJ j.done n.txn with
  |none=>rfl
  |some s=>rw[hj.o _ _ hz] at hl;cases hl
 have hr2:qu (Ze n.txn)=true:=fh h0;have hE:gm j (Ze n.txn)=0:=by
  unfold gm;rw[ja (by rw[hr2];decide),ja (show ¬(14:Int)=12 by decide),ja (show ¬(14:Int)=13 by decide),jb rfl];exact jb hl
 have hS:zH j (Ze n.txn)=⟨{j.v with its:=qT j.v.its n.txn},qT j.parts n.txn,j.done⟩:=by
  unfold zH;rw[ja (by rw[hE];decide),ja (show ¬(14:Int)=12 by decide),ja (show ¬(14:Int)=13 by decide),jb rfl]
 refine ⟨⟨rfl,hd,hE,?_,hr2⟩,by rw[hS],λt h=> ?_⟩
 ·rw[hS]
  refine ⟨(hj.w.free _).mono zo,ze hj.kp _,hj.kd,λt s h=> ?_,hj.p,hj.m,hj.ne⟩;dsimp only at h ⊢;rw[KN]
  by_cases ht:t=n.txn
  ·rw[jb ht]
  ·rw[ja ht];exact hj.o t s h
 ·rw[hS] at h
  dsimp only at h;rw[KN] at h
  by_cases ht:t=n.txn
  ·rw[jb ht] at h;cases h
  ·rw[ja ht] at h;exact ⟨ht,h⟩
theorem XV {j:JS}{k:Nat}(hj:JOK j k){n:NA}(h0:0≤n.txn)(f:Int):
  (WA j f n).rec_=[]∨
  ((WA j f n).rec_=[{n with kind:=12}]∧tq j k n {n with kind:=12}∧(zH j {n with kind:=12}).done=j.done∧∀t,(qJ (zH j {n with kind:=12}).v.its t).isSome=true→t=n.txn∨(qJ j.v.its t).isSome=true)∨
  ((WA j f n).rec_=[Xb n.txn n.stamp]∧(qJ j.v.its n.txn).isSome=true∧tq j k n (Xb n.txn n.stamp)∧0<n.stamp∧(zH j (Xb n.txn n.stamp)).done=qZ j.done n.txn n.stamp∧∀t,(qJ (zH j (Xb n.txn n.stamp)).v.its t).isSome=true→(qJ j.v.its t).isSome=true)∨
  ((WA j f n).rec_=[Ze n.txn]∧tq j k n (Ze n.txn)∧(zH j (Ze n.txn)).done=j.done∧∀t,(qJ (zH j (Ze n.txn)).v.its t).isSome=true→t≠n.txn∧(qJ j.v.its t).isSome=true):=by
 unfold WA
 cases hr:qu n with
 |false=>left;rfl
 |true=>
 rw[ja zd]
 by_cases h3:n.kind=3
 ·rw[jb h3]
  by_cases hf:f=0
  ·rw[jb hf]
   unfold jEf
   by_cases c1:(qJ j.done n.txn).isSome=true∨v7 j.v.dim n.ops≠0
   ·rw[jb c1];left;rfl
   rw[ja c1];simp only[not_or,Decidable.not_not] at c1
   by_cases c2:(qJ j.v.its n.txn).isSome=true
   ·rw[jb c2];left;rfl
   rw[ja c2]
   cases c3:QU j.v n.ops with
   |true=>left;rfl
   |false=>
    rw[ja zd]
    right;left
    exact ⟨rfl,rV hj hr h3 (ZP c1.1) c1.2 (ZP c2) c3⟩
  ·rw[ja hf];left;rfl
 rw[ja h3]
 by_cases h5:n.kind=5
 ·rw[jb h5]
  unfold jEs
  by_cases c1:n.code≠0
  ·rw[jb c1]
   by_cases c2:(qJ j.v.its n.txn).isSome=true∧f=0
   ·rw[jb c2]
    right;right;right
    exact ⟨rfl,lY hj h0 c2.1⟩
   ·rw[ja c2];left;rfl
  rw[ja c1]
  cases hd:qJ j.done n.txn with
  |some s=>
   dsimp only
   by_cases c2:s=n.stamp
   ·rw[jb c2];left;rfl
   ·rw[ja c2];left;rfl
  |none=>
   dsimp only
   cases hl:qJ j.v.its n.txn with
   |none=>left;rfl
   |some i=>
    dsimp only
    by_cases c3:max i.1 j.v.mark<n.stamp∧YC j.v n.stamp i.2=true
    ·rw[jb c3]
     right;right;left
     exact ⟨rfl,rfl,fx hj hr hd hl c3.1 c3.2⟩
    ·rw[ja c3];left;rfl
 rw[ja h5]
 by_cases h7:n.kind=7
 ·rw[jb h7]
  cases hd:qJ j.done n.txn with
  |some s=>left;rfl
  |none=>left;rfl
 ·rw[ja h7];left;rfl
attribute [local irreducible] swp qq qM qL vX qh St qi qk vu qG
def DJ (st:VS):Prop:=∀i∈st.its,∀j∈st.its,i.1≠j.1→∀x∈i.2.2.map (·.1),x∉j.2.2.map (·.1)
theorem DJ.sub {st st':VS}(h:DJ st)(hs:∀i∈st'.its,i∈st.its):DJ st':=λi hi j hj=>h i (hs i hi) j (hs j hj)
end Go.Proofs.YtlnfjhiphlfkjaaGreatDoor
namespace Go.Proofs.YtlnfjhiphlfkjaaGreatDoor
open Go Go.SX
structure JOW (j:JS)(n:Nat):Prop where
 w:p7 j.v n
 kp:qn j.parts
 kd:qn j.done
 p:∀t s,qJ j.done t=some s→0<s
 m:0≤j.v.mark
 ne:∀c∈j.v.ch,0<c.2.length
 dj:DJ j.v
 pl:j.parts.length≤n
 dl:j.done.length≤n
theorem Js {κ α:Type}[DecidableEq κ](m:List (κ×α))(x:κ)(a:α):(qZ m x a).length≤m.length+1:=by
 unfold qZ
 split<;>simp
theorem jBW {κ α:Type}[DecidableEq κ](m:List (κ×α))(x:κ):(qT m x).length≤m.length:=kw _ _
theorem DJ.lock {st:VS}(h:DJ st)(t a:Int)(ops:VL):DJ (zz st t a ops):=by
 unfold zz
 split
 ·rename_i hE
  unfold Kn at hE
  by_cases h1:1099511627776<a
  ·rw[jb h1] at hE;cases hE
  rw[ja h1] at hE
  by_cases h2:v7 st.dim ops≠0
  ·rw[jb h2] at hE;exact absurd hE h2
  rw[ja h2] at hE
  by_cases h3:(qJ st.its t).isSome=true
  ·rw[jb h3] at hE;cases hE
  rw[ja h3] at hE;have hfree:∀i∈st.its,∀x∈ops.map (·.1),x∉i.2.2.map (·.1):=by
   intro i hi x hx hx2;obtain ⟨w,hw,rfl⟩:=jM.1 hx;obtain ⟨u,hu,hux⟩:=jM.1 hx2;have:(ops.any λo=>st.its.any λi=>Kb i.2.2 o.1)=true:=ku.2 ⟨w,hw,ku.2 ⟨i,hi,ku.2 ⟨u,hu,jo hux⟩⟩⟩;rw[jb this] at hE
   cases hE
  intro i hi j hj hij x hx
  rcases jy.1 hi with hi|hi
  ·rcases jy.1 hj with hj|hj
   ·exact h i hi j hj hij x hx
   ·obtain rfl:=ji.1 hj
    exact λhx2=>hfree i hi x hx2 hx
  ·obtain rfl:=ji.1 hi
   rcases jy.1 hj with hj|hj
   ·exact hfree j hj x hx
   ·obtain rfl:=ji.1 hj
    exact absurd rfl hij
 ·exact h
attribute [local irreducible] swp qq qM qL vX qh St qi qk vu qG
structure xt (M:OM)(n:NV):Prop where
 p:qH M n.pa n.parts.length 1 (n.parts.map I64)
 o:qH M n.oa n.ops.length 2 (n.ops.flatMap OV.cells)∧okR M n.ops
 v:qH M n.va n.vec.length 1 (n.vec.map yT)
 h:qH M n.ha n.hits.length 3 (n.hits.flatMap HV.cells)
 hv:∀h∈n.hits,qH M h.a h.vec.length 1 (h.vec.map yT)
theorem xt.mono {M M':OM}{n:NV}(h:xt M n)(hl:qU M M'):xt M' n:=⟨h.p.mono hl,⟨h.o.1.mono hl,λo ho=>(h.o.2 o ho).mono hl⟩,h.v.mono hl,h.h.mono hl,λx hx=>(h.hv x hx).mono hl⟩
theorem xt.rd {M:OM}{n:NV}(h:xt M n){L:HL}[wY M L]:RdN L n:=⟨h.p.rd,⟨h.o.1.rd,λo ho=>(h.o.2 o ho).rd⟩,h.v.rd,h.h.rd,λx hx=>(h.hv x hx).rd⟩
def yE (M:OM):Prop:=qH M (some ⟨0,0,none⟩) 46 1 sortsC
theorem yE.mono {M M':OM}(h:yE M)(hl:qU M M'):yE M':=qH.mono h hl
theorem yE.rd {M:OM}(h:yE M){L:HL}[wY M L]:vg L 0 0 sortsC:=by
 have h1:qW L (some ⟨0,0,none⟩) 46 1 sortsC:=qH.rd h
 rcases h1.2 with h2|⟨b,o,e,r⟩
 ·cases h2
 ·cases e;exact r
structure Zf (n:NV):Prop where
 kind:0≤n.kind∧n.kind≤255
 txn:0≤n.txn
 stamp:0≤n.stamp
 mark:0≤n.mark
 after:0≤n.after
abbrev NA.nv (r:NA):NV:=⟨r.kind,r.txn,r.batch,r.stamp,r.after,r.mark,r.query,r.id,r.k,r.ef,r.code,r.who,none,0,[],none,0,[],none,0,[],none,0,[]⟩
theorem qH.nil0 {M:OM}{a:OA}{sz:Nat}:qH M a 0 sz []:=⟨by simp,.inl rfl⟩
theorem xt.nv {M:OM}(r:NA):xt M r.nv:=⟨qH.nil0,⟨qH.nil0,λo ho=>by cases ho⟩,qH.nil0,qH.nil0,λo ho=>by cases ho⟩
theorem OkN.nv (r:NA):OkN r.nv:=⟨jw _,jw _,(λo ho=>by cases ho),jw _,jw _,(λo ho=>by cases ho)⟩
theorem Wb (st:VS)(t a:Int)(ops:VL):(zz st t a ops).dim=st.dim:=by
 unfold zz
 split<;>rfl
theorem Vf (st:VS)(t s:Int):(Kh st t s).dim=st.dim:=by
 unfold Kh
 split
 ·rfl
 ·split<;>rfl
theorem Q0 (st:VS)(s:Int):(bO st s).dim=st.dim:=by
 unfold bO
 split<;>rfl
structure PV where
 a:OA
 c:Nat
 l:List Int
abbrev PV.val (v:PV):Value:=.slice v.a v.l.length v.c
structure JQ (M:OM)(j:JS)(sf:Int)(ps:List (Int×PV)):Prop where
 s1:1≤sf
 s2:sf=j.v.dim
 pt:ps.map (λu=>(u.1,u.2.l))=j.parts
 ok:∀u∈ps,qH M u.2.a u.2.l.length 1 (u.2.l.map I64)
theorem JQ.mono {M M':OM}{j:JS}{self:Int}{ps:List (Int×PV)}(h:JQ M j self ps)(hl:qU M M'):JQ M' j self ps:=⟨h.s1,h.s2,h.pt,λu hu=>(h.ok u hu).mono hl⟩
structure JX where
 v:Nat
 mp:Nat
 md:Nat
 self:Int
 ps:List (Int×PV)
section
variable {n : Nat} {ops rest : List Oper} {cd : Code} {Q : vk} {f : vF} {L L0 : HL} {M : OM} {j : JS}
end
abbrev y8 (m:Int×NA):List Value:=Value.int .i64 m.1::m.2.nv.cells
abbrev IV.zero :IV:=⟨0,0,none,0,[]⟩
theorem okI.zero {M:OM}:okI M IV.zero:=⟨qH.nil0,λo ho=>by cases ho⟩
end Go.Proofs.YtlnfjhiphlfkjaaGreatDoor
namespace Go.SX
open Go
section
variable {P : Program} {n : Nat} {ops : List Oper} {Q : vk} {f : vF} {A L : HL} {cs : List Nat}
end
section
variable {P : Program} {n : Nat} {ops : List Oper} {Q : vk} {f : vF} {A L : HL} {E cs σ : List Nat} {listed : Array Bool} {held : Bool}
end
section
variable {P : Program} {n : Nat} {ops rest : List Oper} {Q : vk} {f : vF} {A L : HL} {d : Tmp} {ty : TypeId} {pos : String} {af : Array Edge}
end
end Go.SX
namespace Go.Proofs.YtlnfjhiphlfkjaaGreatDoor
open Go Go.SX
attribute [local irreducible] swp qq qM qL vX qh St qi qk vu qG
def ZN (n:NV)(r:NA):NV:=if r.kind=12 then {n with kind:=12} else r.nv
theorem jCt (xs:List Int):(xs.map I64).all (·.oneCell')=true:=by simp[Value.oneCell']
theorem xS (a:OA)(c:Nat)(xs:List Int)(A:HL)(h:qW A a xs.length 1 (xs.map I64))(hn:xs.length≤1000000):
  qh kY 121 [.slice a xs.length c] A (λv L'=>∃a' c',v=.slice a' xs.length c'∧L'=slO 3 1 a' xs.length c' (xs.map I64)::A):=by
 refine qg Tryz.func121 rfl rfl rfl ?_
 cases a with
 |none=>
  have hx:xs=[]:=by
   rcases h.2 with h0|⟨_,_,h0,_⟩
   ·exact jO h0
   ·cases h0
  subst hx;refine Q.r ?_;exact N.t rfl vh ⟨none,0,rfl,rfl⟩
 |some ad=>
  refine Q.r ?_;(repeat (intro b1;refine Q.r ?_));refine qm (ve (sz:=1) (m:=0) rfl) ?_;refine S.app0 rfl rfl rfl (vA.rd h.sub (jCt _)) zr zo zo (λa5 c5=> ?_);refine Q.r ?_;exact N.t rfl (kZ _) ⟨a5,c5,rfl,rfl⟩
theorem fi {κ α β:Type}[DecidableEq κ](f:α→β)(m:List (κ×α))(x:κ)(a:α):(qZ m x a).map (λu=>(u.1,f u.2))=qZ (m.map λu=>(u.1,f u.2)) x (f a):=by
 unfold qZ;rw[List.any_map];have:((λp:κ×β=>decide (p.1=x))∘λu:κ×α=>(u.1,f u.2))=λp=>decide (p.1=x):=rfl
 rw[this]
 cases m.any λp=>decide (p.1=x) with
 |true=>
  simp only[if_true,kE];refine List.map_congr_left λu _=> ?_
  show (_:κ×β)=if u.1=x then (x,f a) else (u.1,f u.2)
  by_cases h:u.1=x
  ·simp[h]
  ·simp[h]
 |false=>simp
theorem jBV {κ α β:Type}[DecidableEq κ](f:α→β)(m:List (κ×α))(x:κ):(qT m x).map (λu=>(u.1,f u.2))=qT (m.map λu=>(u.1,f u.2)) x:=by
 unfold qT;rw[List.filter_map];rfl
theorem JQ.put {M:OM}{j j':JS}{sf:Int}{ps:List (Int×PV)}(h:JQ M j sf ps){t:Int}{v:PV}(hv:qH M v.a v.l.length 1 (v.l.map I64))(hj:j'.parts=qZ j.parts t v.l)(hdm:j'.v.dim=j.v.dim:=by first|rfl|exact Wb _ _ _ _|exact Vf _ _ _|exact Q0 _ _):JQ M j' sf (qZ ps t v):=by
 refine ⟨h.s1,h.s2.trans hdm.symm,by rw[hj,←h.pt,fi (λv:PV=>v.l)],λu hu=> ?_⟩;unfold qZ at hu
 split at hu
 ·obtain ⟨w,hw,rfl⟩:=jM.1 hu
  split
  ·exact hv
  ·exact h.ok w hw
 ·rcases jy.1 hu with hu|hu
  ·exact h.ok u hu
  ·rw[ji.1 hu];exact hv
theorem JQ.same {M:OM}{j j':JS}{sf:Int}{ps:List (Int×PV)}(h:JQ M j sf ps)(hj:j'.parts=j.parts)(hdm:j'.v.dim=j.v.dim:=by first|rfl|exact Wb _ _ _ _|exact Vf _ _ _|exact Q0 _ _):JQ M j' sf ps:=⟨h.s1,h.s2.trans hdm.symm,by rw[hj,h.pt],h.ok⟩
abbrev J0 (dim:Int):JS:=⟨⟨dim,[],[],0⟩,[],[]⟩
theorem J0.ok {dim:Int}(h1:1≤dim)(h2:dim≤8):JOK (J0 dim) 0:=
 ⟨⟨⟨h1,h2,jz _,(λi hi=>by cases hi),jz _,(λc hc=>by cases hc)⟩,by simp[qn],by simp[qn]⟩,by simp[qn],by simp[qn],(λt s h=>by cases h),(λt s h=>by cases h),ki _,(λc hc=>by cases hc)⟩
section
variable {n : Nat} {ops rest : List Oper} {cd : Code} {Q : vk} {f : vF} {L L0 : HL} {M : OM} {j : JS}
end
abbrev exA :NA:={NA.zero with kind:=3,txn:=7,ops:=[(1,[5])]}
abbrev J1 :JS:=⟨⟨1,[],[(7,0,[(1,[5])])],0⟩,[(7,[])],[]⟩
abbrev J2 :JS:=⟨⟨1,[(1,[(5,[5])])],[],0⟩,[],[(7,5)]⟩
theorem ex1 :WA (J0 1) 0 exA=⟨[{exA with kind:=12}],[Zn 7 0],[Zn 7 8]⟩:=by kernel_rfl
theorem ex2 :zH (J0 1) {exA with kind:=12}=J1:=by kernel_rfl
theorem ex3 :WA J1 0 {NA.zero with kind:=5,txn:=7,stamp:=5}=⟨[Xb 7 5],[jFz 7],[]⟩:=by kernel_rfl
theorem ex4 :zH J1 (Xb 7 5)=J2:=by kernel_rfl
theorem J1.ok :JOK J1 1:=by
 have h:=XV (J0.ok (dim:=1) zd zd) (n:=exA) zd 0;rw[ex1] at h
 rcases h with h|h|h|h
 ·cases h
 ·have:=h.2.1.ok
  rw[ex2] at this;exact this
 ·simp at h
 ·simp at h
theorem J2.ok :JOK J2 2:=by
 have h:=XV J1.ok (n:={NA.zero with kind:=5,txn:=7,stamp:=5}) zd 0;rw[ex3] at h
 rcases h with h|h|h|h
 ·cases h
 ·simp at h
 ·have:=h.2.2.1.ok
  rw[ex4] at this;exact this
 ·simp at h
abbrev HV.ov (h:HV):OV:=⟨h.id,h.a,h.c,h.vec⟩
def cO (k:Nat)(l:List (Int×Int×List Int)):List (Int×Int×List Int):=(l.take k).map λh=>(h.1,h.2.1,h.2.2.take 8)
theorem f5 {n:Nat}{l:List (Int×Int×List Int)}(h:l.length≤n):cO n l=l.map λh=>(h.1,h.2.1,h.2.2.take 8):=by unfold cO;rw[kK h]
theorem m7 (n:Nat)(a:OA)(c:Nat)(ops:List HV)(A:HL)(h:qW A a ops.length 3 (ops.flatMap HV.cells))(hv:∀o∈ops,qW A o.a o.vec.length 1 (o.vec.map yT))(hc:∀o∈ops,o.vec.length≤o.c)(hn:ops.length≤9223372036854775807)(hnn:n≤1000000):
  qh kY 107 [.slice a ops.length c,.int .i64 n] A (λv L'=>∃(a':OA) (c':Nat) (us:List HV),us.map HV.abs=cO n (ops.map HV.abs)∧(∀o∈us,o.vec.length=0∨∃b,o.a=some ⟨b,0,none⟩)∧v=.slice a' us.length c'∧L'=slO 113 3 a' us.length c' (us.flatMap HV.cells)::zR (us.map HV.ov)::A):=by
 refine qg Tryz.func107 rfl rfl rfl ?_;refine Q.r ?_;refine ql (σ:=Nat×OA×Nat×List HV) (λs=> [(1,.int .i64 n),(8,.slice a ops.length c),(9,.int .i64 ops.length),(5,.slice s.2.1 s.2.2.2.length s.2.2.1),(10,.int .i64 s.1)])
  (λs=>slO 113 3 s.2.1 s.2.2.2.length s.2.2.1 (s.2.2.2.flatMap HV.cells)::zR (s.2.2.2.map HV.ov)::A)
  (λs=>s.1≤ops.length∧s.2.2.2.map HV.abs=cO n ((ops.take s.1).map HV.abs)∧∀o∈s.2.2.2,o.vec.length=0∨∃b,o.a=some ⟨b,0,none⟩) (λs=>ops.length - s.1) (0,none,0,[]) zt ?_ ⟨by omega,by simp[cO],by simp⟩ ?_
 ·exact qi.trans (qi.trans gg vh) (kZ _)
 rintro ⟨k,a3,c3,us⟩ ⟨hk,hus,hua⟩;dsimp only at hk hus hua ⊢;have hul:us.length=min n k:=by
  have:=jj List.length hus
  simp[cO] at this;omega
 by_cases hlt:k<ops.length
 ·obtain ⟨o,ho⟩:=qw hlt
  have hmo:o∈ops:=jn ho;obtain ⟨b,oo,hia,hr⟩:=qW.elem (g:=HV.cells) (λ_=>rfl) h ho rfl;rw[hia]
  repeat (first|(refine GQ.y ?_;refine Q.y ?_)|refine Q.go ?_|(refine GQ.g ?_;refine Q.gq ?_)|(refine GQ.s ?_;refine Q.st ?_)|(refine GQ.a ?_;refine Q.al (λb1=> ?_)))
  by_cases hkn:k<n
  ·refine Q.r ?_;(repeat (intro b1;refine Q.r ?_))
   refine Q.dgo [true,false,false] [7,9,10] [] [0,1,2,3,4,5,6,7,8,9,10,11] ?_;refine Q.rd ?_;refine D.e rfl rfl rfl ?_;refine S.cr rfl (K9 o.a o.c 8 o.vec _ ((hv o hmo).sub) (hc o hmo) zo) ?_;rintro _ _ ⟨a',c',rfl,rfl⟩;refine qX a' (λha'=> ?_);refine Q.r ?_;refine Q.rd ?_;(repeat (intro b1;refine Q.rd ?_));refine D.e rfl rfl rfl ?_;refine S.app rfl rfl (vA.sl vg.row zr zr) zr zo zo (λa4 c4=> ?_);refine Q.r ?_;refine Q.rd ?_;refine Q.r ?_;refine ⟨(k+1,a4,c4,us++[⟨o.id,o.dist,a',c',o.vec.take 8⟩]),⟨rfl,rfl,rfl,jj some (by simp),rfl,trivial⟩,?_,⟨by dsimp only;omega,?_,?_⟩,by dsimp only;omega⟩
   ·dsimp only
    rw[qF,vE,jq];refine qi.pick (qi.trans ?_ (Zo (o:=⟨o.id,a',c',o.vec.take 8⟩) rfl));exact eG
   ·dsimp only
    rw[jq,hus,f5 (l:=(ops.take k).map HV.abs) (by simp;omega),f5 (l:=(ops.take (k+1)).map HV.abs) (by simp;omega),qz ho,jq,jq];rfl
   ·intro u hu
    rcases jy.1 hu with hu|hu
    ·exact hua u hu
    ·obtain rfl:=ji.1 hu
     exact ha'
  ·refine Q.r ?_;(repeat (intro b1;refine Q.r ?_))
   refine ⟨(k+1,a3,c3,us),zt,by exact eG,⟨by dsimp only;omega,?_,hua⟩,by dsimp only;omega⟩;dsimp only;rw[hus];unfold cO;rw[←List.map_take,←List.map_take,List.take_take,List.take_take,show min n k=min n (k+1) by omega]
 ·have hke:k=ops.length:=by omega
  subst hke;rw[jI] at hus;refine Q.r ?_;exact N.t rfl eG ⟨a3,c3,us,hus,hua,rfl,rfl⟩
theorem ZD (us:List OV){n:Nat}{ops rest:List Oper}{Q:vk}{f:vF}{L L0 L1:HL}{M:OM}[h:xe (zR us) L L0][h1:xb L0 M L1](hk:∀M',qU M M'→okR M' us→(∀o∈us,o.vec.length≤o.c)→qq kY n ops rest Q f (qo M'::L1)):qq kY n ops rest Q f L:=
 qm (h.ent.trans (rb us)) (ci λM'=>XZ (Jx λhh=>hk M' hh.1 hh.2.1 hh.2.2))
def NA.few (n:NA):NA:={n with parts:=n.parts.take 6,ops:=Y6 18 n.ops,vec:=n.vec.take 10,hits:=cO 18 n.hits}
structure nF (n:NV):Prop where
 p:n.parts.length≤n.pc
 ov:∀o∈n.ops,o.vec.length≤o.c
 v:n.vec.length≤n.vc
 hv:∀h∈n.hits,h.vec.length≤h.c
 p2:n.parts.length≤9223372036854775807
 o2:n.ops.length≤9223372036854775807
 v2:n.vec.length≤9223372036854775807
 h2:n.hits.length≤9223372036854775807
theorem tA (n:NV)(M:OM)(L:HL)(hn:xt M n)(hc:nF n):
  qh kY 40 [n.val] (qo M::L) (λr L'=>∃(n':NV) (M':OM),r=n'.val∧qU M M'∧xt M' n'∧nF n'∧n'.ops.length≤n'.oc∧n'.abs=n.abs.few∧L'=qo M'::L):=by
 have hc1:=hc.p;have hc2:=hc.p2;refine qg Tryz.func40 rfl rfl rfl ?_;have hl:(n.parts.take 6).length=min 6 n.parts.length:=jP ..;refine Q.r ?_;(repeat (intro b1;refine Q.r ?_));refine qm (ve (sz:=1) (m:=0) rfl) ?_;refine Q.r ?_;have hrM:qH M n.pa (n.parts.take 6).length 1 ((n.parts.take 6).map I64):=by
  have:=hn.p.take (k:=min 6 n.parts.length) zo;rw[hl];rw[jX,←List.map_take] at this
  rwa [←List.take_eq_take_min] at this
 refine S.y (Y.slT (h:=(n.parts.take 6).length) rfl rfl (by rw[hl];omega) zo) ?_;refine S.app0 rfl rfl rfl (vA.rd hrM.rd (jCt _)) zr zo zo (λa5 c5=> ?_);refine yJ a5 (λhc5=> ?_);refine qQ a5 (λM1 hl1 hs1=> ?_);refine Q.r ?_;refine Q.dgo [false,false,true] [2,5,8,10,12,14] [10] [0,1,3,4,6,7,2,9,5,8,10,11,12,13,14] ?_;refine Q.rd ?_;refine D.e rfl rfl rfl ?_;refine S.cr rfl (tT 18 n.oa n.oc n.ops _ (hn.mono hl1).rd.o hc.ov hc.o2 zo) ?_;rintro _ _ ⟨a6,c6,us,hus,_,rfl,rfl⟩;refine yJ a6 (λhc6=> ?_);refine qQ a6 (λM2 hl2 hs2=> ?_);refine ZD us (λM3 hl3 hs3 hc3=> ?_);refine Q.r ?_;refine Q.rd ?_;refine D.e rfl rfl rfl ?_;refine S.cr rfl (m7 18 n.ha n.hc n.hits _ (hn.mono (hl1.trans (hl2.trans hl3))).rd.h (hn.mono (hl1.trans (hl2.trans hl3))).rd.hv hc.hv hc.h2 zo) ?_;rintro _ _ ⟨a7,c7,hs,hhs,_,rfl,rfl⟩;refine qQ a7 (λM4 hl4 hs4=> ?_);refine ZD (hs.map HV.ov) (λM5 hl5 hs5 hc5'=> ?_);refine Q.r ?_;refine Q.rd ?_;refine D.e rfl rfl rfl ?_;refine S.cr rfl (K9 n.va n.vc 10 n.vec _ (hn.mono (hl1.trans (hl2.trans (hl3.trans (hl4.trans hl5))))).rd.v hc.v zo) ?_;rintro _ _ ⟨a8,c8,rfl,rfl⟩;refine yJ a8 (λhc8=> ?_);refine qQ a8 (λM6 hl6 hs6=> ?_);refine Q.r ?_;refine Q.rd ?_;refine Q.dc rfl rfl rfl rfl ?_;refine Q.r ?_;refine Q.rd ?_;refine Q.r ?_;have hm6:qU M M6:=hl1.trans (hl2.trans (hl3.trans (hl4.trans (hl5.trans hl6))));refine N.r1 RV.c ?_ ⟨⟨n.kind,n.txn,n.batch,n.stamp,n.after,n.mark,n.query,n.id,n.k,n.ef,n.code,n.who,a5,c5,n.parts.take 6,a6,c6,us,a8,c8,n.vec.take 10,a7,c7,hs⟩,M6,rfl,hm6,?_,?_,hc6,?_,rfl⟩
 ·exact eG
 ·exact ⟨hs1.mono (hl2.trans (hl3.trans (hl4.trans (hl5.trans hl6)))),⟨hs2.mono (hl3.trans (hl4.trans (hl5.trans hl6))),λo ho=>(hs3 o ho).mono (hl4.trans (hl5.trans hl6))⟩,hs6,hs4.mono (hl5.trans hl6),λh hh=>(hs5 h.ov (jA (f:=HV.ov) hh)).mono hl6⟩
 ·have ho:=jj List.length hus
  have hh:=jj List.length hhs
  simp[Y6,cO] at ho hh
  exact ⟨hc5,hc3,hc8,λh hh=>hc5' h.ov (jA (f:=HV.ov) hh),by dsimp only;rw[jP];omega,by dsimp only;omega,by dsimp only;rw[jP];omega,by dsimp only;omega⟩
 ·simp only[NV.abs,NA.few,hus,hhs]
end Go.Proofs.YtlnfjhiphlfkjaaGreatDoor
namespace Go.Proofs.YtlnfjhiphlfkjaaGreatDoor
open Go Go.SX
def jGp :List (List UInt8):=[[],[98,111],[98,115,99],[116,97,112,111],[116,99],[116,115,99],[116],[116],[113,105,107,101,118],[115,109,113,105,107,101,118],[113,99,104],[115,113,99,104],[116,97,112,111],[116,115],[116],[109],[109],[116,98,115,112],[116],[116,98,97,119,112,111],[116,119],[116,119],[116]]
def wN (k:Nat):List UInt8:=(jGp[k]?).getD []
def vj (k:Nat)(f:UInt8):Bool:=(wN k).any λx=>decide (x=f)
def abc :List UInt8:=[116,98,115,97,109,113,105,107,101,99,119,112,111,118,104]
set_option maxRecDepth 100000 in
theorem vd (k i:Nat)(hi:i<15):(fldN k).testBit i=vj k (abc.getD i 0):=by
 by_cases h:k<23
 ·exact (by decide:∀k,k<23→∀i,i<15→(fldN k).testBit i=vj k (abc.getD i 0)) k h i hi
 ·have h1:wN k=[]:=by
   unfold wN;rw[List.getElem?_eq_none (by show 23≤k;omega)];rfl
  have h2:fldN k=0:=by
   unfold fldN
   split<;>first|omega|rfl
  rw[h2];unfold vj;rw[h1];simp
def xc (k:Nat)(f:UInt8)(n most:Int):Bool:=decide (n≤most)&&(decide (n=0)||vj k f)
def Qy (k:Nat)(n:NA):Bool:=
 xc k 116 n.txn 18446744073709551615&&xc k 98 n.batch 18446744073709551615&&xc k 115 n.stamp 1099511627776&&xc k 97 n.after 1099511627776&&xc k 109 n.mark 1099511627776&&xc k 113 n.query 18446744073709551615&&xc k 105 n.id 1099511627776&&xc k 107 n.k 16&&xc k 101 n.ef 256&&xc k 99 n.code 13&&xc k 119 n.who 15
def Y3 (k:Nat)(n:NA):Bool:=
 xc k 112 n.parts.length 4&&xc k 111 n.ops.length 16&&xc k 118 n.vec.length 8&&xc k 104 n.hits.length 16&&xu n.vec
structure yF (n:NA):Prop where
 kind:0≤n.kind∧n.kind≤255
 txn:0≤n.txn∧n.txn≤18446744073709551615
 batch:0≤n.batch∧n.batch≤18446744073709551615
 stamp:0≤n.stamp∧n.stamp≤18446744073709551615
 after:0≤n.after∧n.after≤18446744073709551615
 mark:0≤n.mark∧n.mark≤18446744073709551615
 query:0≤n.query∧n.query≤18446744073709551615
 id:0≤n.id∧n.id≤18446744073709551615
 k:n.k≤9223372036854775807
 ef:n.ef≤9223372036854775807
 code:n.code≤9223372036854775807
 who:n.who≤9223372036854775807
theorem xZ {k:Nat}{f:UInt8}{n most:Int}(h:0≤n):xc k f n most=true↔n≤most∧((!decide (0<n))||vj k f)=true:=by
 unfold xc;rw[jF,decide_eq_true_iff];have:decide (n=0)= !decide (0<n):=by
  by_cases h0:n=0
  ·subst h0;rfl
  ·rw[jv h0,jo (by omega:0<n)];rfl
 rw[this]
theorem cv {k:Nat}{f:UInt8}{n most:Int}:xc k f n most=true↔n≤most∧((!(!decide (n=0)))||vj k f)=true:=by
 unfold xc;rw[jF,decide_eq_true_iff,Bool.not_not]
theorem pP {v:List Int}(h:xu v=true):(v.length:Int)≤8:=by
 by_cases h0:v.length=0
 ·omega
 ·unfold xu wK at h
  rw[jv h0] at h;simp only[jR,jF,jS] at h;omega
theorem rC {n:NA}(u:yF n):qu n=(decide (1≤n.kind∧n.kind≤22)&& !(decide (n.k<0)||decide (n.ef<0)||decide (n.code<0)||decide (n.who<0))&&(Qy n.kind.toNat n&&(Y3 n.kind.toNat n&&(wL n.parts&&(!(n.ops.any yi)&& !(n.hits.any xA)))))):=by
 rw[Bool.eq_iff_iff];have hb:∀i,i<15→(fldN n.kind.toNat).testBit i=vj n.kind.toNat (abc.getD i 0):=λi hi=>vd _ i hi
 unfold qu wQ Qy Y3;simp only[NA.bits,List.zipIdx_cons,List.zipIdx_nil,List.all_cons,List.all_nil,kR,Nat.reduceAdd,hb 0 zd,hb 1 zd,hb 2 zd,hb 3 zd,hb 4 zd,hb 5 zd,hb 6 zd,hb 7 zd,hb 8 zd,hb 9 zd,hb 10 zd,hb 11 zd,hb 12 zd,hb 13 zd,hb 14 zd];have e:∀i x,abc.getD i 0=x→abc.getD i 0=x:=λ_ _ h=>h
 simp only[show abc.getD 0 0=116 from rfl,show abc.getD 1 0=98 from rfl,show abc.getD 2 0=115 from rfl,show abc.getD 3 0=97 from rfl,show abc.getD 4 0=109 from rfl,show abc.getD 5 0=113 from rfl,show abc.getD 6 0=105 from rfl,show abc.getD 7 0=107 from rfl,show abc.getD 8 0=101 from rfl,show abc.getD 9 0=99 from rfl,show abc.getD 10 0=119 from rfl,show abc.getD 11 0=112 from rfl,show abc.getD 12 0=111 from rfl,show abc.getD 13 0=118 from rfl,show abc.getD 14 0=104 from rfl];simp only[jF,xZ u.txn.1,xZ u.batch.1,xZ u.stamp.1,xZ u.after.1,xZ u.mark.1,xZ u.query.1,xZ u.id.1,xZ (kQ n.parts.length),xZ (kQ n.ops.length),xZ (kQ n.vec.length),xZ (kQ n.hits.length)];rw[cv,cv,cv,cv];have u1:=u.txn;have u2:=u.batch;have u3:=u.query;have u4:=u.stamp;simp only[kL,Bool.or_eq_false_iff,decide_eq_true_iff,j5,Bool.not_eq_false',and_assoc,and_true]
 constructor
 ·rintro ⟨k1,k2,h0,h1,h2,h3,h4,h5,h6,h7,h8,h9,h10,h11,h12,h13,h14,b1,b2,b3,b4,b5,b6,b7,q1,q2,q3,q4,q5,q6,q7⟩
  have hb8:=pP q4
  repeat' apply And.intro
  all_goals first|assumption|omega
 ·rintro ⟨k1,k2,c1,c2,c3,c4,a0,h0,a1,h1,a2,h2,a3,h3,a4,h4,a5,h5,a6,h6,a7,h7,a8,h8,a9,h9,a10,h10,a11,h11,a12,h12,a13,h13,a14,h14,q4,q5,q6,q7⟩
  repeat' apply And.intro
  all_goals first|assumption|omega
def jHR (j:JS)(f:Int)(n:NA)(w raw:Bool):JS:=if raw then zH j n else if w then (WA j f n).rec_.foldl zH j else j
end Go.Proofs.YtlnfjhiphlfkjaaGreatDoor
namespace Go.SX
open Go
theorem Y.slen0 {P:Program}{n:Nat}{ops:List Oper}{f:vF}{A:HL}{d:Tmp}{ty:TypeId}{pos:String}{af:Array Edge}{x:Operand}{t:TypeId}{s0:ByteArray}[h:VR P t](hx:ev f x=some (.string s0)):
  qk P n ops ⟨some d,.call ⟨.builtin .len,#[x],#[t]⟩,ty,pos,af,none⟩ f A (.int .i64 s0.size):=
 Y.of λa w s=>by simp[execOp,resolve,invoke,s.eval hx,builtin,Builtin.len_,h.und,goInt]
theorem Y.slen {P:Program}{n:Nat}{ops:List Oper}{f:vF}{A:HL}{d:Tmp}{ty:TypeId}{pos:String}{af:Array Edge}{x:Operand}{t:TypeId}{l:List UInt8}[h:VR P t](hx:ev f x=some (str l)):
  qk P n ops ⟨some d,.call ⟨.builtin .len,#[x],#[t]⟩,ty,pos,af,none⟩ f A (.int .i64 l.length):=Y.slen0 hx
theorem jFs {l:List UInt8}{i:Nat}{b:UInt8}(h:l[i]? =some b):(⟨l.toArray⟩:ByteArray)[i]? =some b:=by
 have hl:i<l.length:=(jm.1 h).1;have hb:l[i]=b:=(jm.1 h).2;have hs:i<(⟨l.toArray⟩:ByteArray).size:=by simpa[ByteArray.size] using hl
 rw[getElem?_pos _ i hs];exact jj some hb
end Go.SX
namespace Go.Proofs.YtlnfjhiphlfkjaaGreatDoor
open Go Go.SX
attribute [local irreducible] swp qq qM qL vX qh St qi qk vu qG
theorem Qs (k:Nat)(A:HL)(hk:k≤255):qh kY 43 [.int .u8 (k:Int)] A (λr L'=>r=.tuple #[str (wx k).1,str (wN k)]∧L'=A):=by
 refine qg Tryz.func43 rfl rfl rfl ?_
 by_cases h0:k=0
 ·subst h0
  refine Q.r ?_;exact N.u rfl rfl (kZ _) ⟨rfl,rfl⟩
 by_cases h1:k=1
 ·subst h1
  refine Q.r ?_;exact N.u rfl rfl (kZ _) ⟨rfl,rfl⟩
 by_cases h2:k=2
 ·subst h2
  refine Q.r ?_;exact N.u rfl rfl (kZ _) ⟨rfl,rfl⟩
 by_cases h3:k=3
 ·subst h3
  refine Q.r ?_;exact N.u rfl rfl (kZ _) ⟨rfl,rfl⟩
 by_cases h4:k=4
 ·subst h4
  refine Q.r ?_;exact N.u rfl rfl (kZ _) ⟨rfl,rfl⟩
 by_cases h5:k=5
 ·subst h5
  refine Q.r ?_;exact N.u rfl rfl (kZ _) ⟨rfl,rfl⟩
 by_cases h6:k=6
 ·subst h6
  refine Q.r ?_;exact N.u rfl rfl (kZ _) ⟨rfl,rfl⟩
 by_cases h7:k=7
 ·subst h7
  refine Q.r ?_;exact N.u rfl rfl (kZ _) ⟨rfl,rfl⟩
 by_cases h8:k=8
 ·subst h8
  refine Q.r ?_;exact N.u rfl rfl (kZ _) ⟨rfl,rfl⟩
 by_cases h9:k=9
 ·subst h9
  refine Q.r ?_;exact N.u rfl rfl (kZ _) ⟨rfl,rfl⟩
 by_cases h10:k=10
 ·subst h10
  refine Q.r ?_;exact N.u rfl rfl (kZ _) ⟨rfl,rfl⟩
 by_cases h11:k=11
 ·subst h11
  refine Q.r ?_;exact N.u rfl rfl (kZ _) ⟨rfl,rfl⟩
 by_cases h12:k=12
 ·subst h12
  refine Q.r ?_;exact N.u rfl rfl (kZ _) ⟨rfl,rfl⟩
 by_cases h13:k=13
 ·subst h13
  refine Q.r ?_;exact N.u rfl rfl (kZ _) ⟨rfl,rfl⟩
 by_cases h14:k=14
 ·subst h14
  refine Q.r ?_;exact N.u rfl rfl (kZ _) ⟨rfl,rfl⟩
 by_cases h15:k=15
 ·subst h15
  refine Q.r ?_;exact N.u rfl rfl (kZ _) ⟨rfl,rfl⟩
 by_cases h16:k=16
 ·subst h16
  refine Q.r ?_;exact N.u rfl rfl (kZ _) ⟨rfl,rfl⟩
 by_cases h17:k=17
 ·subst h17
  refine Q.r ?_;exact N.u rfl rfl (kZ _) ⟨rfl,rfl⟩
 by_cases h18:k=18
 ·subst h18
  refine Q.r ?_;exact N.u rfl rfl (kZ _) ⟨rfl,rfl⟩
 by_cases h19:k=19
 ·subst h19
  refine Q.r ?_;exact N.u rfl rfl (kZ _) ⟨rfl,rfl⟩
 by_cases h20:k=20
 ·subst h20
  refine Q.r ?_;exact N.u rfl rfl (kZ _) ⟨rfl,rfl⟩
 by_cases h21:k=21
 ·subst h21
  refine Q.r ?_;exact N.u rfl rfl (kZ _) ⟨rfl,rfl⟩
 by_cases h22:k=22
 ·subst h22
  refine Q.r ?_;exact N.u rfl rfl (kZ _) ⟨rfl,rfl⟩
 have e1:wx k=([],0):=by
  unfold wx;rw[List.getElem?_eq_none (by show 23≤k;omega)];rfl
 have e2:wN k=[]:=by
  unfold wN;rw[List.getElem?_eq_none (by show 23≤k;omega)];rfl
 rw[e1,e2];refine Q.r ?_;exact N.u rfl rfl (kZ _) ⟨rfl,rfl⟩
theorem cJ (k:Nat):(wN k).length≤15:=by
 by_cases h:k<23
 ·exact (by decide:∀k,k<23→(wN k).length≤15) k h
 ·unfold wN
  rw[List.getElem?_eq_none (by show 23≤k;omega)];decide
theorem jFW (x f:UInt8):decide (((x.toNat:Nat):Int)=((f.toNat:Nat):Int))=decide (x=f):=by
 congr 1
 rw[Int.natCast_inj,UInt8.toNat_inj]
theorem jBE (k:Nat)(f:UInt8)(kd z:Int)(hkd:kd=(k:Int))(hz:z=((f.toNat:Nat):Int))(A:HL)(hk:k≤255):qh kY 177 [.int .u8 kd,.int .u8 z] A (λr L'=>r=.bool (vj k f)∧L'=A):=by
 subst hkd;unfold vj;have hle:=cJ k;refine qg Tryz.func177 rfl rfl rfl ?_;refine Q.r ?_;refine S.cr rfl (Qs k _ hk) ?_;rintro _ _ ⟨rfl,he⟩;rw[he];clear he;refine Q.r ?_;refine ql (σ:=Nat) (λi=> [(1,.int .u8 z),(6,str (wN k)),(7,.int .i64 i)]) (λ_=>A) (λi=>i≤(wN k).length∧((wN k).take i).any (λx=>decide (x=f))=false) (λi=>(wN k).length - i) 0 zt (kZ _) ⟨by omega,by simp⟩ ?_;rintro i ⟨hi,hany⟩
 by_cases hlt:i<(wN k).length
 ·obtain ⟨x,hx⟩:=qw hlt
  refine Q.r ?_;refine S.y (Y.slen rfl) ?_;refine Q.r ?_;refine S.y (Y.idx rfl rfl (jFs hx)) ?_
  by_cases he:x=f
  ·have hz2:((x.toNat:Nat):Int)=z:=by rw[he,hz]
   refine Q.r ?_;exact N.t rfl (kZ _) ⟨by rw[ku.2 ⟨x,jn hx,jo he⟩],rfl⟩
  ·have hz2:¬((x.toNat:Nat):Int)=z:=by
    rw[hz];intro hh;have:=jFW x f;rw[jo hh] at this;exact he (kV this.symm)
   refine Q.r ?_;exact ⟨i+1,zt,kZ _,⟨by omega,by rw[qz hx,kW,hany,kX,jv he];rfl⟩,by omega⟩
 ·have hie:i=(wN k).length:=by omega
  subst hie;rw[jI] at hany;rw[hany];refine Q.r ?_;refine S.y (Y.slen rfl) ?_;refine Q.r ?_;exact N.t rfl (kZ _) ⟨rfl,rfl⟩
theorem wh (k:Nat)(f:UInt8)(kd z n m:Int)(hkd:kd=(k:Int))(hz:z=((f.toNat:Nat):Int))(A:HL)(hk:k≤255):qh kY 114 [.int .u8 kd,.int .u8 z,.int .u64 n,.int .u64 m] A (λr L'=>r=.bool (xc k f n m)∧L'=A):=by
 unfold xc;refine qg Tryz.func114 rfl rfl rfl ?_
 by_cases h1:n≤m
 ·rw[jo h1,jJ]
  by_cases h2:n=0
  ·rw[jo h2,j4]
   refine Q.r ?_;exact N.t rfl (kZ _) ⟨rfl,rfl⟩
  ·rw[jv h2,jR]
   refine Q.r ?_;refine S.cr rfl (jBE k f kd z hkd hz _ hk) ?_;rintro _ _ ⟨rfl,rfl⟩;refine Q.r ?_;exact N.t rfl (kZ _) ⟨rfl,rfl⟩
 ·rw[jv h1,jN]
  refine Q.r ?_;exact N.t rfl (kZ _) ⟨rfl,rfl⟩
theorem Z4 (a:OA)(c:Nat)(xs:List Int)(A:HL)(h:qW A a xs.length 1 (xs.map yT))(hn:xs.length≤1000000):
  qh kY 115 [.slice a xs.length c] A (λv L'=>v=.bool (xu xs)∧L'=A):=by
 unfold xu;refine qg Tryz.func115 rfl rfl rfl ?_
 by_cases h0:xs.length=0
 ·rw[jo h0,j4]
  refine Q.r ?_;exact N.t rfl (kZ _) ⟨rfl,rfl⟩
 ·rw[jv h0,jR]
  refine Q.r ?_;refine S.cr rfl (WM a c xs _ h zo) ?_;rintro _ _ ⟨rfl,rfl⟩;refine Q.r ?_;exact N.t rfl (kZ _) ⟨rfl,rfl⟩
theorem VU (n:NV)(A:HL)(h:RdN A n)(hk:OkN n)(u:yF n.abs):
  qh kY 46 [n.val] A (λr L'=>r=.bool (qu n.abs)∧L'=A):=by
 obtain ⟨k,hkk⟩:∃k:Nat,n.kind=(k:Int):=⟨n.kind.toNat,by have:=u.kind;dsimp only at this;omega⟩;have hk255:k≤255:=by have:=u.kind;dsimp only at this;omega
 have hE:qu n.abs=(!decide ((wx k).1=[])&& !(decide (n.k<0)||decide (n.ef<0)||decide (n.code<0)||decide (n.who<0))&&(Qy k n.abs&&(Y3 k n.abs&&(wL n.parts&&(!(n.ops.any λo=>yi o.abs)&& !(n.hits.any λo=>xA o.abs)))))):=by
  rw[rC u];have e1:n.abs.kind.toNat=k:=by show n.kind.toNat=k;omega
  rw[e1,Zt,Bool.not_not];have e2:decide (1≤n.abs.kind∧n.abs.kind≤22)=decide (1≤k∧k≤22):=by
   congr 1
   show (1≤n.kind∧n.kind≤22)=_
   rw[hkk];simp;omega
  rw[e2];simp only[List.any_map];rfl
 have hu:yF n.abs:=u;rw[hE];clear hE;have x1:=u.k;have x2:=u.ef;have x3:=u.code;have x4:=u.who;dsimp only at x1 x2 x3 x4;have p1:=hk.p;have p2:=hk.o;have p3:=hk.v;have p4:=hk.h;refine qg Tryz.func46 rfl rfl rfl ?_;refine Q.r ?_;(repeat (intro b1;refine Q.r ?_));refine S.cr (args:=[.int .u8 (k:Int)]) (by rw[←hkk];rfl) (Qs k _ hk255) ?_;rintro _ _ ⟨rfl,rfl⟩
 by_cases hn:(wx k).1=[]
 ·rw[jo hn]
  refine Q.r ?_;exact N.t rfl (qi.drop (kZ _)) ⟨by simp only[j6,j4,jW,jR,jH,jD,jN,jQ,jJ,jT],rfl⟩
 rw[jv hn]
 by_cases a1:n.k<0
 ·rw[jo a1]
  refine Q.r ?_;exact N.t rfl (qi.drop (kZ _)) ⟨by simp only[j6,j4,jW,jR,jH,jD,jN,jQ,jJ,jT],rfl⟩
 by_cases a2:n.ef<0
 ·rw[jo a2]
  refine Q.r ?_;exact N.t rfl (qi.drop (kZ _)) ⟨by simp only[j6,j4,jW,jR,jH,jD,jN,jQ,jJ,jT],rfl⟩
 by_cases a3:n.code<0
 ·rw[jo a3]
  refine Q.r ?_;exact N.t rfl (qi.drop (kZ _)) ⟨by simp only[j6,j4,jW,jR,jH,jD,jN,jQ,jJ,jT],rfl⟩
 by_cases a4:n.who<0
 ·rw[jo a4]
  refine Q.r ?_;exact N.t rfl (qi.drop (kZ _)) ⟨by simp only[j6,j4,jW,jR,jH,jD,jN,jQ,jJ,jT],rfl⟩
 rw[jv a1,jv a2,jv a3,jv a4];simp only[j6,j4,jW,jR,jH,jD,jN,jQ,jJ,jT];refine Q.r ?_;refine Qj (σ:=Bool) (λs=> [(1,.pointer (some ⟨b1,0,none⟩)),(3,.int .u8 n.kind),(6,.bool s)]) (λs=>pt b1 (cl n.cells 43)::A) (λs=>s=Qy k n.abs) ?_ ?_
 ·skip
  refine Q.r ?_;refine S.cr rfl (wh k 116 n.kind 116 n.txn 18446744073709551615 hkk rfl _ hk255) ?_;rintro _ _ ⟨rfl,rfl⟩
  cases hv0:xc k 116 n.txn 18446744073709551615 with
  |false=>
   refine Q.r ?_;exact ⟨false,zt,kZ _,by unfold Qy;simp only[hv0,jf,j6,j4,jW,jR,jH,jD,jN,jQ,jJ,jT]⟩
  |true=>
  refine Q.r ?_;refine S.cr rfl (wh k 98 n.kind 98 n.batch 18446744073709551615 hkk rfl _ hk255) ?_;rintro _ _ ⟨rfl,rfl⟩
  cases hv1:xc k 98 n.batch 18446744073709551615 with
  |false=>
   refine Q.r ?_;exact ⟨false,zt,kZ _,by unfold Qy;simp only[hv0,hv1,jf,j6,j4,jW,jR,jH,jD,jN,jQ,jJ,jT]⟩
  |true=>
  refine Q.r ?_;refine S.cr rfl (wh k 115 n.kind 115 n.stamp 1099511627776 hkk rfl _ hk255) ?_;rintro _ _ ⟨rfl,rfl⟩
  cases hv2:xc k 115 n.stamp 1099511627776 with
  |false=>
   refine Q.r ?_;exact ⟨false,zt,kZ _,by unfold Qy;simp only[hv0,hv1,hv2,jf,j6,j4,jW,jR,jH,jD,jN,jQ,jJ,jT]⟩
  |true=>
  refine Q.r ?_;refine S.cr rfl (wh k 97 n.kind 97 n.after 1099511627776 hkk rfl _ hk255) ?_;rintro _ _ ⟨rfl,rfl⟩
  cases hv3:xc k 97 n.after 1099511627776 with
  |false=>
   refine Q.r ?_;exact ⟨false,zt,kZ _,by unfold Qy;simp only[hv0,hv1,hv2,hv3,jf,j6,j4,jW,jR,jH,jD,jN,jQ,jJ,jT]⟩
  |true=>
  refine Q.r ?_;refine S.cr rfl (wh k 109 n.kind 109 n.mark 1099511627776 hkk rfl _ hk255) ?_;rintro _ _ ⟨rfl,rfl⟩
  cases hv4:xc k 109 n.mark 1099511627776 with
  |false=>
   refine Q.r ?_;exact ⟨false,zt,kZ _,by unfold Qy;simp only[hv0,hv1,hv2,hv3,hv4,jf,j6,j4,jW,jR,jH,jD,jN,jQ,jJ,jT]⟩
  |true=>
  refine Q.r ?_;refine S.cr rfl (wh k 113 n.kind 113 n.query 18446744073709551615 hkk rfl _ hk255) ?_;rintro _ _ ⟨rfl,rfl⟩
  cases hv5:xc k 113 n.query 18446744073709551615 with
  |false=>
   refine Q.r ?_;exact ⟨false,zt,kZ _,by unfold Qy;simp only[hv0,hv1,hv2,hv3,hv4,hv5,jf,j6,j4,jW,jR,jH,jD,jN,jQ,jJ,jT]⟩
  |true=>
  refine Q.r ?_;refine S.cr rfl (wh k 105 n.kind 105 n.id 1099511627776 hkk rfl _ hk255) ?_;rintro _ _ ⟨rfl,rfl⟩
  cases hv6:xc k 105 n.id 1099511627776 with
  |false=>
   refine Q.r ?_;exact ⟨false,zt,kZ _,by unfold Qy;simp only[hv0,hv1,hv2,hv3,hv4,hv5,hv6,jf,j6,j4,jW,jR,jH,jD,jN,jQ,jJ,jT]⟩
  |true=>
  refine Q.r ?_;refine S.y (Y.cvi rfl) ?_;rw[wrap_u64 zo zo];refine Q.r ?_;refine S.cr rfl (wh k 107 n.kind 107 n.k 16 hkk rfl _ hk255) ?_;rintro _ _ ⟨rfl,rfl⟩
  cases hv7:xc k 107 n.k 16 with
  |false=>
   refine Q.r ?_;exact ⟨false,zt,kZ _,by unfold Qy;simp only[hv0,hv1,hv2,hv3,hv4,hv5,hv6,hv7,jf,j6,j4,jW,jR,jH,jD,jN,jQ,jJ,jT]⟩
  |true=>
  refine Q.r ?_;refine S.y (Y.cvi rfl) ?_;rw[wrap_u64 zo zo];refine Q.r ?_;refine S.cr rfl (wh k 101 n.kind 101 n.ef 256 hkk rfl _ hk255) ?_;rintro _ _ ⟨rfl,rfl⟩
  cases hv8:xc k 101 n.ef 256 with
  |false=>
   refine Q.r ?_;exact ⟨false,zt,kZ _,by unfold Qy;simp only[hv0,hv1,hv2,hv3,hv4,hv5,hv6,hv7,hv8,jf,j6,j4,jW,jR,jH,jD,jN,jQ,jJ,jT]⟩
  |true=>
  refine Q.r ?_;refine S.y (Y.cvi rfl) ?_;rw[wrap_u64 zo zo];refine Q.r ?_;refine S.cr rfl (wh k 99 n.kind 99 n.code 13 hkk rfl _ hk255) ?_;rintro _ _ ⟨rfl,rfl⟩
  cases hv9:xc k 99 n.code 13 with
  |false=>
   refine Q.r ?_;exact ⟨false,zt,kZ _,by unfold Qy;simp only[hv0,hv1,hv2,hv3,hv4,hv5,hv6,hv7,hv8,hv9,jf,j6,j4,jW,jR,jH,jD,jN,jQ,jJ,jT]⟩
  |true=>
  refine Q.r ?_;refine S.y (Y.cvi rfl) ?_;rw[wrap_u64 zo zo];refine Q.r ?_;refine S.cr rfl (wh k 119 n.kind 119 n.who 15 hkk rfl _ hk255) ?_;rintro _ _ ⟨rfl,rfl⟩
  cases hv10:xc k 119 n.who 15 with
  |false=>
   refine Q.r ?_;exact ⟨false,zt,kZ _,by unfold Qy;simp only[hv0,hv1,hv2,hv3,hv4,hv5,hv6,hv7,hv8,hv9,hv10,jf,j6,j4,jW,jR,jH,jD,jN,jQ,jJ,jT]⟩
  |true=>
  refine Q.r ?_;exact ⟨true,zt,kZ _,by unfold Qy;simp only[hv0,hv1,hv2,hv3,hv4,hv5,hv6,hv7,hv8,hv9,hv10,j6,j4,jW,jR,jH,jD,jN,jQ,jJ,jT]⟩
 intro b0 hb0;rw[←hb0,←Bool.and_assoc];clear hb0;refine wl ?_;refine QX ?_;refine Qj (σ:=Bool) (λs=> [(1,.pointer (some ⟨b1,0,none⟩)),(6,.bool s)]) (λs=>pt b1 (cl n.cells 43)::A) (λs=>s=(b0&&Y3 k n.abs)) ?_ ?_
 ·cases b0 with
  |false=>
   refine Q.r ?_;exact ⟨false,zt,kZ _,rfl⟩
  |true=>
  rw[jJ];refine Q.r ?_;refine S.y (Y.cvi rfl) ?_;rw[wrap_u64 zo zo];refine Q.r ?_;refine S.cr rfl (wh k 112 n.kind 112 (n.parts.length:Nat) 4 hkk rfl _ hk255) ?_;rintro _ _ ⟨rfl,rfl⟩
  cases hv0:xc k 112 (n.parts.length:Nat) 4 with
  |false=>
   refine Q.r ?_;exact ⟨false,zt,kZ _,by unfold Y3;simp only[hv0,jf,j6,j4,jW,jR,jH,jD,jN,jQ,jJ,jT]⟩
  |true=>
  refine Q.r ?_;refine S.y (Y.cvi rfl) ?_;rw[wrap_u64 zo zo];refine Q.r ?_;refine S.cr rfl (wh k 111 n.kind 111 (n.ops.length:Nat) 16 hkk rfl _ hk255) ?_;rintro _ _ ⟨rfl,rfl⟩
  cases hv1:xc k 111 (n.ops.length:Nat) 16 with
  |false=>
   refine Q.r ?_;exact ⟨false,zt,kZ _,by unfold Y3;simp only[hv0,hv1,jf,j6,j4,jW,jR,jH,jD,jN,jQ,jJ,jT]⟩
  |true=>
  refine Q.r ?_;refine S.y (Y.cvi rfl) ?_;rw[wrap_u64 zo zo];refine Q.r ?_;refine S.cr rfl (wh k 118 n.kind 118 (n.vec.length:Nat) 8 hkk rfl _ hk255) ?_;rintro _ _ ⟨rfl,rfl⟩
  cases hv2:xc k 118 (n.vec.length:Nat) 8 with
  |false=>
   refine Q.r ?_;exact ⟨false,zt,kZ _,by unfold Y3;simp only[hv0,hv1,hv2,jf,j6,j4,jW,jR,jH,jD,jN,jQ,jJ,jT]⟩
  |true=>
  refine Q.r ?_;refine S.y (Y.cvi rfl) ?_;rw[wrap_u64 zo zo];refine Q.r ?_;refine S.cr rfl (wh k 104 n.kind 104 (n.hits.length:Nat) 16 hkk rfl _ hk255) ?_;rintro _ _ ⟨rfl,rfl⟩
  cases hv3:xc k 104 (n.hits.length:Nat) 16 with
  |false=>
   refine Q.r ?_;exact ⟨false,zt,kZ _,by unfold Y3;simp only[hv0,hv1,hv2,hv3,jf,j6,j4,jW,jR,jH,jD,jN,jQ,jJ,jT]⟩
  |true=>
  refine Q.r ?_;refine S.cr rfl (Z4 n.va n.vc n.vec _ h.v.sub hk.v) ?_;rintro _ _ ⟨rfl,rfl⟩
  cases hv5:xu n.vec with
  |false=>
   refine Q.r ?_;exact ⟨false,zt,kZ _,by unfold Y3;simp only[hv0,hv1,hv2,hv3,hv5,jf,j6,j4,jW,jR,jH,jD,jN,jQ,jJ,jT]⟩
  |true=>
   refine Q.r ?_;exact ⟨true,zt,kZ _,by unfold Y3;simp only[hv0,hv1,hv2,hv3,hv5,jf,j6,j4,jW,jR,jH,jD,jN,jQ,jJ,jT]⟩
 intro b hb;rw[←hb,←Bool.and_assoc];clear hb b0;refine Q.r ?_;refine qx (σ:=Bool) (λs=> [(1,.pointer (some ⟨b1,0,none⟩)),(6,.bool s)]) (λs=>pt b1 (cl n.cells 43)::A) (λs=>s=(b&&wL n.parts)) ?_ ?_
 ·refine ql (σ:=Nat×Bool) (λs=> [(1,.pointer (some ⟨b1,0,none⟩)),(149,.slice n.pa n.parts.length n.pc),(150,.int .i64 n.parts.length),(6,.bool s.2),(151,.int .i64 s.1)])
   (λ_=>pt b1 (cl n.cells 43)::A) (λs=>s.1≤n.parts.length∧s.2=(b&&(List.range s.1).all (cj n.parts))) (λs=>n.parts.length - s.1) (0,b) zt (kZ _) ⟨by omega,by simp⟩ ?_
  rintro ⟨i,t⟩ ⟨hi,ht⟩;dsimp only at hi ht ⊢
  by_cases hlt:i<n.parts.length
  ·have hst:(b&&(List.range (i+1)).all (cj n.parts))=(t&&cj n.parts i):=by
    rw[List.range_succ,List.all_append,←Bool.and_assoc,←ht,List.all_cons,List.all_nil,jT]
   clear ht;obtain ⟨p,hp⟩:=qw hlt;obtain ⟨bp,op,hpa,hr⟩:=qW.elem (g:=λz=> [I64 z]) (λ_=>rfl) (by rw[yh];exact h.p) hp rfl;have hgp:n.parts.getD i 0=p:=by rw[j8,hp];rfl
   cases t with
   |false=>
    rw[hpa]
    repeat (first|refine S.y (Y.ldRj rfl (by first|assumption|exact vg.sub (by assumption)) rfl) ?_|(refine GQ.y ?_;refine Q.y ?_)|refine Q.go ?_|(refine GQ.g ?_;refine Q.gq ?_)|(refine GQ.s ?_;refine Q.st ?_)|(refine GQ.g ?_;refine Q.gd ?_)|refine Q.ct rfl ?_|refine Q.cf rfl ?_|(refine GQ.a ?_;refine Q.al (λb1=> ?_)))
    exact ⟨(i+1,false),⟨rfl,by first|rfl|(rw[←hpa];rfl),rfl,rfl,rfl,trivial⟩,kZ _,⟨by dsimp only;omega,by rw[hst];rfl⟩,by dsimp only;omega⟩
   |true=>
   rw[jJ] at hst
   by_cases e1:p<0
   ·rw[hpa]
    repeat (first|refine S.y (Y.ldRj rfl (by first|assumption|exact vg.sub (by assumption)) rfl) ?_|(refine GQ.y ?_;refine Q.y ?_)|refine Q.go ?_|(refine GQ.g ?_;refine Q.gq ?_)|(refine GQ.s ?_;refine Q.st ?_)|(refine GQ.g ?_;refine Q.gd ?_)|refine Q.ct rfl ?_|refine Q.cf rfl ?_|(refine GQ.a ?_;refine Q.al (λb1=> ?_)))
    exact ⟨(i+1,false),⟨rfl,by first|rfl|(rw[←hpa];rfl),rfl,rfl,rfl,trivial⟩,kZ _,⟨by dsimp only;omega,by rw[hst];unfold cj;rw[hgp,jv (by omega:¬0≤p)];rfl⟩,by dsimp only;omega⟩
   by_cases e2:16≤p
   ·rw[hpa]
    repeat (first|refine S.y (Y.ldRj rfl (by first|assumption|exact vg.sub (by assumption)) rfl) ?_|(refine GQ.y ?_;refine Q.y ?_)|refine Q.go ?_|(refine GQ.g ?_;refine Q.gq ?_)|(refine GQ.s ?_;refine Q.st ?_)|(refine GQ.g ?_;refine Q.gd ?_)|refine Q.ct rfl ?_|refine Q.cf rfl ?_|(refine GQ.a ?_;refine Q.al (λb1=> ?_)))
    exact ⟨(i+1,false),⟨rfl,by first|rfl|(rw[←hpa];rfl),rfl,rfl,rfl,trivial⟩,kZ _,⟨by dsimp only;omega,by rw[hst];unfold cj;rw[hgp,jv (by omega:¬p<16),jQ];rfl⟩,by dsimp only;omega⟩
   by_cases e3:i=0
   ·subst e3
    rw[hpa]
    repeat (first|refine S.y (Y.ldRj rfl (by first|assumption|exact vg.sub (by assumption)) rfl) ?_|(refine GQ.y ?_;refine Q.y ?_)|refine Q.go ?_|(refine GQ.g ?_;refine Q.gq ?_)|(refine GQ.s ?_;refine Q.st ?_)|(refine GQ.g ?_;refine Q.gd ?_)|refine Q.ct rfl ?_|refine Q.cf rfl ?_|(refine GQ.a ?_;refine Q.al (λb1=> ?_)))
    exact ⟨(1,true),⟨rfl,by first|rfl|(rw[←hpa];rfl),rfl,rfl,rfl,trivial⟩,kZ _,⟨by dsimp only;omega,by rw[hst];unfold cj;rw[hgp,jo (by omega:(0:Int)≤p),jo (by omega:p<16)];rfl⟩,by dsimp only;omega⟩
   ·obtain ⟨q,hq⟩:=qw (l:=n.parts) (show i - 1<n.parts.length by omega)
    obtain ⟨bq,oq,hqa,hr2⟩:=qW.elem (g:=λz=> [I64 z]) (λ_=>rfl) (by rw[yh];exact h.p) hq rfl;have hgq:n.parts.getD (i - 1) 0=q:=by rw[j8,hq];rfl
    have hv:cj n.parts i=decide (q<p):=by
     unfold cj;rw[hgp,hgq,jo (by omega:(0:Int)≤p),jo (by omega:p<16),jv e3];simp only[j6,j4,jW,jR,jH,jD,jN,jQ,jJ,jT]
    rw[hv] at hst;rw[hpa];refine Q.rd6 ?_;rw[←hpa,hqa];refine Q.rd6 ?_;exact ⟨(i+1,decide (q<p)),⟨rfl,by first|rfl|(rw[←hqa];rfl)|(rw[hqa];rfl),rfl,rfl,rfl,trivial⟩,kZ _,⟨by dsimp only;omega,by rw[hst]⟩,by dsimp only;omega⟩
  ·have hie:i=n.parts.length:=by omega
   subst hie;refine Q.r ?_;exact ⟨t,zt,kZ _,ht⟩
 intro b2 hb2;rw[←hb2,←Bool.and_assoc];clear hb2 b;refine Q.r ?_;refine qx (σ:=Bool) (λs=> [(1,.pointer (some ⟨b1,0,none⟩)),(6,.bool s)]) (λs=>pt b1 (cl n.cells 43)::A) (λs=>s=(b2&& !(n.ops.any λo=>yi o.abs))) ?_ ?_
 ·refine ql (σ:=Nat×Bool) (λs=> [(1,.pointer (some ⟨b1,0,none⟩)),(181,.slice n.oa n.ops.length n.oc),(182,.int .i64 n.ops.length),(6,.bool s.2),(183,.int .i64 s.1)])
   (λ_=>pt b1 (cl n.cells 43)::A) (λs=>s.1≤n.ops.length∧s.2=(b2&& !((n.ops.take s.1).any λo=>yi o.abs))) (λs=>n.ops.length - s.1) (0,b2) zt (kZ _) ⟨by omega,by simp⟩ ?_
  rintro ⟨i,t⟩ ⟨hi,ht⟩;dsimp only at hi ht ⊢
  by_cases hlt:i<n.ops.length
  ·obtain ⟨o,ho⟩:=qw hlt
   have hmo:o∈n.ops:=jn ho;have hst:(b2&& !((n.ops.take (i+1)).any λo=>yi o.abs))=(t&& !yi o.abs):=by
    rw[qz ho,kW,Bool.not_or,←Bool.and_assoc,←ht,kX,List.any_nil,jW]
   clear ht;obtain ⟨bp,op,hpa,hr⟩:=qW.elem (g:=OV.cells) (λ_=>rfl) h.o.1 ho rfl;rw[hpa]
   cases t with
   |false=>
    refine Q.r ?_;(repeat (intro b1;refine Q.r ?_));exact ⟨(i+1,false),zt,by exact eG,⟨by dsimp only;omega,by rw[hst];rfl⟩,by dsimp only;omega⟩
   |true=>
   rw[jJ] at hst
   by_cases e1:1099511627776<o.id
   ·refine Q.r ?_;(repeat (intro b1;refine Q.r ?_))
    exact ⟨(i+1,false),zt,by exact eG,⟨by dsimp only;omega,by rw[hst];unfold yi;rw[jo e1];rfl⟩,by dsimp only;omega⟩
   ·refine Q.r ?_;(repeat (intro b1;refine Q.r ?_))
    refine S.cr rfl (Z4 o.a o.c o.vec _ ((h.o.2 o hmo).sub) (hk.ov o hmo)) ?_;rintro _ _ ⟨rfl,rfl⟩;refine Q.r ?_;exact ⟨(i+1,xu o.vec),zt,by exact eG,⟨by dsimp only;omega,by rw[hst];unfold yi;rw[jv e1];simp only[j6,j4,jW,jR,jH,jD,jN,jQ,jJ,jT,Bool.not_not]⟩,by dsimp only;omega⟩
  ·have hie:i=n.ops.length:=by omega
   subst hie;rw[jI] at ht;refine Q.r ?_;exact ⟨t,zt,kZ _,ht⟩
 intro b3 hb3;rw[←hb3];clear hb3 b2;refine Q.r ?_;refine qx (σ:=Bool) (λs=> [(6,.bool s)]) (λs=>A) (λs=>s=(b3&& !(n.hits.any λo=>xA o.abs))) ?_ ?_
 ·refine ql (σ:=Nat×Bool) (λs=> [(200,.slice n.ha n.hits.length n.hc),(201,.int .i64 n.hits.length),(6,.bool s.2),(202,.int .i64 s.1)])
   (λ_=>A) (λs=>s.1≤n.hits.length∧s.2=(b3&& !((n.hits.take s.1).any λo=>xA o.abs))) (λs=>n.hits.length - s.1) (0,b3) zt (qi.drop (kZ _)) ⟨by omega,by simp⟩ ?_
  rintro ⟨i,t⟩ ⟨hi,ht⟩;dsimp only at hi ht ⊢
  by_cases hlt:i<n.hits.length
  ·obtain ⟨o,ho⟩:=qw hlt
   have hmo:o∈n.hits:=jn ho;have hst:(b3&& !((n.hits.take (i+1)).any λo=>xA o.abs))=(t&& !xA o.abs):=by
    rw[qz ho,kW,Bool.not_or,←Bool.and_assoc,←ht,kX,List.any_nil,jW]
   clear ht;obtain ⟨bp,op,hpa,hr⟩:=qW.elem (g:=HV.cells) (λ_=>rfl) h.h ho rfl;rw[hpa]
   cases t with
   |false=>
    refine Q.r ?_;(repeat (intro b1;refine Q.r ?_));exact ⟨(i+1,false),zt,by exact eG,⟨by dsimp only;omega,by rw[hst];rfl⟩,by dsimp only;omega⟩
   |true=>
   rw[jJ] at hst
   by_cases e1:1099511627776<o.id
   ·refine Q.r ?_;(repeat (intro b1;refine Q.r ?_))
    exact ⟨(i+1,false),zt,by exact eG,⟨by dsimp only;omega,by rw[hst];unfold xA;rw[jo e1];rfl⟩,by dsimp only;omega⟩
   ·refine Q.r ?_;(repeat (intro b1;refine Q.r ?_))
    refine S.cr rfl (WM o.a o.c o.vec _ ((h.hv o hmo).sub) (by have:=hk.hv o hmo;omega)) ?_;rintro _ _ ⟨rfl,rfl⟩;refine Q.r ?_;exact ⟨(i+1,wK o.vec),zt,by exact eG,⟨by dsimp only;omega,by rw[hst];unfold xA;rw[jv e1];simp only[j6,j4,jW,jR,jH,jD,jN,jQ,jJ,jT,Bool.not_not]⟩,by dsimp only;omega⟩
  ·have hie:i=n.hits.length:=by omega
   subst hie;rw[jI] at ht;refine Q.r ?_;exact ⟨t,zt,kZ _,ht⟩
 intro b4 hb4;rw[←hb4];refine Q.r ?_;exact N.t rfl (kZ _) ⟨rfl,rfl⟩
end Go.Proofs.YtlnfjhiphlfkjaaGreatDoor
namespace Go.SX
open Go
end Go.SX
namespace Go.Proofs.YtlnfjhiphlfkjaaGreatDoor
open Go Go.SX
attribute [local irreducible] swp qq qM qL vX qh St qi qk vu qG
structure QV where
 txn:Int
 a:OA
 c:Nat
 l:List Int
abbrev QV.cells (v:QV):List Value:=[.int .u64 v.txn,.slice v.a v.l.length v.c]
abbrev QV.abs (v:QV):Int×List Int:=(v.txn,v.l)
abbrev dC (d:Int×Int):List Value:=[.int .u64 d.1,.int .u64 d.2]
structure jFG (M:OM)(j:JS)(sf:Int)(pa:OA)(pc:Nat)(ps:List QV)(da:OA)(dc:Nat)(ds:List (Int×Int)):Prop where
 s1:1≤sf
 s2:sf=j.v.dim
 pp:(ps.map QV.abs).Perm j.parts
 po:∀u∈ps,qH M u.a u.l.length 1 (u.l.map I64)
 pS:qH M pa ps.length 2 (ps.flatMap QV.cells)
 dp:ds.Perm j.done
 sd:(ds.map (·.1)).Pairwise (· < ·)
 dS:qH M da ds.length 2 (ds.flatMap dC)
 dc:ds.length≤dc
 kp:qn j.parts
 kd:qn j.done
structure RJX where
 v:Nat
 self:Int
 pa:OA
 pc:Nat
 ps:List QV
 da:OA
 dc:Nat
 ds:List (Int×Int)
 M:OM
section
variable {n : Nat} {ops rest : List Oper} {cd : Code} {Q : vk} {f : vF} {L L0 : HL} {j : JS}
end
abbrev vx (m:Int×NV):List Value:=I64 m.1::m.2.cells
end Go.Proofs.YtlnfjhiphlfkjaaGreatDoor
namespace Go.SX
open Go
section
variable {P : Program} {n : Nat} {ops rest : List Oper} {cd : Code} {Q : vk} {f : vF} {L L0 L1 L2 : HL} {d : Tmp} {ty : TypeId} {pos : String} {af : Array Edge} {A B C : HP} {g : FuncId} {xs : Array Operand} {ats : Array TypeId} {args : List Value} {R : Value → HL → Prop}
theorem S.c1 [he:qj P g](hx:xv f xs.toList=some args)(hc:qh P g args (A::L0) R)[h1:xe A L L0](hk:∀v L',R v L'→qq P n ops rest Q (upd f d v) L'):
  qq P n ops (⟨some d,.call ⟨.value (.func g),xs,ats⟩,ty,pos,af,none⟩::rest) Q f L:=qm h1.ent (S.cr hx hc hk)
theorem S.c2 [he:qj P g](hx:xv f xs.toList=some args)(hc:qh P g args (A::B::L1) R)[h1:xe A L L0][h2:xe B L0 L1](hk:∀v L',R v L'→qq P n ops rest Q (upd f d v) L'):
  qq P n ops (⟨some d,.call ⟨.value (.func g),xs,ats⟩,ty,pos,af,none⟩::rest) Q f L:=qm (h1.ent.trans h2.ent.cons) (S.cr hx hc hk)
theorem S.c3 [he:qj P g](hx:xv f xs.toList=some args)(hc:qh P g args (A::B::C::L2) R)[h1:xe A L L0][h2:xe B L0 L1][h3:xe C L1 L2](hk:∀v L',R v L'→qq P n ops rest Q (upd f d v) L'):
  qq P n ops (⟨some d,.call ⟨.value (.func g),xs,ats⟩,ty,pos,af,none⟩::rest) Q f L:=qm (h1.ent.trans (h2.ent.trans h3.ent.cons).cons) (S.cr hx hc hk)
end
end Go.SX
namespace Go.Proofs.YtlnfjhiphlfkjaaGreatDoor
open Go Go.SX
attribute [local irreducible] swp qq qM qL vX qh St qi qk vu qG
def liftQ (n:NV)(r:NA):NV:=if r.kind=12 then ⟨12,n.txn,0,0,n.after,0,0,0,0,0,0,0,n.pa,n.pc,n.parts,n.oa,n.oc,n.ops,none,0,[],none,0,[]⟩ else r.nv
section
variable {n : Nat} {ops rest : List Oper} {cd : Code} {Q : vk} {f : vF} {L L0 : HL}
end
theorem jFG.same {M:OM}{j j':JS}{sf:Int}{pa:OA}{pc:Nat}{ps:List QV}{da:OA}{dc:Nat}{ds:List (Int×Int)}(h:jFG M j sf pa pc ps da dc ds)(hj:j'.parts=j.parts)(hd:j'.done=j.done)(hdm:j'.v.dim=j.v.dim:=by first|rfl|exact Wb _ _ _ _|exact Vf _ _ _|exact Q0 _ _):jFG M j' sf pa pc ps da dc ds:=
 ⟨h.s1,h.s2.trans hdm.symm,hj▸h.pp,h.po,h.pS,hd▸h.dp,h.sd,h.dS,h.dc,hj▸h.kp,hd▸h.kd⟩
end Go.Proofs.YtlnfjhiphlfkjaaGreatDoor
