/- Walks of functions, and plain laws, that the last text rests on. No condition. -/
import Derived.Test.YtlnfjhiphlfkjaaGreatDoorPk10
set_option linter.unusedVariables false
set_option linter.unusedSimpArgs false
set_option linter.unusedSectionVars false
set_option maxHeartbeats 8000000
namespace Go.Proofs.YtlnfjhiphlfkjaaGreatDoor
open Go Go.SX
attribute [local irreducible] swp qq qL qJ vZ qh St qi qk vu qH
theorem jAa (cs:List (Bool×Nat))(xs:List Int)(i:Nat)(c:Bool×Nat)(x:Int)(hc:cs[i]? =some c)(hx:xs[i]? =some x):xt (cs.take (i+1)) (xs.take (i+1))=xt (cs.take i) (xs.take i)++vr c.1 numI x:=by
 induction cs generalizing xs i with
 |nil=>cases hc
 |cons d cs ih=>
  cases xs with
  |nil=>cases hx
  |cons y xs=>
   cases i with
   |zero=>
    cases hc;cases hx
    simp[xt]
   |succ i=>
    have:=ih xs i hc hx;rw[List.take_succ_cons,List.take_succ_cons,List.take_succ_cons,List.take_succ_cons]
    show vr d.1 numI y++xt (cs.take (i+1)) (xs.take (i+1))=(vr d.1 numI y++xt (cs.take i) (xs.take i))++_
    rw[this,ju]
theorem jDa (k i:Nat)(hi:i<11):∃m,(zH k)[i]? =some (qC k i,m):=by
 unfold zH mostK
 rcases i with _|_|_|_|_|_|_|_|_|_|_|i<;>first|exact ⟨_,rfl⟩|omega
theorem jBB (k:Nat)(xs:List Int)(hx:xs.length=11):xt ((zH k).take 11) (xs.take 11)=xt (zH k) xs:=by
 rw[kK (by show 11≤11;omega),kK zo]
theorem jHN (x0 x1 x2 x3 x4 x5 x6 x7 x8 x9 x10:Int):bZ (XG 1 11) (11*1) (cellsOf [(0,U64 x0),(1,U64 x1),(2,U64 x2),(3,U64 x3),(4,U64 x4),(5,U64 x5),(6,U64 x6),(7,U64 x7),(8,U64 x8),(9,U64 x9),(10,U64 x10)])=true:=by rfl
theorem jGr (x0 x1 x2 x3 x4 x5 x6 x7 x8 x9 x10:Int):Xn (XG 1 11) [.int .u64 0,.int .u64 0,.int .u64 0,.int .u64 0,.int .u64 0,.int .u64 0,.int .u64 0,.int .u64 0,.int .u64 0,.int .u64 0,.int .u64 0] (cellsOf [(0,U64 x0),(1,U64 x1),(2,U64 x2),(3,U64 x3),(4,U64 x4),(5,U64 x5),(6,U64 x6),(7,U64 x7),(8,U64 x8),(9,U64 x9),(10,U64 x10)])=[U64 x0,U64 x1,U64 x2,U64 x3,U64 x4,U64 x5,U64 x6,U64 x7,U64 x8,U64 x9,U64 x10]:=by kernel_rfl
abbrev cI6 (z:Int):List Value:=[I64 z]
theorem jEC (l:List Int):l.flatMap cI6=l.map I64:=by
 induction l with
 |nil=>rfl
 |cons z l ih=>rw[jK,ih];rfl
def jHw (M:OM)(L0:HL)(n:NA)(r:Value)(L':HL):Prop:=∃v:YB,∃M',r=.tuple #[v.val,.int .i64 (if qn n=true then 0 else 4)]∧v.bs=(if qn n=true then qz n else [])∧wq M' v∧v.bs.length≤v.c∧qV M M'∧L'=qp M'::L0
set_option maxRecDepth 100000 in
theorem Zo (n:NV)(M:OM)(L0:HL)(hn:xN M n)(hN:OkN n)(hT:zB M)(hB:xL M)(hu:wg n.abs):
  qh kY 79 [n.val] (qp M::L0) (jHw M L0 n.abs):=by
 refine qg Tryz.func79 rfl rfl rfl ?_;have hk0:=hu.a.kind;refine Q.r ?_;(repeat (intro b1;refine Q.r ?_));refine S.cr rfl (JL n _ hn.rd hN hT.rd hk0) ?_;rintro _ _ ⟨rfl,rfl⟩
 by_cases hR:qn n.abs=true
 case neg=>
  have hR':qn n.abs=false:=by simpa using hR
  rw[hR'];refine Q.r ?_;refine N.u rfl rfl (L':=qp M::L0) eG ⟨⟨none,0,[]⟩,M,by rw[hR'];rfl,by rw[hR'];rfl,qI.nil,jz _,qV.refl _,rfl⟩
 rw[hR];refine Q.r ?_;(repeat (intro b1;refine Q.r ?_));generalize b1=bw at*;rename_i bn;have hO:=xO hR hu;have hkR:1≤n.kind∧n.kind≤22:=by
  have:=hR;unfold qn at this;simp only[jF,jS] at this;exact this.1.1
 obtain ⟨k,hk⟩:∃k:Nat,n.kind=(k:Int):=⟨n.kind.toNat,by omega⟩;have hk23:k<23:=by omega
 have hkn:n.abs.kind.toNat=k:=by show n.kind.toNat=k;omega
 have u1:=hu.a.txn;have u2:=hu.a.batch;have u3:=hu.a.stamp;have u4:=hu.a.after;have u5:=hu.a.mark;have u6:=hu.a.query;have u7:=hu.a.id;have u8:=hu.a.k;have u9:=hu.a.ef;have u10:=hu.a.code;have u11:=hu.a.who;have hneg:0≤n.k∧0≤n.ef∧0≤n.code∧0≤n.who:=by
  have:=hR;unfold qn vV at this;simp only[jF,kL,Bool.or_eq_false_iff,j5] at this;have h2:=this.2.1.1.1.1.1.1.1.1.2;omega
 dsimp only at u1 u2 u3 u4 u5 u6 u7 u8 u9 u10 u11;refine S.y (Y.cvi rfl) ?_;rw[wrap_u64 zo zo];refine qo (L':=wH bw []::yC bn n::qp M::L0) (qi.trans jBn eG) ?_;refine Q.r ?_;(repeat (intro b1;refine Q.r ?_));refine S.c1 rfl (vz bw [] (some ⟨b1,0,none⟩) 1 [n.kind] _ (qY.row1 rfl) (by intro z hz;rw[ji.1 hz];omega) (by simp)) ?_;rintro _ _ ⟨rfl,rfl⟩;rw[show []++[n.kind].flatMap numI=numI n.kind by simp];refine Q.r ?_;refine S.y (Y.mf rfl rfl) ?_;refine Q.r ?_;refine S.y (Y.cvi rfl) ?_;rw[wrap_u64 zo zo];refine Q.r ?_;refine S.y (Y.cvi rfl) ?_;rw[wrap_u64 zo zo];refine Q.r ?_;refine S.y (Y.cvi rfl) ?_;rw[wrap_u64 zo zo];refine Q.r ?_;refine S.y (Y.cvi rfl) ?_;rw[wrap_u64 zo zo];refine S.y (Y.bda (l:=[_,_,_,_,_,_,_,_,_,_,_]) (cs:=(XE n.abs).1.map U64) rfl rfl (jHN _ _ _ _ _ _ _ _ _ _ _) (jGr _ _ _ _ _ _ _ _ _ _ _)) ?_;obtain ⟨xs,hxs⟩:∃xs,xs=(XE n.abs).1:=⟨_,rfl⟩;have hx11:xs.length=11:=by rw[hxs];rfl
 rw[←hxs];refine Q.r ?_;have hxu:∀x∈xs,x≤18446744073709551615:=λx hx=>by
  rw[hxs] at hx;simp only[XE,j9,List.not_mem_nil,or_false] at hx;omega
 have hl0:=qr (z:=n.kind) zo;refine qw (σ:=Unit) (λ_=> [(1,.pointer (some ⟨bn,0,none⟩)),(4,.pointer (some ⟨bw,0,none⟩)),(5,.func (.func 153) #[] #[.pointer (some ⟨bn,0,none⟩)])]) (λ_=>wH bw (numI n.kind++xt (zH k) xs)::yC bn n::qp M::L0) (λ_=>True) ?_ ?_
 ·refine ql (σ:=Nat) (λi=> [(1,.pointer (some ⟨bn,0,none⟩)),(4,.pointer (some ⟨bw,0,none⟩)),(5,.func (.func 153) #[] #[.pointer (some ⟨bn,0,none⟩)]),(52,.agg (xs.map U64).toArray),(53,.int .i64 i)]) (λi=>wH bw (numI n.kind++xt ((zH k).take i) (xs.take i))::yC bn n::qp M::L0) (λi=>i≤11) (λi=>11 - i) 0 zt (qi.trans (M:=wH bw (numI n.kind)::yC bn n::qp M::L0) eG (by rw[show (zH k).take 0=[] from rfl,show xs.take 0=[] from rfl,show xt [] []=[] from rfl,jG];exact kZ _)) (jw _) ?_
  intro i hi
  by_cases hlt:i<11
  ·have hlt':(i:Int)<11:=by omega
   obtain ⟨x,hx⟩:=qx (show i<xs.length by omega);obtain ⟨m,hm⟩:=jDa k i hlt;have hnx:=jAa (zH k) xs i _ x hm hx;have hXl:=QR ((zH k).take i) (xs.take i) (λy hy=>hxu y (List.mem_of_mem_take hy));have hxl:(xs.take i).length≤11:=by rw[jP];omega
   generalize xt ((zH k).take i) (xs.take i)=X at hnx hXl ⊢;refine Q.r ?_;refine S.y (Y.ixa (i:=i) (v:=U64 x) rfl rfl hlt (by rw[List.getElem?_toArray,jZ,hx];rfl)) ?_;refine Q.r ?_;refine S.y (Y.shlI (a:=1) (b:=i) rfl rfl (by show i≤64;omega)) ?_;have hw1:IntKind.i64.wrap (1*2^i)=((2^i:Nat):Int):=by
    rcases i with _|_|_|_|_|_|_|_|_|_|_|i<;>first|rfl|omega
   rw[hw1]
   repeat (first|(refine GQ.y ?_;refine Q.y ?_)|refine Q.go ?_|(refine GQ.g ?_;refine Q.gq ?_)|(refine GQ.s ?_;refine Q.st ?_)|(refine GQ.a ?_;refine Q.al (λb1=> ?_)))
   refine qo (L':=yC bn n::qp M::wH bw (numI n.kind++X)::L0) eG ?_;refine S.crF rfl rfl (Kv bn n k i ((2^i:Nat):Int) M _ hT hk hk23 zo rfl) ?_;rintro _ _ ⟨rfl,rfl⟩
   cases hbk:qC k i with
   |true=>
    refine Q.r ?_;(repeat (intro b1;refine Q.r ?_));refine S.c1 rfl (vz bw (numI n.kind++X) (some ⟨b1,0,none⟩) 1 [x] _ (qY.row1 rfl) (by intro z hz;rw[ji.1 hz];exact hxu x (jn hx)) (by simp only[jc,jC,j7];omega)) ?_;rintro _ _ ⟨rfl,rfl⟩;refine Q.r ?_;refine ⟨i+1,zt,?_,by omega,by omega⟩;rw[hnx,hbk,show numI n.kind++(X++vr true numI x)=numI n.kind++X++[x].flatMap numI by simp[vr]];exact eG
   |false=>
    refine Q.r ?_;refine ⟨i+1,zt,?_,by omega,by omega⟩;rw[hnx,hbk,show numI n.kind++(X++vr false numI x)=numI n.kind++X by simp[vr]];exact eG
  ·have hie:i=11:=by omega
   subst hie;rw[jBB k xs hx11];refine Q.r ?_;exact ⟨(),zt,kZ _,trivial⟩
 ·intro _ _
  have hXl:=QR (zH k) xs hxu;generalize hXe:xt (zH k) xs=X at hXl ⊢;have hb:=hO.b;rw[hkn] at hb;have hf:∃FN:Value,FN=Value.func (.func 153) #[] #[.pointer (some ⟨bn,0,none⟩)]:=⟨_,rfl⟩;have hH1:(numI n.kind++X).length≤150:=by rw[jc];omega
  generalize hH:numI n.kind++X=H0 at hH1 ⊢;have hbp:if qC k 11=true then n.parts.length≤4∧∀x∈n.parts,0≤x∧x≤(16:Nat) else n.parts=[]:=hb.2.1
  refine wE ?_;refine vo (σ:=Unit) (λ_=> [(1,.pointer (some ⟨bn,0,none⟩)),(4,.pointer (some ⟨bw,0,none⟩)),(5,.func (.func 153) #[] #[.pointer (some ⟨bn,0,none⟩)])]) (λ_=>wH bw (H0++vr (qC k 11) (wL numI) n.parts)::yC bn n::qp M::L0) (λ_=>True) ?_ ?_
  ·refine Q.r ?_
   refine qo (L':=yC bn n::qp M::wH bw H0::L0) eG ?_;refine S.crF rfl rfl (Kv bn n k 11 2048 M _ hT hk hk23 zo rfl) ?_;rintro _ _ ⟨rfl,rfl⟩
   cases hbk:qC k 11 with
   |false=>
    rw[show H0++vr false (wL numI) n.parts=H0 by simp[vr]];refine Q.r ?_;refine ⟨(),zt,?_,trivial⟩;exact eG
   |true=>
    rw[hbk,jb rfl] at hbp;refine Q.r ?_;refine S.y (Y.cvi rfl) ?_;rw[wrap_u64 zo zo];refine Q.r ?_;(repeat (intro b1;refine Q.r ?_));refine S.c1 rfl (vz bw H0 (some ⟨b1,0,none⟩) 1 [(n.parts.length:Int)] _ (qY.row1 rfl) (by intro z hz;rw[ji.1 hz];omega) (by simp only[jC,j7];omega)) ?_;rintro _ _ ⟨rfl,rfl⟩;rw[show H0++[(n.parts.length:Int)].flatMap numI=H0++numI (n.parts.length:Int) by simp];have hpf:qI M n.pa n.parts.length 1 (n.parts.flatMap cI6):=by rw[jEC];exact hn.p
    have hl1:=qr (z:=(n.parts.length:Int)) zo;refine Q.r ?_;refine ql (σ:=Nat) (λm=> [(1,.pointer (some ⟨bn,0,none⟩)),(4,.pointer (some ⟨bw,0,none⟩)),(5,.func (.func 153) #[] #[.pointer (some ⟨bn,0,none⟩)]),(76,.slice n.pa n.parts.length n.pc),(77,.int .i64 n.parts.length),(78,.int .i64 m)])
     (λm=>wH bw (H0++numI (n.parts.length:Int)++(n.parts.take m).flatMap numI)::yC bn n::qp M::L0) (λm=>m≤n.parts.length) (λm=>n.parts.length - m) 0 zt (by simp only[kB,j3,jG];exact eG) zo ?_
    intro m hm
    by_cases hmt:m<n.parts.length
    ·obtain ⟨z,hz⟩:=qx hmt
     have hz2:=hbp.2 z (jn hz);obtain ⟨b5,o5,hia5,cr5⟩:=qI.cm (g:=cI6) (λ_=>rfl) hpf hz rfl;have hZl:((n.parts.take m).flatMap numI).length≤n.parts.length*10:=zj m (λx hx=>qr (by have:=hbp.2 x hx;omega));have hnx2:(n.parts.take (m+1)).flatMap numI=(n.parts.take m).flatMap numI++numI z:=Vk hz;generalize (n.parts.take m).flatMap numI=Z at hZl hnx2 ⊢;rw[hia5];refine Q.r ?_;refine S.y (Y.cvi rfl) ?_;rw[wrap_u64 zo zo];refine Q.r ?_;(repeat (intro b1;refine Q.r ?_));refine S.c1 rfl (vz bw (H0++numI (n.parts.length:Int)++Z) (some ⟨b1,0,none⟩) 1 [z] _ (qY.row1 rfl) (by intro y hy;rw[ji.1 hy];omega) (by simp only[jc,jC,j7];omega)) ?_;rintro _ _ ⟨rfl,rfl⟩;refine Q.r ?_;refine ⟨m+1,⟨rfl,rfl,rfl,by first|rfl|(rw[←hia5];rfl),rfl,rfl,trivial⟩,?_,by omega,by omega⟩;rw[hnx2,show H0++numI (n.parts.length:Int)++(Z++numI z)=H0++numI (n.parts.length:Int)++Z++[z].flatMap numI by simp];exact eG
    ·have hme:m=n.parts.length:=by omega
     subst hme;rw[jI];refine Q.r ?_;refine ⟨(),zt,?_,trivial⟩;rw[show H0++vr true (wL numI) n.parts=H0++numI (n.parts.length:Int)++n.parts.flatMap numI by simp[vr,wL]];exact eG
  ·intro _ _
   have hH2:(H0++vr (qC k 11) (wL numI) n.parts).length≤220:=by
    rw[jc];unfold vr
    split
    ·next h=>
     rw[jb h] at hbp;have h1:=qr (z:=(n.parts.length:Int)) zo;have h2:(n.parts.flatMap numI).length≤n.parts.length*10:=yO λx hx=>qr (by have:=hbp.2 x hx;omega)
     unfold wL;rw[jc];omega
    ·rw[j7];omega
   generalize hHH:H0++vr (qC k 11) (wL numI) n.parts=H1 at hH2 ⊢;have hbo:if qC k 12=true then (n.ops.map OV.abs).length≤16∧∀o∈n.ops.map OV.abs,YL o else n.ops.map OV.abs=[]:=hb.2.2.1
   refine wE ?_;refine vo (σ:=Unit) (λ_=> [(1,.pointer (some ⟨bn,0,none⟩)),(4,.pointer (some ⟨bw,0,none⟩)),(5,.func (.func 153) #[] #[.pointer (some ⟨bn,0,none⟩)])]) (λ_=>wH bw (H1++vr (qC k 12) (wL xH) (n.ops.map OV.abs))::yC bn n::qp M::L0) (λ_=>True) ?_ ?_
   ·refine Q.r ?_
    refine qo (L':=yC bn n::qp M::wH bw H1::L0) eG ?_;refine S.crF rfl rfl (Kv bn n k 12 4096 M _ hT hk hk23 zo rfl) ?_;rintro _ _ ⟨rfl,rfl⟩
    cases hbk:qC k 12 with
    |false=>
     rw[show H1++vr false (wL xH) (n.ops.map OV.abs)=H1 by simp[vr]];refine Q.r ?_;refine ⟨(),zt,?_,trivial⟩;exact eG
    |true=>
     rw[hbk,jb rfl] at hbo;have hlo:n.ops.length≤16:=by have:=hbo.1;rwa [jf] at this
     have hov:∀o∈n.ops,YL o.abs:=λo ho=>hbo.2 _ (jM.2 ⟨o,ho,rfl⟩)
     clear hbo;refine Q.r ?_;refine S.y (Y.cvi rfl) ?_;rw[wrap_u64 zo zo];refine Q.r ?_;(repeat (intro b1;refine Q.r ?_));refine S.c1 rfl (vz bw H1 (some ⟨b1,0,none⟩) 1 [(n.ops.length:Int)] _ (qY.row1 rfl) (by intro z hz;rw[ji.1 hz];omega) (by simp only[jC,j7];omega)) ?_;rintro _ _ ⟨rfl,rfl⟩;rw[show H1++[(n.ops.length:Int)].flatMap numI=H1++numI (n.ops.length:Int) by simp];have hl1:=qr (z:=(n.ops.length:Int)) zo;refine Q.r ?_;refine ql (σ:=Nat) (λm=> [(1,.pointer (some ⟨bn,0,none⟩)),(4,.pointer (some ⟨bw,0,none⟩)),(5,.func (.func 153) #[] #[.pointer (some ⟨bn,0,none⟩)]),(98,.slice n.oa n.ops.length n.oc),(99,.int .i64 n.ops.length),(100,.int .i64 m)])
      (λm=>wH bw (H1++numI (n.ops.length:Int)++(n.ops.take m).flatMap λo=>xH o.abs)::yC bn n::qp M::L0) (λm=>m≤n.ops.length) (λm=>n.ops.length - m) 0 zt (by simp only[kB,j3,jG];exact eG) zo ?_
     intro m hm
     by_cases hmt:m<n.ops.length
     ·obtain ⟨v,hv⟩:=qx hmt
      have hmv:v∈n.ops:=jn hv;have hvv:=hov v hmv;have hv1:0≤v.id∧v.id≤(1099511627776:Nat):=hvv.1;have hv8:v.vec.length≤8:=hvv.2.1;have hrv:qI M v.a v.vec.length 1 (v.vec.map zC):=hn.o.2 v hmv;obtain ⟨b6,o6,hia6,cr6⟩:=qI.cm (g:=OV.cells) (λ_=>rfl) hn.o.1 hv rfl;have hZl:((n.ops.take m).flatMap λo=>xH o.abs).length≤n.ops.length*100:=zj m (λu hu=>Xi (v:=u.abs) (by have h1:u.abs.1≤(1099511627776:Nat):=(hov u hu).1.2;omega) (hov u hu).2.1);have hnx2:(n.ops.take (m+1)).flatMap (λo=>xH o.abs)=(n.ops.take m).flatMap (λo=>xH o.abs)++xH v.abs:=Vk hv;generalize ((n.ops.take m).flatMap λo=>xH o.abs)=Z at hZl hnx2 ⊢;have hn1:=qr (z:=v.id) zo;rw[hia6];refine Q.r ?_;(repeat (intro b1;refine Q.r ?_));refine Q.dgo [true] [3,4,7,8] [] [0,1,2,5,6,99999,0,0,0] ?_;refine Q.rd3 ?_;refine D.two 3 7 [99999,0,0] [3,4,8] zk rfl rfl rfl rfl zk zk ?_ ?_
      ·refine GQ.a ?_
       refine Q.al (λbn1=> ?_)
       repeat (first|(refine GQ.y ?_;refine Q.y ?_)|refine Q.go ?_|(refine GQ.g ?_;refine Q.gq ?_)|(refine GQ.s ?_;refine Q.st ?_))
       refine Q.rd3 ?_;refine D.two 4 7 [7,8] [4,8] zk rfl rfl rfl rfl zk zk ?_ ?_
       ·refine S.c1 rfl (vz bw (H1++numI (n.ops.length:Int)++Z) (some ⟨bn1,0,none⟩) 1 [v.id] _ (qY.row1 rfl) (by intro z hz;rw[ji.1 hz];omega) (by simp only[jc,jC,j7];omega)) ?_
        rintro _ _ ⟨rfl,rfl⟩
        repeat (first|(refine GQ.y ?_;refine Q.y ?_)|refine Q.go ?_|(refine GQ.g ?_;refine Q.gq ?_)|(refine GQ.s ?_;refine Q.st ?_))
        refine Q.rd3 ?_;refine D.e rfl rfl rfl ?_;refine GQ.a ?_;refine Q.al (λbv=> ?_)
        repeat (first|(refine GQ.y ?_;refine Q.y ?_)|refine Q.go ?_|(refine GQ.g ?_;refine Q.gq ?_)|(refine GQ.s ?_;refine Q.st ?_))
        refine Q.rd3 ?_;refine D.e rfl rfl rfl ?_;refine S.c1 rfl (yW bw (H1++numI (n.ops.length:Int)++Z++[v.id].flatMap numI) bv 0 v.a v.c 1 v.vec _ (vi.row) (hrv.rd) (by simp only[jc,jK,j3,j7];omega)) ?_;rintro _ _ ⟨rfl,rfl⟩
        repeat (first|(refine GQ.y ?_;refine Q.y ?_)|refine Q.go ?_|(refine GQ.g ?_;refine Q.gq ?_)|(refine GQ.s ?_;refine Q.st ?_))
        refine Q.rd3 ?_;refine Q.rd ?_;refine Q.r ?_;refine ⟨m+1,⟨rfl,rfl,rfl,by first|rfl|(rw[←hia6];rfl),rfl,rfl,trivial⟩,?_,by omega,by omega⟩;rw[hnx2,show H1++numI (n.ops.length:Int)++(Z++xH v.abs)=H1++numI (n.ops.length:Int)++Z++[v.id].flatMap numI++wh v.vec by simp[xH]];exact eG
       ·refine GQ.a ?_
        refine Q.al (λbv=> ?_)
        repeat (first|(refine GQ.y ?_;refine Q.y ?_)|refine Q.go ?_|(refine GQ.g ?_;refine Q.gq ?_)|(refine GQ.s ?_;refine Q.st ?_))
        refine Q.rd3 ?_;refine D.e rfl rfl rfl ?_;refine S.c1 rfl (vz bw (H1++numI (n.ops.length:Int)++Z) (some ⟨bn1,0,none⟩) 1 [v.id] _ (qY.row1 rfl) (by intro z hz;rw[ji.1 hz];omega) (by simp only[jc,jC,j7];omega)) ?_;rintro _ _ ⟨rfl,rfl⟩
        repeat (first|(refine GQ.y ?_;refine Q.y ?_)|refine Q.go ?_|(refine GQ.g ?_;refine Q.gq ?_)|(refine GQ.s ?_;refine Q.st ?_))
        refine Q.rd3 ?_;refine D.e rfl rfl rfl ?_;refine S.c1 rfl (yW bw (H1++numI (n.ops.length:Int)++Z++[v.id].flatMap numI) bv 0 v.a v.c 1 v.vec _ (vi.row) (hrv.rd) (by simp only[jc,jK,j3,j7];omega)) ?_;rintro _ _ ⟨rfl,rfl⟩
        repeat (first|(refine GQ.y ?_;refine Q.y ?_)|refine Q.go ?_|(refine GQ.g ?_;refine Q.gq ?_)|(refine GQ.s ?_;refine Q.st ?_))
        refine Q.rd3 ?_;refine Q.rd ?_;refine Q.r ?_;refine ⟨m+1,⟨rfl,rfl,rfl,by first|rfl|(rw[←hia6];rfl),rfl,rfl,trivial⟩,?_,by omega,by omega⟩;rw[hnx2,show H1++numI (n.ops.length:Int)++(Z++xH v.abs)=H1++numI (n.ops.length:Int)++Z++[v.id].flatMap numI++wh v.vec by simp[xH]];exact eG
      ·refine GQ.a ?_
       refine Q.al (λbv=> ?_)
       repeat (first|(refine GQ.y ?_;refine Q.y ?_)|refine Q.go ?_|(refine GQ.g ?_;refine Q.gq ?_)|(refine GQ.s ?_;refine Q.st ?_))
       refine Q.rd3 ?_;refine D.e rfl rfl rfl ?_;refine GQ.a ?_;refine Q.al (λbn1=> ?_)
       repeat (first|(refine GQ.y ?_;refine Q.y ?_)|refine Q.go ?_|(refine GQ.g ?_;refine Q.gq ?_)|(refine GQ.s ?_;refine Q.st ?_))
       refine Q.rd3 ?_;refine D.e rfl rfl rfl ?_;refine S.c1 rfl (vz bw (H1++numI (n.ops.length:Int)++Z) (some ⟨bn1,0,none⟩) 1 [v.id] _ (qY.row1 rfl) (by intro z hz;rw[ji.1 hz];omega) (by simp only[jc,jC,j7];omega)) ?_;rintro _ _ ⟨rfl,rfl⟩
       repeat (first|(refine GQ.y ?_;refine Q.y ?_)|refine Q.go ?_|(refine GQ.g ?_;refine Q.gq ?_)|(refine GQ.s ?_;refine Q.st ?_))
       refine Q.rd3 ?_;refine D.e rfl rfl rfl ?_;refine S.c1 rfl (yW bw (H1++numI (n.ops.length:Int)++Z++[v.id].flatMap numI) bv 0 v.a v.c 1 v.vec _ (vi.row) (hrv.rd) (by simp only[jc,jK,j3,j7];omega)) ?_;rintro _ _ ⟨rfl,rfl⟩
       repeat (first|(refine GQ.y ?_;refine Q.y ?_)|refine Q.go ?_|(refine GQ.g ?_;refine Q.gq ?_)|(refine GQ.s ?_;refine Q.st ?_))
       refine Q.rd3 ?_;refine Q.rd ?_;refine Q.r ?_;refine ⟨m+1,⟨rfl,rfl,rfl,by first|rfl|(rw[←hia6];rfl),rfl,rfl,trivial⟩,?_,by omega,by omega⟩;rw[hnx2,show H1++numI (n.ops.length:Int)++(Z++xH v.abs)=H1++numI (n.ops.length:Int)++Z++[v.id].flatMap numI++wh v.vec by simp[xH]];exact eG
     ·have hme:m=n.ops.length:=by omega
      subst hme;rw[jI];refine Q.r ?_;refine ⟨(),zt,?_,trivial⟩;rw[show H1++vr true (wL xH) (n.ops.map OV.abs)=H1++numI (n.ops.length:Int)++n.ops.flatMap λo=>xH o.abs by simp[vr,wL,List.flatMap_map]];exact eG
   ·intro _ _
    have hH3:(H1++vr (qC k 12) (wL xH) (n.ops.map OV.abs)).length≤1850:=by
     rw[jc];unfold vr
     split
     ·next h=>
      rw[jb h] at hbo;have h1:=qr (z:=((n.ops.map OV.abs).length:Int)) zo;have h2:((n.ops.map OV.abs).flatMap xH).length≤(n.ops.map OV.abs).length*100:=yO λx hx=>Xi (by have h1:x.1≤(1099511627776:Nat):=(hbo.2 x hx).1.2;omega) (hbo.2 x hx).2.1
      unfold wL;rw[jc];omega
     ·rw[j7];omega
    generalize hHH2:H1++vr (qC k 12) (wL xH) (n.ops.map OV.abs)=H2 at hH3 ⊢;have hbv:if qC k 13=true then vOK n.vec else n.vec=[]:=hb.2.2.2.1
    refine wE ?_;refine vo (σ:=Unit) (λ_=> [(1,.pointer (some ⟨bn,0,none⟩)),(4,.pointer (some ⟨bw,0,none⟩)),(5,.func (.func 153) #[] #[.pointer (some ⟨bn,0,none⟩)])]) (λ_=>wH bw (H2++vr (qC k 13) wh n.vec)::yC bn n::qp M::L0) (λ_=>True) ?_ ?_
    ·refine Q.r ?_
     refine qo (L':=yC bn n::qp M::wH bw H2::L0) eG ?_;refine S.crF rfl rfl (Kv bn n k 13 8192 M _ hT hk hk23 zo rfl) ?_;rintro _ _ ⟨rfl,rfl⟩
     cases hbk:qC k 13 with
     |false=>
      rw[show H2++vr false wh n.vec=H2 by simp[vr]];refine Q.r ?_;refine ⟨(),zt,?_,trivial⟩;exact eG
     |true=>
      rw[hbk,jb rfl] at hbv;have hv8:n.vec.length≤8:=hbv.1;have hrv:qI M n.va n.vec.length 1 (n.vec.map zC):=hn.v;refine Q.r ?_;(repeat (intro b1;refine Q.r ?_));refine S.c1 rfl (yW bw H2 b1 0 n.va n.vc 1 n.vec _ (vi.row) (hrv.rd) zo) ?_;rintro _ _ ⟨rfl,rfl⟩;refine Q.r ?_;refine ⟨(),zt,?_,trivial⟩;rw[show H2++vr true wh n.vec=H2++wh n.vec by simp[vr]];exact eG
    ·intro _ _
     have hH4:(H2++vr (qC k 13) wh n.vec).length≤1950:=by
      rw[jc];unfold vr
      split
      ·next h=>
       rw[jb h] at hbv;have:=xj hbv;omega
      ·rw[j7];omega
     generalize hHH3:H2++vr (qC k 13) wh n.vec=H3 at hH4 ⊢;have hbh:if qC k 14=true then (n.hits.map HV.abs).length≤16∧∀h∈n.hits.map HV.abs,Qn h else n.hits.map HV.abs=[]:=hb.2.2.2.2
     refine wE ?_;refine vo (σ:=Unit) (λ_=> [(4,.pointer (some ⟨bw,0,none⟩))]) (λ_=>wH bw (H3++vr (qC k 14) (wL xU) (n.hits.map HV.abs))::yC bn n::qp M::L0) (λ_=>True) ?_ ?_
     ·refine Q.r ?_
      refine qo (L':=yC bn n::qp M::wH bw H3::L0) eG ?_;refine S.crF rfl rfl (Kv bn n k 14 16384 M _ hT hk hk23 zo rfl) ?_;rintro _ _ ⟨rfl,rfl⟩
      cases hbk:qC k 14 with
      |false=>
       rw[show H3++vr false (wL xU) (n.hits.map HV.abs)=H3 by simp[vr]];refine Q.r ?_;refine ⟨(),zt,?_,trivial⟩;exact eG
      |true=>
       rw[hbk,jb rfl] at hbh;have hlo:n.hits.length≤16:=by have:=hbh.1;rwa [jf] at this
       have hov:∀o∈n.hits,Qn o.abs:=λo ho=>hbh.2 _ (jM.2 ⟨o,ho,rfl⟩)
       clear hbh;have hhl:∀u∈n.hits,(xU u.abs).length≤110:=λu hu=>by
        have h0:=hov u hu;have h1:u.id≤(1099511627776:Nat):=h0.1.2;have h2:u.dist≤(18446744073709551615:Nat):=h0.2.1.2;have h3:=qr (z:=u.id) zo;have h4:=qr (z:=u.dist) zo;have h5:=xj h0.2.2
        show (numI u.id++(numI u.dist++wh u.vec)).length≤110
        have h5:(wh u.vec).length≤90:=h5;rw[jc,jc];omega
       refine Q.r ?_;refine S.y (Y.cvi rfl) ?_;rw[wrap_u64 zo zo];refine Q.r ?_;(repeat (intro b1;refine Q.r ?_));refine S.c1 rfl (vz bw H3 (some ⟨b1,0,none⟩) 1 [(n.hits.length:Int)] _ (qY.row1 rfl) (by intro z hz;rw[ji.1 hz];omega) (by simp only[jC,j7];omega)) ?_;rintro _ _ ⟨rfl,rfl⟩;rw[show H3++[(n.hits.length:Int)].flatMap numI=H3++numI (n.hits.length:Int) by simp];have hl1:=qr (z:=(n.hits.length:Int)) zo;refine Q.r ?_;refine ql (σ:=Nat) (λm=> [(4,.pointer (some ⟨bw,0,none⟩)),(131,.slice n.ha n.hits.length n.hc),(132,.int .i64 n.hits.length),(133,.int .i64 m)])
        (λm=>wH bw (H3++numI (n.hits.length:Int)++(n.hits.take m).flatMap λo=>xU o.abs)::yC bn n::qp M::L0) (λm=>m≤n.hits.length) (λm=>n.hits.length - m) 0 zt (by simp only[kB,j3,jG];exact eG) zo ?_
       intro m hm
       by_cases hmt:m<n.hits.length
       ·obtain ⟨v,hv⟩:=qx hmt
        have hmv:v∈n.hits:=jn hv;have hvv:=hov v hmv;have hv1:0≤v.id∧v.id≤(1099511627776:Nat):=hvv.1;have hv2:0≤v.dist∧v.dist≤(18446744073709551615:Nat):=hvv.2.1;have hv8:v.vec.length≤8:=hvv.2.2.1;have hrv:qI M v.a v.vec.length 1 (v.vec.map zC):=hn.hv v hmv;obtain ⟨b6,o6,hia6,cr6⟩:=qI.cm (g:=HV.cells) (λ_=>rfl) hn.h hv rfl;have hZl:((n.hits.take m).flatMap λo=>xU o.abs).length≤n.hits.length*110:=zj m hhl;have hnx2:(n.hits.take (m+1)).flatMap (λo=>xU o.abs)=(n.hits.take m).flatMap (λo=>xU o.abs)++xU v.abs:=Vk hv;generalize ((n.hits.take m).flatMap λo=>xU o.abs)=Z at hZl hnx2 ⊢;have hn1:=qr (z:=v.id) zo;have hn2:=qr (z:=v.dist) zo;rw[hia6];refine Q.r ?_;(repeat (intro b1;refine Q.r ?_));refine Q.dgo [true] [5,6,9,10] [] [0,1,2,3,4,7,8,99999,0,0,0] ?_;refine Q.rd3 ?_;refine D.two 5 9 [99999,0,0] [5,6,10] zk rfl rfl rfl rfl zk zk ?_ ?_
        ·refine GQ.a ?_
         refine Q.al (λbn1=> ?_)
         repeat (first|(refine GQ.y ?_;refine Q.y ?_)|refine Q.go ?_|(refine GQ.g ?_;refine Q.gq ?_)|(refine GQ.s ?_;refine Q.st ?_))
         refine Q.rd3 ?_;refine D.two 6 9 [9,10] [6,10] zk rfl rfl rfl rfl zk zk ?_ ?_
         ·refine S.c1 rfl (vz bw (H3++numI (n.hits.length:Int)++Z) (some ⟨bn1,0,none⟩) 2 [v.id,v.dist] _ (qY.row1 rfl) (by intro z hz;rcases (by simpa using hz:z=v.id∨z=v.dist) with rfl|rfl<;>omega) (by simp only[jc,jC,j7];omega)) ?_
          rintro _ _ ⟨rfl,rfl⟩
          repeat (first|(refine GQ.y ?_;refine Q.y ?_)|refine Q.go ?_|(refine GQ.g ?_;refine Q.gq ?_)|(refine GQ.s ?_;refine Q.st ?_))
          refine Q.rd3 ?_;refine D.e rfl rfl rfl ?_;refine GQ.a ?_;refine Q.al (λbv=> ?_)
          repeat (first|(refine GQ.y ?_;refine Q.y ?_)|refine Q.go ?_|(refine GQ.g ?_;refine Q.gq ?_)|(refine GQ.s ?_;refine Q.st ?_))
          refine Q.rd3 ?_;refine D.e rfl rfl rfl ?_;refine S.c1 rfl (yW bw (H3++numI (n.hits.length:Int)++Z++[v.id,v.dist].flatMap numI) bv 0 v.a v.c 1 v.vec _ (vi.row) (hrv.rd) (by simp only[jc,jK,j3,j7];omega)) ?_;rintro _ _ ⟨rfl,rfl⟩
          repeat (first|(refine GQ.y ?_;refine Q.y ?_)|refine Q.go ?_|(refine GQ.g ?_;refine Q.gq ?_)|(refine GQ.s ?_;refine Q.st ?_))
          refine Q.rd3 ?_;refine Q.rd ?_;refine Q.r ?_;refine ⟨m+1,⟨rfl,by first|rfl|(rw[←hia6];rfl),rfl,rfl,trivial⟩,?_,by omega,by omega⟩;rw[hnx2,show H3++numI (n.hits.length:Int)++(Z++xU v.abs)=H3++numI (n.hits.length:Int)++Z++[v.id,v.dist].flatMap numI++wh v.vec by simp[xU]];exact eG
         ·refine GQ.a ?_
          refine Q.al (λbv=> ?_)
          repeat (first|(refine GQ.y ?_;refine Q.y ?_)|refine Q.go ?_|(refine GQ.g ?_;refine Q.gq ?_)|(refine GQ.s ?_;refine Q.st ?_))
          refine Q.rd3 ?_;refine D.e rfl rfl rfl ?_;refine S.c1 rfl (vz bw (H3++numI (n.hits.length:Int)++Z) (some ⟨bn1,0,none⟩) 2 [v.id,v.dist] _ (qY.row1 rfl) (by intro z hz;rcases (by simpa using hz:z=v.id∨z=v.dist) with rfl|rfl<;>omega) (by simp only[jc,jC,j7];omega)) ?_;rintro _ _ ⟨rfl,rfl⟩
          repeat (first|(refine GQ.y ?_;refine Q.y ?_)|refine Q.go ?_|(refine GQ.g ?_;refine Q.gq ?_)|(refine GQ.s ?_;refine Q.st ?_))
          refine Q.rd3 ?_;refine D.e rfl rfl rfl ?_;refine S.c1 rfl (yW bw (H3++numI (n.hits.length:Int)++Z++[v.id,v.dist].flatMap numI) bv 0 v.a v.c 1 v.vec _ (vi.row) (hrv.rd) (by simp only[jc,jK,j3,j7];omega)) ?_;rintro _ _ ⟨rfl,rfl⟩
          repeat (first|(refine GQ.y ?_;refine Q.y ?_)|refine Q.go ?_|(refine GQ.g ?_;refine Q.gq ?_)|(refine GQ.s ?_;refine Q.st ?_))
          refine Q.rd3 ?_;refine Q.rd ?_;refine Q.r ?_;refine ⟨m+1,⟨rfl,by first|rfl|(rw[←hia6];rfl),rfl,rfl,trivial⟩,?_,by omega,by omega⟩;rw[hnx2,show H3++numI (n.hits.length:Int)++(Z++xU v.abs)=H3++numI (n.hits.length:Int)++Z++[v.id,v.dist].flatMap numI++wh v.vec by simp[xU]];exact eG
        ·refine GQ.a ?_
         refine Q.al (λbv=> ?_)
         repeat (first|(refine GQ.y ?_;refine Q.y ?_)|refine Q.go ?_|(refine GQ.g ?_;refine Q.gq ?_)|(refine GQ.s ?_;refine Q.st ?_))
         refine Q.rd3 ?_;refine D.e rfl rfl rfl ?_;refine GQ.a ?_;refine Q.al (λbn1=> ?_)
         repeat (first|(refine GQ.y ?_;refine Q.y ?_)|refine Q.go ?_|(refine GQ.g ?_;refine Q.gq ?_)|(refine GQ.s ?_;refine Q.st ?_))
         refine Q.rd3 ?_;refine D.e rfl rfl rfl ?_;refine S.c1 rfl (vz bw (H3++numI (n.hits.length:Int)++Z) (some ⟨bn1,0,none⟩) 2 [v.id,v.dist] _ (qY.row1 rfl) (by intro z hz;rcases (by simpa using hz:z=v.id∨z=v.dist) with rfl|rfl<;>omega) (by simp only[jc,jC,j7];omega)) ?_;rintro _ _ ⟨rfl,rfl⟩
         repeat (first|(refine GQ.y ?_;refine Q.y ?_)|refine Q.go ?_|(refine GQ.g ?_;refine Q.gq ?_)|(refine GQ.s ?_;refine Q.st ?_))
         refine Q.rd3 ?_;refine D.e rfl rfl rfl ?_;refine S.c1 rfl (yW bw (H3++numI (n.hits.length:Int)++Z++[v.id,v.dist].flatMap numI) bv 0 v.a v.c 1 v.vec _ (vi.row) (hrv.rd) (by simp only[jc,jK,j3,j7];omega)) ?_;rintro _ _ ⟨rfl,rfl⟩
         repeat (first|(refine GQ.y ?_;refine Q.y ?_)|refine Q.go ?_|(refine GQ.g ?_;refine Q.gq ?_)|(refine GQ.s ?_;refine Q.st ?_))
         refine Q.rd3 ?_;refine Q.rd ?_;refine Q.r ?_;refine ⟨m+1,⟨rfl,by first|rfl|(rw[←hia6];rfl),rfl,rfl,trivial⟩,?_,by omega,by omega⟩;rw[hnx2,show H3++numI (n.hits.length:Int)++(Z++xU v.abs)=H3++numI (n.hits.length:Int)++Z++[v.id,v.dist].flatMap numI++wh v.vec by simp[xU]];exact eG
       ·have hme:m=n.hits.length:=by omega
        subst hme;rw[jI];refine Q.r ?_;refine ⟨(),zt,?_,trivial⟩;rw[show H3++vr true (wL xU) (n.hits.map HV.abs)=H3++numI (n.hits.length:Int)++n.hits.flatMap λo=>xU o.abs by simp[vr,wL,List.flatMap_map]];exact eG
     ·intro _ _
      have hE:H3++vr (qC k 14) (wL xU) (n.hits.map HV.abs)=yi n.abs:=by
       rw[←hHH3,←hHH2,←hHH,←hH,←hXe,hxs];unfold yi jDg;rw[hkn];simp only[ju];rfl
      rw[hE];have hlen:=Jl hO hu;refine Q.r ?_;refine S.c1 (A:=wH bw (yi n.abs)) rfl (W7 bw (yi n.abs) _ zo) ?_;rintro _ _ ⟨a9,c9,rfl,rfl⟩;refine xk a9 (λM1 hl1 hs1 hc1=> ?_);refine Q.r ?_;(repeat (intro b1;refine Q.r ?_));have hcv:qX [⟨a9,c9,yi n.abs⟩]=yi n.abs:=by simp
      have hso:wq M1 ⟨a9,c9,yi n.abs⟩:=hs1;refine S.cr rfl (Jq (some ⟨b1,0,none⟩) 1 [⟨a9,c9,yi n.abs⟩] M1 _ _ (qY.row1y rfl) (λu hu=>by rw[ji.1 hu];exact hso.rd) (hB.mono hl1) (jz _) (by simp) (by rw[hcv];omega)) ?_;rintro _ _ ⟨u,M2,rfl,hub,huo2,huc,hl2,rfl⟩;rw[hcv] at hub ⊢;rw[ja zo] at hub ⊢;refine Q.r ?_;refine N.u rfl rfl (L':=qp M2::L0) eG ⟨u,M2,by rw[hR];rfl,by rw[hR,hub];rfl,huo2,huc,hl1.trans hl2,rfl⟩
def mT (p:List UInt8):Int:=if JD p≠0 then JD p else if ZM p=[] then 0 else 4
def jIs (M:OM)(L0:HL)(bs:List UInt8)(r:Value)(L':HL):Prop:=∃v:YB,∃M',r=.tuple #[v.val,.int .i64 (mT bs)]∧v.bs=(if mT bs=0 then V8 bs else [])∧wq M' v∧v.bs.length≤v.c∧qV M M'∧L'=qp M'::L0
theorem pK (a:OA)(c:Nat)(bs:List UInt8)(M:OM)(L0:HL)(h:qI M a bs.length 1 (bs.map B))(hc:bs.length≤c)(hT:xL M)(hb:bs.length≤100000000000):
  qh kY 83 [.slice a bs.length c] (qp M::L0) (jIs M L0 bs):=by
 refine qg Tryz.func83 rfl rfl rfl ?_;refine Q.r ?_;refine S.cr rfl (VP a c bs M _ h hT hc hb) ?_;rintro _ _ ⟨v,w,M1,rfl,hv,hw,hvo,hwo,hvc,hwc,hl1,rfl⟩
 by_cases h0:JD bs=0
 case neg=>
  have ho:mT bs=JD bs:=jb h0;have hne:decide (¬JD bs=0)=true:=jo h0;generalize hE:JD bs=E at*;refine Q.r ?_;refine N.u rfl rfl (L':=qp M1::L0) eG ⟨⟨none,0,[]⟩,M1,by rw[ho];rfl,by rw[ho,ja h0],qI.nil,jz _,hl1,rfl⟩
 rw[jb h0] at hv hw;rw[h0]
 by_cases hr:ZM bs=[]
 ·have ho:mT bs=0:=by unfold mT;rw[ja (by simp[h0]),jb hr]
  rw[hr] at hw;have hw0:w.bs.length=0:=by rw[hw];rfl
  refine Q.r ?_;refine N.u rfl rfl (L':=qp M1::L0) eG ⟨v,M1,by rw[ho],by rw[ho,jb rfl,hv],hvo,hvc,hl1,rfl⟩
 ·have ho:mT bs=4:=by unfold mT;rw[ja (by simp[h0]),ja hr]
  have hw0:0<w.bs.length:=by rw[hw];exact kA.2 hr
  refine Q.r ?_;refine N.u rfl rfl (L':=qp M1::L0) eG ⟨⟨none,0,[]⟩,M1,by rw[ho];rfl,by rw[ho,ja zd],qI.nil,jz _,hl1,rfl⟩
theorem jEA {k:Nat}(h:23≤k):fldN k=0:=by
 unfold fldN
 split<;>first|rfl|omega
theorem sm (k i:Nat)(hi:i<15):decide (¬IntKind.i64.wrap (((BitVec.ofInt IntKind.i64.bits ((fldN k:Nat):Int))&&&(BitVec.ofInt IntKind.i64.bits ((2^i:Nat):Int))).toNat:Int)=0)=qC k i:=by
 by_cases hk:k<23
 ·exact sN k hk i hi
 ·unfold qC
  rw[jEA zo];have:∀i,i<15→decide (¬IntKind.i64.wrap (((BitVec.ofInt IntKind.i64.bits ((0:Nat):Int))&&&(BitVec.ofInt IntKind.i64.bits ((2^i:Nat):Int))).toNat:Int)=0)=(0:Nat).testBit i:=by decide+kernel
  exact this i hi
abbrev Jk (b k:Nat):HP:=pt b (cl [.int .i64 (fldN k:Nat)] 3)
theorem wi (b1 b4 r k i most:Nat)(f:Int)(a:OA)(c:Nat)(s:RS)(M:OM)(L:HL)[hM:xq M L](h:RK M a c s)(hi:i<15)(hf:f=((2^i:Nat):Int)):
  qh kY 160 [.int .i64 f,.int .u64 most,.pointer (some ⟨b4,0,none⟩),.pointer (some ⟨b1,0,none⟩)] (rdS r a c s::Jk b4 k::Kx b1 r::L)
   (λv L'=>v=.int .u64 (xS (qC k i) 0 (xz most) s).1∧∃a' c',RK M a' c' (xS (qC k i) 0 (xz most) s).2∧L'=rdS r a' c' (xS (qC k i) 0 (xz most) s).2::Jk b4 k::Kx b1 r::L):=by
 refine qg Tryz.func160 rfl rfl rfl ?_;have hb:=sm k i hi;rw[←hf] at hb;refine Q.r ?_;refine S.y (Y.and rfl rfl) ?_
 cases hk:qC k i with
 |false=>
  rw[hk] at hb;have h0:IntKind.i64.wrap (((BitVec.ofInt IntKind.i64.bits ((fldN k:Nat):Int))&&&(BitVec.ofInt IntKind.i64.bits f)).toNat:Int)=0:=kv.1 (of_decide_eq_false hb);rw[h0];refine Q.r ?_;exact N.t rfl (kZ _) ⟨rfl,a,c,h,rfl⟩
 |true=>
  rw[hk] at hb;have h0:=kV hb;generalize IntKind.i64.wrap (((BitVec.ofInt IntKind.i64.bits ((fldN k:Nat):Int))&&&(BitVec.ofInt IntKind.i64.bits f)).toNat:Int)=z at h0;refine Q.r ?_;refine S.c1 (A:=rdS r a c s) rfl (wu r a c s most M _ h) ?_;rintro _ _ ⟨rfl,a2,c2,hk1,rfl⟩;refine Q.r ?_;exact N.t rfl (kZ _) ⟨rfl,a2,c2,hk1,rfl⟩
end Go.Proofs.YtlnfjhiphlfkjaaGreatDoor
namespace Go.SX
open Go
section
variable {P : Program} {n : Nat} {ops rest : List Oper} {Q : vm} {f : vL} {A L : HL} {d : Tmp} {ty : TypeId} {pos : String} {af : Array Edge}
theorem Y.neg {x:Operand}{t:TypeId}{k:IntKind}{a:Int}(hx:ev f x=some (.int k a)):qk P n ops ⟨some d,.unOp .neg t x,ty,pos,af,none⟩ f A (.int k (k.wrap (-a))):=Y.of (λ_ w s=>by simp[execOp,s.eval hx,Op.unary,Op.intArith])
end
end Go.SX
namespace Go.Proofs.YtlnfjhiphlfkjaaGreatDoor
open Go Go.SX
attribute [local irreducible] swp qq qL qJ vZ qh St qi qk vu qH
def vvI (u:Int):Int:=IntKind.i32.wrap (((BitVec.ofInt IntKind.i32.bits (IntKind.i32.wrap ((IntKind.u32.wrap u).fdiv (2^1))))^^^(BitVec.ofInt IntKind.i32.bits (IntKind.i32.wrap (-(IntKind.i32.wrap (IntKind.u64.wrap (((BitVec.ofInt IntKind.u64.bits u)&&&(BitVec.ofInt IntKind.u64.bits 1)).toNat:Int))))))).toNat:Int)
theorem jEX {u:Nat}(h:u≤4294967295):IntKind.u64.wrap (((BitVec.ofInt IntKind.u64.bits (u:Int))&&&(BitVec.ofInt IntKind.u64.bits 1)).toNat:Int)=((u % 2:Nat):Int):=by
 have e:((BitVec.ofInt IntKind.u64.bits (u:Int))&&&(BitVec.ofInt IntKind.u64.bits 1)).toNat=u % 2:=by
  show ((BitVec.ofInt 64 (u:Int))&&&(BitVec.ofInt 64 1)).toNat=u % 2
  rw[BitVec.toNat_and,show (BitVec.ofInt 64 (u:Int)).toNat=u by simp;omega,show (BitVec.ofInt 64 1).toNat=1 by decide,Nat.and_one_is_mod]
 rw[e,wrap_u64 zo zo]
theorem jG4 {u:Nat}(h:u≤4294967295):vvI u=XZ u:=by
 unfold vvI;have e1:IntKind.i32.wrap ((IntKind.u32.wrap (u:Int)).fdiv (2^1))=((u / 2:Nat):Int):=by
  rw[jBk zo zo,Int.fdiv_eq_ediv_of_nonneg _ zd,zW zo zo];omega
 have hx:(0:Int)≤((u / 2:Nat):Int)∧((u / 2:Nat):Int)<4294967296:=by omega
 rw[e1,jEX h];unfold XZ
 by_cases h2:u % 2=1
 ·rw[jb h2,h2,zW (a:=((1:Nat):Int)) zd zd,zW (a:= -((1:Nat):Int)) zd zd]
  have e2:((BitVec.ofInt IntKind.i32.bits ((u / 2:Nat):Int))^^^(BitVec.ofInt IntKind.i32.bits (-((1:Nat):Int)))).toNat=4294967295 - u / 2:=by
   show ((BitVec.ofInt 32 ((u / 2:Nat):Int))^^^(BitVec.ofInt 32 (-1))).toNat=_
   rw[show BitVec.ofInt 32 (-1)=BitVec.allOnes 32 by decide,BitVec.xor_allOnes,BitVec.toNat_not,X5 hx];omega
  rw[e2];have e3:IntKind.i32.wrap ((4294967295 - u / 2:Nat):Int)=((4294967295 - u / 2:Nat):Int) - 4294967296:=by
   have:IntKind.i32.wrap ((4294967295 - u / 2:Nat):Int)=if 2147483648≤((4294967295 - u / 2:Nat):Int) % 4294967296 then ((4294967295 - u / 2:Nat):Int) % 4294967296 - 4294967296 else ((4294967295 - u / 2:Nat):Int) % 4294967296:=by simp[IntKind.wrap,IntKind.bits,IntKind.signed]
   rw[this,jb zo];omega
  rw[e3];omega
 ·have h0:u % 2=0:=by omega
  rw[ja h2,h0,zW (a:=((0:Nat):Int)) zd zd,zW (a:= -((0:Nat):Int)) zd zd];have e2:((BitVec.ofInt IntKind.i32.bits ((u / 2:Nat):Int))^^^(BitVec.ofInt IntKind.i32.bits (-((0:Nat):Int)))).toNat=u / 2:=by
   show ((BitVec.ofInt 32 ((u / 2:Nat):Int))^^^(BitVec.ofInt 32 0)).toNat=_
   rw[show BitVec.ofInt 32 0=0#32 by decide,BitVec.xor_zero,X5 hx];omega
  rw[e2,zW zo zo]
theorem jBr {s:RS}{q:Int}(hd:s.bad=0)(h1:(qB s.bs 8).2.2=0)(h2:(Xz (qB s.bs 8).1 (s.bs.drop (qB s.bs 8).2.1) []).2.2=q)(hq:q≠0):xY 8 s=([],{s with bad:=q}):=by
 unfold xY;rw[ja zo,ja zo];dsimp only;rw[h2,jb hq]
set_option maxRecDepth 100000 in
theorem WB (r:Nat)(a:OA)(c:Nat)(s:RS)(M:OM)(L:HL)[hM:xq M L](h:RK M a c s):
  qh kY 161 [.pointer (some ⟨r,0,none⟩),.int .i64 8] (rdS r a c s::L)
   (λv L'=>∃va vc a' c',v=.slice va (xY 8 s).1.length vc∧RK M a' c' (xY 8 s).2∧L'=slO 21 1 va (xY 8 s).1.length vc ((xY 8 s).1.map zC)::rdS r a' c' (xY 8 s).2::L):=by
 refine qg Tryz.func161 rfl rfl rfl ?_;refine Q.r ?_;refine S.cr rfl (ce r a s.bs.length c s.bad L) ?_;rintro _ _ ⟨rfl,rfl⟩
 by_cases hd:s.bad=0
 ·refine Q.r ?_
  refine S.y (Y.cvi rfl) ?_;rw[show IntKind.u64.wrap (max 8 0)=((8:Nat):Int) by decide];refine S.cr rfl (Ww a c s.bs 8 (rdS r a c s::L) (h.sl.rd (hm:=xq.there)) (by have:=h.b;omega)) ?_;rintro _ _ ⟨rfl,rfl⟩;have hsz:=yt s.bs 8
  by_cases h1:(qB s.bs 8).2.2=0
  ·have hn8:=(yX h1).2
   have hgo:∀q,(Xz (qB s.bs 8).1 (s.bs.drop (qB s.bs 8).2.1) []).2.2=q→q≠0→xY 8 s=([],{s with bad:=q}):=λq h2 hq=>jBr hd h1 h2 hq
   have hok:∀v b,Xz (qB s.bs 8).1 (s.bs.drop (qB s.bs 8).2.1) []=(v,b,0)→xY 8 s=(v,⟨b,0,s.good⟩):=λv b h2=>by
    unfold xY;rw[ja zo,ja zo];dsimp only;rw[h2,ja (by simp)]
   have hs0:=h.sl.fromA (l:=(qB s.bs 8).2.1) hsz h.c;rw[jX,←List.map_drop] at hs0;unfold Vg;rw[h1,ja zd];generalize (qB s.bs 8).1=n0 at*;generalize (qB s.bs 8).2.1=z0 at*;obtain ⟨b0,hb0⟩:∃b0,b0=s.bs.drop z0:=⟨_,rfl⟩;have hb0l:b0.length=s.bs.length - z0:=by rw[hb0,jE]
   rw[←hb0] at hgo hok hs0;rw[←hb0l] at hs0 ⊢;have hc0:b0.length≤c - z0:=by have:=h.c;omega
   have hbl:b0.length≤10000000:=by have:=h.b;omega
   refine Q.r ?_;refine qw (σ:=Int×List Int×List UInt8×OA×Nat×OA×Nat) (λw=> [(0,.pointer (some ⟨r,0,none⟩)),(6,.slice w.2.2.2.1 w.2.2.1.length w.2.2.2.2.1),(7,.int .i64 w.1),(8,.slice w.2.2.2.2.2.1 w.2.1.length w.2.2.2.2.2.2)])
    (λw=>slO 21 1 w.2.2.2.2.2.1 w.2.1.length w.2.2.2.2.2.2 (w.2.1.map zC)::rdS r a c s::L)
    (λw=>(w.1=0∧qI M w.2.2.2.1 w.2.2.1.length 1 (w.2.2.1.map B)∧w.2.2.1.length≤w.2.2.2.2.1∧w.2.2.1.length≤10000000∧Xz n0 b0 []=(w.2.1,w.2.2.1,0))∨(w.1≠0∧(Xz n0 b0 []).2.2=w.1)) ?_ ?_
   ·refine ql (σ:=Nat×Int×List Int×List UInt8×OA×Nat×OA×Nat) (λw=> [(0,.pointer (some ⟨r,0,none⟩)),(5,.int .u64 n0),(6,.slice w.2.2.2.2.1 w.2.2.2.1.length w.2.2.2.2.2.1),(7,.int .i64 w.2.1),(8,.slice w.2.2.2.2.2.2.1 w.2.2.1.length w.2.2.2.2.2.2.2),(9,.int .u64 w.1)])
     (λw=>slO 21 1 w.2.2.2.2.2.2.1 w.2.2.1.length w.2.2.2.2.2.2.2 (w.2.2.1.map zC)::rdS r a c s::L)
     (λw=>w.1≤n0∧w.2.2.1.length≤10∧((w.2.1=0∧w.2.2.1.length=w.1∧qI M w.2.2.2.2.1 w.2.2.2.1.length 1 (w.2.2.2.1.map B)∧w.2.2.2.1.length≤w.2.2.2.2.2.1∧w.2.2.2.1.length≤10000000∧Xz (n0 - w.1) w.2.2.2.1 w.2.2.1=Xz n0 b0 [])∨(w.2.1≠0∧(Xz n0 b0 []).2.2=w.2.1)))
     (λw=>n0 - w.1) (0,0,[],b0,Q4 a c z0 1,c - z0,none,0) zt eG ⟨jw _,jw _,.inl ⟨rfl,rfl,hs0,hc0,hbl,rfl⟩⟩ ?_
    rintro ⟨i,e,acc,bs',a',c',oa,oc⟩ ⟨hi,hal,hcase⟩;dsimp only at hi hal hcase ⊢
    rcases hcase with ⟨rfl,hai,hs',hc',hb',hv⟩|⟨he,hv⟩
    ·by_cases hlt:i<n0
     ·have hz:=yt bs' 18446744073709551615
      have hT:=Ww a' c' bs' 18446744073709551615 (slO 21 1 oa acc.length oc (acc.map zC)::rdS r a c s::L) (hs'.rd (hm:=xq.there (h:=xq.there))) zo;rw[show n0 - i=(n0 - (i+1))+1 by omega,J5] at hv;have hs2:=hs'.fromA (l:=(qB bs' 18446744073709551615).2.1) hz hc';rw[jX,←List.map_drop] at hs2;refine Q.r ?_;refine S.cr rfl hT ?_;rintro _ _ ⟨rfl,rfl⟩;clear hT;unfold Vg;generalize (qB bs' 18446744073709551615).1=u at*;generalize (qB bs' 18446744073709551615).2.1=z at*;generalize (qB bs' 18446744073709551615).2.2=q at*;have hdl:(bs'.drop z).length=bs'.length - z:=jE
      by_cases h2:q=0
      ·subst h2
       rw[ja zo] at hv;rw[ja zo,←hdl];rw[←hdl] at hs2
       by_cases h3:4294967295<u
       ·rw[jb h3] at hv
        refine Q.r ?_;refine S.y (Y.cvi rfl) ?_;refine S.y (Y.shrI (b:=1) rfl rfl zd) ?_;refine S.y (Y.cvi rfl) ?_;refine Q.r ?_;refine S.y (Y.and rfl rfl) ?_;refine S.y (Y.cvi rfl) ?_;refine S.y (Y.neg rfl) ?_;refine S.y (jDx (v':=zC (vvI (u:Int))) (Y.xor rfl rfl) rfl) ?_;refine Q.r ?_;(repeat (intro b1;refine Q.r ?_));refine S.app rfl rfl (vG.sl vi.row zr zr) zr zo zo (λoa2 oc2=> ?_);refine Q.r ?_;refine S.y (Y.add rfl rfl) ?_;rw[show IntKind.u64.wrap ((i:Int)+1)=(i:Int)+1 from wrap_u64 zo zo];refine Q.r ?_;refine ⟨(i+1,4,acc++[vvI (u:Int)],bs'.drop z,Q4 a' c' z 1,c' - z,oa2,oc2),⟨rfl,rfl,rfl,rfl,jj some (by simp[jU]),jj some (by simp[jU]),trivial⟩,?_,⟨hlt,by dsimp only;rw[qG];omega,(.inr ⟨show (4:Int)≠0 by decide,by rw[←hv]⟩)⟩,jr n0 i hlt⟩;dsimp only;rw[qG,jq,jL,kC];exact eG
       ·rw[ja h3,←jG4 zo] at hv
        refine Q.r ?_;refine S.y (Y.cvi rfl) ?_;refine S.y (Y.shrI (b:=1) rfl rfl zd) ?_;refine S.y (Y.cvi rfl) ?_;refine Q.r ?_;refine S.y (Y.and rfl rfl) ?_;refine S.y (Y.cvi rfl) ?_;refine S.y (Y.neg rfl) ?_;refine S.y (jDx (v':=zC (vvI (u:Int))) (Y.xor rfl rfl) rfl) ?_;refine Q.r ?_;(repeat (intro b1;refine Q.r ?_));refine S.app rfl rfl (vG.sl vi.row zr zr) zr zo zo (λoa2 oc2=> ?_);refine Q.r ?_;refine S.y (Y.add rfl rfl) ?_;rw[show IntKind.u64.wrap ((i:Int)+1)=(i:Int)+1 from wrap_u64 zo zo];refine Q.r ?_;refine ⟨(i+1,0,acc++[vvI (u:Int)],bs'.drop z,Q4 a' c' z 1,c' - z,oa2,oc2),⟨rfl,rfl,rfl,rfl,jj some (by simp[jU]),jj some (by simp[jU]),trivial⟩,?_,⟨hlt,by dsimp only;rw[qG];omega,(.inl ⟨rfl,by dsimp only;rw[qG,hai],hs2,by dsimp only;omega,by dsimp only;omega,hv⟩)⟩,jr n0 i hlt⟩;dsimp only;rw[qG,jq,jL,kC];exact eG
      ·rw[jb h2] at hv
       rw[jb h2];refine Q.r ?_;refine S.y (Y.cvi rfl) ?_;refine S.y (Y.shrI (b:=1) rfl rfl zd) ?_;refine S.y (Y.cvi rfl) ?_;refine Q.r ?_;refine S.y (Y.and rfl rfl) ?_;refine S.y (Y.cvi rfl) ?_;refine S.y (Y.neg rfl) ?_;refine S.y (jDx (v':=zC (vvI (u:Int))) (Y.xor rfl rfl) rfl) ?_;refine Q.r ?_;(repeat (intro b1;refine Q.r ?_));refine S.app rfl rfl (vG.sl vi.row zr zr) zr zo zo (λoa2 oc2=> ?_);refine Q.r ?_;refine S.y (Y.add rfl rfl) ?_;rw[show IntKind.u64.wrap ((i:Int)+1)=(i:Int)+1 from wrap_u64 zo zo];refine Q.r ?_;refine ⟨(i+1,q,acc++[vvI (u:Int)],[],none,0,oa2,oc2),⟨rfl,rfl,rfl,rfl,jj some (by simp[jU]),jj some (by simp[jU]),trivial⟩,?_,⟨hlt,by dsimp only;rw[qG];omega,(.inr ⟨h2,by rw[←hv]⟩)⟩,jr n0 i hlt⟩;dsimp only;rw[qG,jq,jL,kC];exact eG
     ·have hin:i=n0:=by omega
      subst hin;rw[Nat.sub_self] at hv;refine Q.r ?_;exact ⟨(0,acc,bs',a',c',oa,oc),zt,kZ _,.inl ⟨rfl,hs',hc',hb',hv.symm⟩⟩
    ·refine Q.r ?_
     exact ⟨(e,acc,bs',a',c',oa,oc),zt,kZ _,.inr ⟨he,hv⟩⟩
   rintro ⟨e,acc,bs',a',c',oa,oc⟩ hcase;dsimp only at hcase ⊢
   rcases hcase with ⟨rfl,hs',hc',hb',hv⟩|⟨he,hv⟩
   ·rw[hok _ _ hv]
    refine Q.r ?_;refine S.c1 (A:=rdS r a c s) rfl (z7 r a a' s.bs.length c bs'.length c' s.bad 0 _) ?_;rintro _ _ ⟨rfl,rfl⟩;rw[jb rfl,hd];refine Q.r ?_;refine N.t rfl ?_ ⟨oa,oc,a',c',rfl,⟨hs',hc',hb'⟩,rfl⟩;exact eG
   ·rw[hgo _ hv he]
    refine Q.r ?_;refine S.c1 (A:=rdS r a c s) rfl (z7 r a a' s.bs.length c bs'.length c' s.bad e _) ?_;rintro _ _ ⟨rfl,rfl⟩;rw[ja he,hd,jb rfl];refine Q.r ?_;refine N.t rfl ?_ ⟨none,0,a,c,rfl,⟨h.sl,h.c,h.b⟩,rfl⟩;exact eG
  ·have e1:xY 8 s=([],{s with bad:=(qB s.bs 8).2.2}):=by
    unfold xY;rw[ja zo,jb h1]
   rw[e1];unfold Vg;rw[jb h1];generalize (qB s.bs 8).2.2=e at*;refine Q.r ?_;refine qw (σ:=Unit) (λ_=> [(0,.pointer (some ⟨r,0,none⟩)),(6,.slice none 0 0),(7,.int .i64 e),(8,.slice none 0 0)]) (λ_=>rdS r a c s::L) (λ_=>True) ?_ ?_
   ·refine ql (σ:=Unit) (λ_=> [(0,.pointer (some ⟨r,0,none⟩)),(6,.slice none 0 0),(7,.int .i64 e),(8,.slice none 0 0)]) (λ_=>rdS r a c s::L) (λ_=>True) (λ_=>0) () zt (kZ _) trivial ?_
    rintro _ _;refine Q.r ?_;exact ⟨(),zt,kZ _,trivial⟩
   rintro _ _;refine Q.r ?_;refine S.c1 (A:=rdS r a c s) rfl (z7 r a none s.bs.length c 0 0 s.bad e _) ?_;rintro _ _ ⟨rfl,rfl⟩;rw[ja h1,hd,jb rfl];refine Q.r ?_;refine N.t rfl ?_ ⟨none,0,a,c,rfl,⟨h.sl,h.c,h.b⟩,rfl⟩;exact eG
 ·have e1:xY 8 s=([],s):=by unfold xY;rw[jb hd]
  rw[e1];refine Q.r ?_;refine N.t rfl ?_ ⟨none,0,a,c,rfl,h,rfl⟩;exact eG
theorem Y.fldN {P:Program}{n:Nat}{ops:List Oper}{f:vL}{A:HL}{d:Tmp}{ty:TypeId}{pos:String}{af:Array Edge}{x:Operand}{t:TypeId}{k off sz:Nat}{fs:List (Nat×Nat×Bool)}{vs:Array Value}{v:Value}[h:zR P t fs](hx:ev f x=some (.agg vs))(hf:fs[k]? =some (off,sz,false))(hk:vs.toList[off]? =some v):qk P n ops ⟨some d,.field t x k,ty,pos,af,none⟩ f A v:=by
 obtain ⟨fields,hu,_,hfs⟩:=h.und;obtain ⟨fld,h1,h2,h3,h4⟩:=hfs k off sz false hf;refine Y.of (λa w s=> ?_);have hv':vs[off]? =some v:=by simpa using hk
 simp[execOp,s.eval hx,Instr.field,asAgg,part,hv',hu,h1,h2,h4]
section
variable {P : Program} {n : Nat} {ops rest : List Oper} {Q : vm} {f : vL} {L L0 L1 L2 : HL} {d : Tmp} {ty : TypeId} {pos : String} {af : Array Edge} {A B C : HP}
theorem S.c3F {x:Operand}{g:FuncId}{xs:Array Operand}{ats:Array TypeId}{fs args cs:List Value}{R:Value→HL→Prop}[he:qj P g](hv:ev f x=some (.func (.func g) fs.toArray cs.toArray))
  (hx:xJ f xs.toList=some args) (hc:qh P g (fs++args++cs) (A::B::C::L2) R) [h1:xp A L L0] [h2:xp B L0 L1] [h3:xp C L1 L2] (hk:∀v L',R v L'→qq P n ops rest Q (upd f d v) L'):
  qq P n ops (⟨some d,.call ⟨.value x,xs,ats⟩,ty,pos,af,none⟩::rest) Q f L:=
 qo (h1.ent.trans (h2.ent.trans h3.ent.cons).cons) (S.crF hv hx hc hk)
end
theorem xr (b:Bool)(m:Nat)(s:RS):0≤(xS b 0 (xz m) s).1∧(xS b 0 (xz m) s).1≤m:=by
 cases b with
 |false=>exact ⟨ki _,by show (0:Int)≤m;omega⟩
 |true=>
  have:=(wd m s).1
  show 0≤((vx m s).1:Int)∧((vx m s).1:Int)≤m
  omega
theorem dA {α:Type}(b:Bool)(m:Nat)(d:RS→α×RS)(s s':RS)(x:Int)(e:xS b 0 (xz m) s=(x,s')):xS b [] (fh m d) s=((xh d x.toNat (s',[])).2,(xh d x.toNat (s',[])).1):=by
 cases b with
 |false=>
  have h:=Prod.mk.inj e;rw[←h.1,←h.2];rfl
 |true=>
  have h:=Prod.mk.inj e;rw[←h.1,←h.2];rfl
def jID (r:Nat)(M:OM)(L0:HL)(s:RS)(v:Value)(L':HL):Prop:=∃n:NV,∃a' c' M',v=n.val∧n.abs=(XP s).1∧xN M' n∧RK M' a' c' (XP s).2∧qV M M'∧L'=rdS r a' c' (XP s).2::qp M'::L0
set_option maxRecDepth 100000 in
theorem pM (r:Nat)(a:OA)(c:Nat)(s:RS)(M:OM)(L0:HL)(h:RK M a c s)(hT:zB M):
  qh kY 85 [.pointer (some ⟨r,0,none⟩)] (rdS r a c s::qp M::L0) (jID r M L0 s):=by
 refine qg Tryz.func85 rfl rfl rfl ?_;refine Q.r ?_;(repeat (intro b1;refine Q.r ?_));rename_i b2;refine S.c1 (A:=rdS r a c s) rfl (wu r a c s 255 M _ h) ?_;rintro _ _ ⟨rfl,a1,c1,hk1,rfl⟩;have hdc:XP s=(mkN (vx 255 s).1 (Xp (vx 255 s).1 (vx 255 s).2).1,(Xp (vx 255 s).1 (vx 255 s).2).2):=rfl;have hkb:=(wd 255 s).1;generalize vx 255 s=x at*;obtain ⟨k,s1⟩:=x;dsimp only at*;revert b1;intro b0;refine Q.r ?_;refine S.y (Y.cvi rfl) ?_;have hw8:IntKind.u8.wrap (k:Int)=k:=by rw[IntKind.wrap_u8];omega
 rw[hw8];refine Q.r ?_;(repeat (intro b1;refine Q.r ?_));revert b1;intro b3;refine S.cr rfl (Xb k _ hT.rd zo) ?_;rintro _ _ ⟨rfl,rfl⟩;refine S.y (Y.fldN rfl rfl rfl) ?_;rw[Yt];refine Q.r ?_;(repeat (intro b1;refine Q.r ?_));revert b1;intro b4;refine S.y (Y.mf rfl rfl) ?_;refine Q.r ?_;obtain ⟨x1,s2,e1⟩:∃x s',xS (qC k 0) 0 (xz 18446744073709551615) s1=(x,s'):=⟨_,_,rfl⟩;have hx1:=xr (qC k 0) 18446744073709551615 s1;rw[e1] at hx1;refine S.c3F (A:=rdS r a1 c1 s1) (B:=Jk b4 k) (C:=Kx b2 r) rfl rfl (wi b2 b4 r k 0 18446744073709551615 1 a1 c1 s1 M _ hk1 zd rfl) ?_;rintro _ _ ⟨rfl,a2,c2,hk2,rfl⟩;rw[e1] at hk2 ⊢;dsimp only at hk2 hx1 ⊢;refine Q.r ?_;obtain ⟨x2,s3,e2⟩:∃x s',xS (qC k 1) 0 (xz 18446744073709551615) s2=(x,s'):=⟨_,_,rfl⟩;have hx2:=xr (qC k 1) 18446744073709551615 s2;rw[e2] at hx2;refine S.c3F (A:=rdS r a2 c2 s2) (B:=Jk b4 k) (C:=Kx b2 r) rfl rfl (wi b2 b4 r k 1 18446744073709551615 2 a2 c2 s2 M _ hk2 zd rfl) ?_;rintro _ _ ⟨rfl,a3,c3,hk3,rfl⟩;rw[e2] at hk3 ⊢;dsimp only at hk3 hx2 ⊢;refine Q.r ?_;obtain ⟨x3,s4,e3⟩:∃x s',xS (qC k 2) 0 (xz 1099511627776) s3=(x,s'):=⟨_,_,rfl⟩;have hx3:=xr (qC k 2) 1099511627776 s3;rw[e3] at hx3;refine S.c3F (A:=rdS r a3 c3 s3) (B:=Jk b4 k) (C:=Kx b2 r) rfl rfl (wi b2 b4 r k 2 1099511627776 4 a3 c3 s3 M _ hk3 zd rfl) ?_;rintro _ _ ⟨rfl,a4,c4,hk4,rfl⟩;rw[e3] at hk4 ⊢;dsimp only at hk4 hx3 ⊢;refine Q.r ?_;obtain ⟨x4,s5,e4⟩:∃x s',xS (qC k 3) 0 (xz 1099511627776) s4=(x,s'):=⟨_,_,rfl⟩;have hx4:=xr (qC k 3) 1099511627776 s4;rw[e4] at hx4;refine S.c3F (A:=rdS r a4 c4 s4) (B:=Jk b4 k) (C:=Kx b2 r) rfl rfl (wi b2 b4 r k 3 1099511627776 8 a4 c4 s4 M _ hk4 zd rfl) ?_;rintro _ _ ⟨rfl,a5,c5,hk5,rfl⟩;rw[e4] at hk5 ⊢;dsimp only at hk5 hx4 ⊢;refine Q.r ?_;obtain ⟨x5,s6,e5⟩:∃x s',xS (qC k 4) 0 (xz 1099511627776) s5=(x,s'):=⟨_,_,rfl⟩;have hx5:=xr (qC k 4) 1099511627776 s5
 rw[e5] at hx5;refine S.c3F (A:=rdS r a5 c5 s5) (B:=Jk b4 k) (C:=Kx b2 r) rfl rfl (wi b2 b4 r k 4 1099511627776 16 a5 c5 s5 M _ hk5 zd rfl) ?_;rintro _ _ ⟨rfl,a6,c6,hk6,rfl⟩;rw[e5] at hk6 ⊢;dsimp only at hk6 hx5 ⊢;refine Q.r ?_;obtain ⟨x6,s7,e6⟩:∃x s',xS (qC k 5) 0 (xz 18446744073709551615) s6=(x,s'):=⟨_,_,rfl⟩;have hx6:=xr (qC k 5) 18446744073709551615 s6;rw[e6] at hx6;refine S.c3F (A:=rdS r a6 c6 s6) (B:=Jk b4 k) (C:=Kx b2 r) rfl rfl (wi b2 b4 r k 5 18446744073709551615 32 a6 c6 s6 M _ hk6 zd rfl) ?_;rintro _ _ ⟨rfl,a7,c7,hk7,rfl⟩;rw[e6] at hk7 ⊢;dsimp only at hk7 hx6 ⊢;refine Q.r ?_;obtain ⟨x7,s8,e7⟩:∃x s',xS (qC k 6) 0 (xz 1099511627776) s7=(x,s'):=⟨_,_,rfl⟩;have hx7:=xr (qC k 6) 1099511627776 s7;rw[e7] at hx7;refine S.c3F (A:=rdS r a7 c7 s7) (B:=Jk b4 k) (C:=Kx b2 r) rfl rfl (wi b2 b4 r k 6 1099511627776 64 a7 c7 s7 M _ hk7 zd rfl) ?_;rintro _ _ ⟨rfl,a8,c8,hk8,rfl⟩;rw[e7] at hk8 ⊢;dsimp only at hk8 hx7 ⊢;refine Q.r ?_;obtain ⟨x8,s9,e8⟩:∃x s',xS (qC k 7) 0 (xz 16) s8=(x,s'):=⟨_,_,rfl⟩;have hx8:=xr (qC k 7) 16 s8;rw[e8] at hx8;refine S.c3F (A:=rdS r a8 c8 s8) (B:=Jk b4 k) (C:=Kx b2 r) rfl rfl (wi b2 b4 r k 7 16 128 a8 c8 s8 M _ hk8 zd rfl) ?_;rintro _ _ ⟨rfl,a9,c9,hk9,rfl⟩;rw[e8] at hk9 ⊢;dsimp only at hk9 hx8 ⊢;refine Q.r ?_;refine S.y (Y.cvi rfl) ?_;rw[vl (a:=x8) zo zo];refine Q.r ?_;obtain ⟨x9,s10,e9⟩:∃x s',xS (qC k 8) 0 (xz 256) s9=(x,s'):=⟨_,_,rfl⟩;have hx9:=xr (qC k 8) 256 s9;rw[e9] at hx9;refine S.c3F (A:=rdS r a9 c9 s9) (B:=Jk b4 k) (C:=Kx b2 r) rfl rfl (wi b2 b4 r k 8 256 256 a9 c9 s9 M _ hk9 zd rfl) ?_;rintro _ _ ⟨rfl,a10,c10,hk10,rfl⟩;rw[e9] at hk10 ⊢;dsimp only at hk10 hx9 ⊢;refine Q.r ?_;refine S.y (Y.cvi rfl) ?_;rw[vl (a:=x9) zo zo];refine Q.r ?_;obtain ⟨x10,s11,e10⟩:∃x s',xS (qC k 9) 0 (xz 13) s10=(x,s'):=⟨_,_,rfl⟩;have hx10:=xr (qC k 9) 13 s10
 rw[e10] at hx10;refine S.c3F (A:=rdS r a10 c10 s10) (B:=Jk b4 k) (C:=Kx b2 r) rfl rfl (wi b2 b4 r k 9 13 512 a10 c10 s10 M _ hk10 zd rfl) ?_;rintro _ _ ⟨rfl,a11,c11,hk11,rfl⟩;rw[e10] at hk11 ⊢;dsimp only at hk11 hx10 ⊢;refine Q.r ?_;refine S.y (Y.cvi rfl) ?_;rw[vl (a:=x10) zo zo];refine Q.r ?_;obtain ⟨x11,s12,e11⟩:∃x s',xS (qC k 10) 0 (xz 16) s11=(x,s'):=⟨_,_,rfl⟩;have hx11:=xr (qC k 10) 16 s11;rw[e11] at hx11;refine S.c3F (A:=rdS r a11 c11 s11) (B:=Jk b4 k) (C:=Kx b2 r) rfl rfl (wi b2 b4 r k 10 16 1024 a11 c11 s11 M _ hk11 zd rfl) ?_;rintro _ _ ⟨rfl,a12,c12,hk12,rfl⟩;rw[e11] at hk12 ⊢;dsimp only at hk12 hx11 ⊢;refine Q.r ?_;refine S.y (Y.cvi rfl) ?_;rw[vl (a:=x11) zo zo];refine Q.r ?_;obtain ⟨x12,s13,e12⟩:∃x s',xS (qC k 11) 0 (xz 4) s12=(x,s'):=⟨_,_,rfl⟩;have hx12:=xr (qC k 11) 4 s12;rw[e12] at hx12;refine S.c3F (A:=rdS r a12 c12 s12) (B:=Jk b4 k) (C:=Kx b2 r) rfl rfl (wi b2 b4 r k 11 4 2048 a12 c12 s12 M _ hk12 zd rfl) ?_;rintro _ _ ⟨rfl,a13,c13,hk13,rfl⟩;rw[e12] at hk13 ⊢;dsimp only at hk13 hx12 ⊢;obtain ⟨np,hnp⟩:∃np:Nat,x12=(np:Int):=⟨x12.toNat,by omega⟩;subst hnp;have hP:=dA (qC k 11) 4 (xz 16) s12 s13 _ e12;rw[kz] at hP;refine Q.r ?_;generalize hF:xh (xz 16) np (s13,[])=F at hP;refine qw (σ:=OA×Nat×OA×Nat×Unit) (λ_=> [(1,.pointer (some ⟨b2,0,none⟩)),(2,.pointer (some ⟨b0,0,none⟩)),(3,.pointer (some ⟨b3,0,none⟩)),(4,.pointer (some ⟨b4,0,none⟩)),(5,.func (.func 160) #[] #[.pointer (some ⟨b4,0,none⟩),.pointer (some ⟨b2,0,none⟩)])]) (λs=>pt b3 (cl [.int .u8 (k:Int),.int .u64 x1,.int .u64 x2,.int .u64 x3,.int .u64 x4,.int .u64 x5,.int .u64 x6,.int .u64 x7,.int .i64 x8,.int .i64 x9,.int .i64 x10,.int .i64 x11,.slice s.1 F.2.length s.2.1,.slice none 0 0,.slice none 0 0,.slice none 0 0] 82)::slO 3 1 s.1 F.2.length s.2.1 (F.2.map I64)::rdS r s.2.2.1 s.2.2.2.1 F.1::Jk b4 k::Kx b2 r::pt b0 (cl [.int .u8 0,.int .u64 0,.int .u64 0,.int .u64 0,.int .u64 0,.int .u64 0,.int .u64 0,.int .u64 0,.int .i64 0,.int .i64 0,.int .i64 0,.int .i64 0,.slice none 0 0,.slice none 0 0,.slice none 0 0,.slice none 0 0] 82)::qp M::L0) (λs=>RK M s.2.2.1 s.2.2.2.1 F.1) ?_ ?_
 ·refine ql (σ:=OA×Nat×OA×Nat×Nat×(RS×List Int)) (λs=> [(1,.pointer (some ⟨b2,0,none⟩)),(2,.pointer (some ⟨b0,0,none⟩)),(3,.pointer (some ⟨b3,0,none⟩)),(4,.pointer (some ⟨b4,0,none⟩)),(5,.func (.func 160) #[] #[.pointer (some ⟨b4,0,none⟩),.pointer (some ⟨b2,0,none⟩)]),(53,.int .u64 np),(54,.int .u64 s.2.2.2.2.1)])
   (λs=>pt b3 (cl [.int .u8 (k:Int),.int .u64 x1,.int .u64 x2,.int .u64 x3,.int .u64 x4,.int .u64 x5,.int .u64 x6,.int .u64 x7,.int .i64 x8,.int .i64 x9,.int .i64 x10,.int .i64 x11,.slice s.1 s.2.2.2.2.2.2.length s.2.1,.slice none 0 0,.slice none 0 0,.slice none 0 0] 82)::slO 3 1 s.1 s.2.2.2.2.2.2.length s.2.1 (s.2.2.2.2.2.2.map I64)::rdS r s.2.2.1 s.2.2.2.1 s.2.2.2.2.2.1::Jk b4 k::Kx b2 r::pt b0 (cl [.int .u8 0,.int .u64 0,.int .u64 0,.int .u64 0,.int .u64 0,.int .u64 0,.int .u64 0,.int .u64 0,.int .i64 0,.int .i64 0,.int .i64 0,.int .i64 0,.slice none 0 0,.slice none 0 0,.slice none 0 0,.slice none 0 0] 82)::qp M::L0)
   (λs=>s.2.2.2.2.1≤np∧s.2.2.2.2.2.2.length=s.2.2.2.2.1∧RK M s.2.2.1 s.2.2.2.1 s.2.2.2.2.2.1∧xh (xz 16) (np - s.2.2.2.2.1) s.2.2.2.2.2=F) (λs=>np - s.2.2.2.2.1) (none,0,a13,c13,0,(s13,[])) zt eG ⟨jw _,rfl,hk13,hF⟩ ?_
  rintro ⟨pa,pc,ra,rc,i,z,l⟩ ⟨hi,hl,hkz,hz⟩;dsimp only at hi hl hkz hz ⊢
  by_cases hlt:i<np
  ·have hlt':(i:Int)<np:=by omega
   refine Q.r ?_;have en2:np - i=(np - (i+1))+1:=by omega
   rw[en2,yw] at hz;refine Q.dgo [true,false,false,false,true,false,false] [3,5,6,8] [8] [0,1,2,3,4,5,6,7,8] ?_;refine Q.rd2 ?_;refine D.e rfl rfl rfl ?_;refine S.c1 (A:=rdS r ra rc z) rfl (wu r ra rc z 16 M _ hkz) ?_;rintro _ _ ⟨rfl,a14,c14,hk14,rfl⟩;have hv4:=(wd 16 z).1;have hz:xh (xz 16) (np - (i+1)) ((vx 16 z).2,l++[((vx 16 z).1:Int)])=F:=hz;generalize vx 16 z=x14 at*;obtain ⟨v,z14⟩:=x14;dsimp only at*;refine Q.r ?_;refine Q.rd2 ?_;refine D.y rfl rfl rfl zk (Y.cvi rfl) ?_;rw[vl zo zo];refine Q.rd2 ?_;refine D.e rfl rfl rfl ?_;refine Q.r ?_;(repeat (intro b1;refine Q.r ?_));refine Q.rd2 ?_;refine D.e rfl rfl rfl ?_;refine S.app rfl rfl (vG.sl vi.row zr zr) zr zo zo (λa7 c7=> ?_);refine Q.r ?_;refine Q.rd2 ?_;refine Q.dc rfl rfl rfl rfl ?_;refine Q.r ?_;refine Q.rd2 ?_;refine Q.r ?_;refine S.y (Y.add rfl rfl) ?_;rw[wrap_u64 zo zo];refine Q.r ?_;refine ⟨(a7,c7,a14,c14,i+1,z14,l++[(v:Int)]),⟨rfl,rfl,rfl,rfl,rfl,rfl,jj some (by simp[jU]),trivial⟩,?_,⟨hlt,by dsimp only;rw[qG,hl],hk14,hz⟩,jr np i hlt⟩;dsimp only;rw[qG,jq,jL,kC];exact eG
  ·have hie:i=np:=by omega
   have hlt':¬(i:Int)<np:=by omega
   rw[hie,Nat.sub_self] at hz;have hz:(z,l)=F:=hz;subst hz;refine Q.r ?_;exact ⟨(pa,pc,ra,rc,()),zt,by exact eG,hkz⟩
 ·rintro ⟨pa,pc,ra,rc,_⟩ hkz
  dsimp only at hkz ⊢;refine wF pa (λM1 hl1 hsp=> ?_);obtain ⟨x13,s14,e13⟩:∃x s',xS (qC k 12) 0 (xz 16) F.1=(x,s'):=⟨_,_,rfl⟩;have hx13:=xr (qC k 12) 16 F.1;rw[e13] at hx13;refine Q.r ?_;refine S.c3F (A:=rdS r ra rc F.1) (B:=Jk b4 k) (C:=Kx b2 r) rfl rfl (wi b2 b4 r k 12 16 4096 ra rc F.1 M1 _ (hkz.mono hl1) zd rfl) ?_;rintro _ _ ⟨rfl,a15,c15,hk15,rfl⟩;rw[e13] at hk15 ⊢;dsimp only at hk15 hx13 ⊢;obtain ⟨no,hno⟩:∃no:Nat,x13=(no:Int):=⟨x13.toNat,by omega⟩;subst hno;have hO:=dA (qC k 12) 16 tY F.1 s14 _ e13;rw[kz] at hO;refine Q.r ?_;generalize hG:xh tY no (s14,[])=G at hO;refine qw (σ:=OA×Nat×OA×Nat×(OM)×List OV) (λ_=> [(1,.pointer (some ⟨b2,0,none⟩)),(2,.pointer (some ⟨b0,0,none⟩)),(3,.pointer (some ⟨b3,0,none⟩)),(4,.pointer (some ⟨b4,0,none⟩)),(5,.func (.func 160) #[] #[.pointer (some ⟨b4,0,none⟩),.pointer (some ⟨b2,0,none⟩)])]) (λs=>pt b3 (cl [.int .u8 (k:Int),.int .u64 x1,.int .u64 x2,.int .u64 x3,.int .u64 x4,.int .u64 x5,.int .u64 x6,.int .u64 x7,.int .i64 x8,.int .i64 x9,.int .i64 x10,.int .i64 x11,.slice pa F.2.length pc,.slice s.1 (s.2.2.2.2.2).length s.2.1,.slice none 0 0,.slice none 0 0] 82)::slO 38 2 s.1 (s.2.2.2.2.2).length s.2.1 ((s.2.2.2.2.2).flatMap OV.cells)::rdS r s.2.2.1 s.2.2.2.1 G.1::Jk b4 k::Kx b2 r::pt b0 (cl [.int .u8 0,.int .u64 0,.int .u64 0,.int .u64 0,.int .u64 0,.int .u64 0,.int .u64 0,.int .u64 0,.int .i64 0,.int .i64 0,.int .i64 0,.int .i64 0,.slice none 0 0,.slice none 0 0,.slice none 0 0,.slice none 0 0] 82)::qp s.2.2.2.2.1::L0) (λs=>RK s.2.2.2.2.1 s.2.2.1 s.2.2.2.1 G.1∧qV M1 s.2.2.2.2.1∧okR s.2.2.2.2.1 s.2.2.2.2.2∧s.2.2.2.2.2.map OV.abs=G.2) ?_ ?_
  ·refine ql (σ:=OA×Nat×OA×Nat×(OM)×List OV×Nat×RS) (λs=> [(1,.pointer (some ⟨b2,0,none⟩)),(2,.pointer (some ⟨b0,0,none⟩)),(3,.pointer (some ⟨b3,0,none⟩)),(4,.pointer (some ⟨b4,0,none⟩)),(5,.func (.func 160) #[] #[.pointer (some ⟨b4,0,none⟩),.pointer (some ⟨b2,0,none⟩)]),(66,.int .u64 no),(67,.int .u64 s.2.2.2.2.2.2.1)])
    (λs=>pt b3 (cl [.int .u8 (k:Int),.int .u64 x1,.int .u64 x2,.int .u64 x3,.int .u64 x4,.int .u64 x5,.int .u64 x6,.int .u64 x7,.int .i64 x8,.int .i64 x9,.int .i64 x10,.int .i64 x11,.slice pa F.2.length pc,.slice s.1 (s.2.2.2.2.2.1).length s.2.1,.slice none 0 0,.slice none 0 0] 82)::slO 38 2 s.1 (s.2.2.2.2.2.1).length s.2.1 ((s.2.2.2.2.2.1).flatMap OV.cells)::rdS r s.2.2.1 s.2.2.2.1 s.2.2.2.2.2.2.2::Jk b4 k::Kx b2 r::pt b0 (cl [.int .u8 0,.int .u64 0,.int .u64 0,.int .u64 0,.int .u64 0,.int .u64 0,.int .u64 0,.int .u64 0,.int .i64 0,.int .i64 0,.int .i64 0,.int .i64 0,.slice none 0 0,.slice none 0 0,.slice none 0 0,.slice none 0 0] 82)::qp s.2.2.2.2.1::L0)
    (λs=>s.2.2.2.2.2.2.1≤no∧s.2.2.2.2.2.1.length=s.2.2.2.2.2.2.1∧RK s.2.2.2.2.1 s.2.2.1 s.2.2.2.1 s.2.2.2.2.2.2.2∧qV M1 s.2.2.2.2.1∧okR s.2.2.2.2.1 s.2.2.2.2.2.1∧xh tY (no - s.2.2.2.2.2.2.1) (s.2.2.2.2.2.2.2,s.2.2.2.2.2.1.map OV.abs)=G) (λs=>no - s.2.2.2.2.2.2.1) (none,0,a15,c15,M1,[],0,s14) zt eG ⟨jw _,rfl,hk15,qV.refl _,(λ_ h=>by cases h),hG⟩ ?_
   rintro ⟨oa,oc,ra2,rc2,M2,os,i,z⟩ ⟨hi,hl,hkz2,hl2,hos,hz⟩;dsimp only at hi hl hkz2 hl2 hos hz ⊢
   by_cases hlt:i<no
   ·have hlt':(i:Int)<no:=by omega
    refine Q.r ?_;have en2:no - i=(no - (i+1))+1:=by omega
    rw[en2,yw] at hz;refine Q.dgo [true,false,false,false,true,false,false] [3,5,7,8,10] [10] [0,1,2,4,3,5,6,7,8,9,10] ?_;refine Q.rd2 ?_;refine D.e rfl rfl rfl ?_;refine S.c1 (A:=rdS r ra2 rc2 z) rfl (wu r ra2 rc2 z 1099511627776 M2 _ hkz2) ?_;rintro _ _ ⟨rfl,a16,c16,hk16,rfl⟩;have hz:xh tY (no - (i+1)) ((xY 8 (vx 1099511627776 z).2).2,os.map OV.abs++[(((vx 1099511627776 z).1:Int),(xY 8 (vx 1099511627776 z).2).1)])=G:=hz;generalize vx 1099511627776 z=x16 at*;obtain ⟨v,z16⟩:=x16;dsimp only at*;refine Q.r ?_;refine Q.rd2 ?_;refine D.e rfl rfl rfl ?_;refine S.c1 (A:=rdS r a16 c16 z16) rfl (WB r a16 c16 z16 M2 _ hk16) ?_;rintro _ _ ⟨va,vc,a17,c17,rfl,hk17,rfl⟩;generalize xY 8 z16=y16 at*;obtain ⟨vv,z17⟩:=y16;dsimp only at*;refine qR va (λM3 hl3 hsv=> ?_);refine Q.r ?_;refine Q.rd2 ?_;refine D.e rfl rfl rfl ?_;refine Q.r ?_;(repeat (intro b1;refine Q.r ?_));refine Q.rd2 ?_;refine D.e rfl rfl rfl ?_;refine S.app rfl rfl (vG.sl vi.row zr zr) zr zo zo (λa7 c7=> ?_);refine Q.r ?_;refine Q.rd2 ?_;refine Q.dc rfl rfl rfl rfl ?_;refine Q.r ?_;refine Q.rd2 ?_;refine Q.r ?_;refine S.y (Y.add rfl rfl) ?_;rw[wrap_u64 zo zo];refine Q.r ?_;refine ⟨(a7,c7,a17,c17,M3,os++[⟨v,va,vc,vv⟩],i+1,z17),⟨rfl,rfl,rfl,rfl,rfl,rfl,jj some (by simp[jU]),trivial⟩,?_,⟨hlt,by dsimp only;rw[qG,hl],hk17.mono hl3,hl2.trans hl3,λo ho=> ?_,by dsimp only;rw[jq];exact hz⟩,jr no i hlt⟩
    ·dsimp only
     rw[qG,vK];exact eG
    ·rcases jy.1 ho with ho|ho
     ·exact (hos o ho).mono hl3
     ·rw[ji.1 ho];exact hsv
   ·have hie:i=no:=by omega
    have hlt':¬(i:Int)<no:=by omega
    rw[hie,Nat.sub_self] at hz;have hz:(z,os.map OV.abs)=G:=hz;subst hz;refine Q.r ?_;exact ⟨(oa,oc,ra2,rc2,M2,os),zt,by exact eG,hkz2,hl2,hos,rfl⟩
  ·rintro ⟨oa,oc,ra2,rc2,M2,os⟩ ⟨hkz2,hl2,hos,hoG⟩
   dsimp only at hkz2 hl2 hos hoG ⊢;refine wF oa (λM3 hl3 hso=> ?_);obtain ⟨V,hV⟩:∃V,xS (qC k 13) [] (xY 8) G.1=V:=⟨_,rfl⟩;have hb13:=sm k 13 zd;rw[show ((2^13:Nat):Int)=8192 from rfl] at hb13;refine wE ?_;refine vo (σ:=OA×Nat×OA×Nat×(OM)) (λ_=> [(1,.pointer (some ⟨b2,0,none⟩)),(2,.pointer (some ⟨b0,0,none⟩)),(3,.pointer (some ⟨b3,0,none⟩)),(4,.pointer (some ⟨b4,0,none⟩)),(5,.func (.func 160) #[] #[.pointer (some ⟨b4,0,none⟩),.pointer (some ⟨b2,0,none⟩)])]) (λs=>pt b3 (cl [.int .u8 (k:Int),.int .u64 x1,.int .u64 x2,.int .u64 x3,.int .u64 x4,.int .u64 x5,.int .u64 x6,.int .u64 x7,.int .i64 x8,.int .i64 x9,.int .i64 x10,.int .i64 x11,.slice pa F.2.length pc,.slice oa os.length oc,.slice s.1 V.1.length s.2.1,.slice none 0 0] 82)::rdS r s.2.2.1 s.2.2.2.1 V.2::Jk b4 k::Kx b2 r::pt b0 (cl [.int .u8 0,.int .u64 0,.int .u64 0,.int .u64 0,.int .u64 0,.int .u64 0,.int .u64 0,.int .u64 0,.int .i64 0,.int .i64 0,.int .i64 0,.int .i64 0,.slice none 0 0,.slice none 0 0,.slice none 0 0,.slice none 0 0] 82)::qp s.2.2.2.2::L0) (λs=>RK s.2.2.2.2 s.2.2.1 s.2.2.2.1 V.2∧qV M3 s.2.2.2.2∧qI s.2.2.2.2 s.1 V.1.length 1 (V.1.map zC)) ?_ ?_
   ·refine Q.r ?_
    refine S.y (Y.and rfl rfl) ?_
    cases hk13b:qC k 13 with
    |false=>
     rw[hk13b] at hb13 hV;have h0:IntKind.i64.wrap (((BitVec.ofInt IntKind.i64.bits ((fldN k:Nat):Int))&&&(BitVec.ofInt IntKind.i64.bits 8192)).toNat:Int)=0:=kv.1 (of_decide_eq_false hb13);rw[h0];have hV:(([]:List Int),G.1)=V:=hV;subst hV;refine Q.r ?_;refine ⟨(none,0,ra2,rc2,M3),zt,?_,hkz2.mono hl3,qV.refl _,qI.nil0⟩;dsimp only[List.length_nil];exact eG
    |true=>
     rw[hk13b] at hb13 hV;have h0:=kV hb13;generalize IntKind.i64.wrap (((BitVec.ofInt IntKind.i64.bits ((fldN k:Nat):Int))&&&(BitVec.ofInt IntKind.i64.bits 8192)).toNat:Int)=w at h0;refine Q.r ?_;refine S.c1 (A:=rdS r ra2 rc2 G.1) rfl (WB r ra2 rc2 G.1 M3 _ (hkz2.mono hl3)) ?_;rintro _ _ ⟨va,vc,a17,c17,rfl,hk17,rfl⟩;have hV:xY 8 G.1=V:=hV;rw[hV] at hk17 ⊢;refine qR va (λM4 hl4 hsv=> ?_);refine Q.r ?_;exact ⟨(va,vc,a17,c17,M4),zt,by exact eG,hk17.mono hl4,hl4,hsv⟩
   ·rintro ⟨va,vc,ra3,rc3,M4⟩ ⟨hkz3,hl4,hsv⟩
    dsimp only at hkz3 hl4 hsv ⊢;obtain ⟨x14,s15,e14⟩:∃x s',xS (qC k 14) 0 (xz 16) V.2=(x,s'):=⟨_,_,rfl⟩;have hx14:=xr (qC k 14) 16 V.2;rw[e14] at hx14;refine Q.r ?_;refine S.c3F (A:=rdS r ra3 rc3 V.2) (B:=Jk b4 k) (C:=Kx b2 r) rfl rfl (wi b2 b4 r k 14 16 16384 ra3 rc3 V.2 M4 _ hkz3 zd rfl) ?_;rintro _ _ ⟨rfl,a15,c15,hk15,rfl⟩;rw[e14] at hk15 ⊢;dsimp only at hk15 hx14 ⊢;obtain ⟨nh,hnh⟩:∃nh:Nat,x14=(nh:Int):=⟨x14.toNat,by omega⟩;subst hnh;have hH:=dA (qC k 14) 16 jAo V.2 s15 _ e14;rw[kz] at hH;refine Q.r ?_;generalize hW:xh jAo nh (s15,[])=W at hH;refine qw (σ:=OA×Nat×OA×Nat×(OM)×List HV) (λ_=> [(2,.pointer (some ⟨b0,0,none⟩)),(3,.pointer (some ⟨b3,0,none⟩))]) (λs=>pt b3 (cl [.int .u8 (k:Int),.int .u64 x1,.int .u64 x2,.int .u64 x3,.int .u64 x4,.int .u64 x5,.int .u64 x6,.int .u64 x7,.int .i64 x8,.int .i64 x9,.int .i64 x10,.int .i64 x11,.slice pa F.2.length pc,.slice oa os.length oc,.slice va V.1.length vc,.slice s.1 (s.2.2.2.2.2).length s.2.1] 82)::slO 113 3 s.1 (s.2.2.2.2.2).length s.2.1 ((s.2.2.2.2.2).flatMap HV.cells)::rdS r s.2.2.1 s.2.2.2.1 W.1::Jk b4 k::Kx b2 r::pt b0 (cl [.int .u8 0,.int .u64 0,.int .u64 0,.int .u64 0,.int .u64 0,.int .u64 0,.int .u64 0,.int .u64 0,.int .i64 0,.int .i64 0,.int .i64 0,.int .i64 0,.slice none 0 0,.slice none 0 0,.slice none 0 0,.slice none 0 0] 82)::qp s.2.2.2.2.1::L0) (λs=>RK s.2.2.2.2.1 s.2.2.1 s.2.2.2.1 W.1∧qV M4 s.2.2.2.2.1∧(∀h∈s.2.2.2.2.2,qI s.2.2.2.2.1 h.a h.vec.length 1 (h.vec.map zC))∧s.2.2.2.2.2.map HV.abs=W.2) ?_ ?_
    ·refine ql (σ:=OA×Nat×OA×Nat×(OM)×List HV×Nat×RS) (λs=> [(1,.pointer (some ⟨b2,0,none⟩)),(2,.pointer (some ⟨b0,0,none⟩)),(3,.pointer (some ⟨b3,0,none⟩)),(87,.int .u64 nh),(88,.int .u64 s.2.2.2.2.2.2.1)])
      (λs=>pt b3 (cl [.int .u8 (k:Int),.int .u64 x1,.int .u64 x2,.int .u64 x3,.int .u64 x4,.int .u64 x5,.int .u64 x6,.int .u64 x7,.int .i64 x8,.int .i64 x9,.int .i64 x10,.int .i64 x11,.slice pa F.2.length pc,.slice oa os.length oc,.slice va V.1.length vc,.slice s.1 (s.2.2.2.2.2.1).length s.2.1] 82)::slO 113 3 s.1 (s.2.2.2.2.2.1).length s.2.1 ((s.2.2.2.2.2.1).flatMap HV.cells)::rdS r s.2.2.1 s.2.2.2.1 s.2.2.2.2.2.2.2::Jk b4 k::Kx b2 r::pt b0 (cl [.int .u8 0,.int .u64 0,.int .u64 0,.int .u64 0,.int .u64 0,.int .u64 0,.int .u64 0,.int .u64 0,.int .i64 0,.int .i64 0,.int .i64 0,.int .i64 0,.slice none 0 0,.slice none 0 0,.slice none 0 0,.slice none 0 0] 82)::qp s.2.2.2.2.1::L0)
      (λs=>s.2.2.2.2.2.2.1≤nh∧s.2.2.2.2.2.1.length=s.2.2.2.2.2.2.1∧RK s.2.2.2.2.1 s.2.2.1 s.2.2.2.1 s.2.2.2.2.2.2.2∧qV M4 s.2.2.2.2.1∧(∀h∈s.2.2.2.2.2.1,qI s.2.2.2.2.1 h.a h.vec.length 1 (h.vec.map zC))∧xh jAo (nh - s.2.2.2.2.2.2.1) (s.2.2.2.2.2.2.2,s.2.2.2.2.2.1.map HV.abs)=W) (λs=>nh - s.2.2.2.2.2.2.1) (none,0,a15,c15,M4,[],0,s15) zt eG ⟨jw _,rfl,hk15,qV.refl _,(λ_ h=>by cases h),hW⟩ ?_
     rintro ⟨ha,hc,ra2,rc2,M2,hs,i,z⟩ ⟨hi,hl,hkz2,hl2,hos,hz⟩;dsimp only at hi hl hkz2 hl2 hos hz ⊢
     by_cases hlt:i<nh
     ·have hlt':(i:Int)<nh:=by omega
      refine Q.r ?_;have en2:nh - i=(nh - (i+1))+1:=by omega
      rw[en2,yw] at hz;refine Q.dgo [true,false,false,false,true,false,false] [3,5,7,9,10,12] [12] [0,1,2,4,6,3,5,7,8,9,10,11,12] ?_;refine Q.rd2 ?_;refine D.e rfl rfl rfl ?_;refine S.c1 (A:=rdS r ra2 rc2 z) rfl (wu r ra2 rc2 z 1099511627776 M2 _ hkz2) ?_;rintro _ _ ⟨rfl,a16,c16,hk16,rfl⟩;have hz:xh jAo (nh - (i+1)) ((xY 8 (vx 18446744073709551615 (vx 1099511627776 z).2).2).2,hs.map HV.abs++[(((vx 1099511627776 z).1:Int),((vx 18446744073709551615 (vx 1099511627776 z).2).1:Int),(xY 8 (vx 18446744073709551615 (vx 1099511627776 z).2).2).1)])=W:=hz;generalize vx 1099511627776 z=x16 at*;obtain ⟨v,z16⟩:=x16;dsimp only at*;refine Q.r ?_;refine Q.rd2 ?_;refine D.e rfl rfl rfl ?_;refine S.c1 (A:=rdS r a16 c16 z16) rfl (wu r a16 c16 z16 18446744073709551615 M2 _ hk16) ?_;rintro _ _ ⟨rfl,a18,c18,hk18,rfl⟩;generalize vx 18446744073709551615 z16=x18 at*;obtain ⟨ds,z18⟩:=x18;dsimp only at*;refine Q.r ?_;refine Q.rd2 ?_;refine D.e rfl rfl rfl ?_;refine S.c1 (A:=rdS r a18 c18 z18) rfl (WB r a18 c18 z18 M2 _ hk18) ?_;rintro _ _ ⟨ua,uc,a17,c17,rfl,hk17,rfl⟩;generalize xY 8 z18=y16 at*;obtain ⟨vv,z17⟩:=y16;dsimp only at*;refine qR ua (λM7 hl7 hsu=> ?_);refine Q.r ?_;refine Q.rd2 ?_;refine D.e rfl rfl rfl ?_;refine Q.r ?_;(repeat (intro b1;refine Q.r ?_));refine Q.rd2 ?_;refine D.e rfl rfl rfl ?_;refine S.app rfl rfl (vG.sl vi.row zr zr) zr zo zo (λa7 c7=> ?_);refine Q.r ?_;refine Q.rd2 ?_;refine Q.dc rfl rfl rfl rfl ?_;refine Q.r ?_;refine Q.rd2 ?_;refine Q.r ?_;refine S.y (Y.add rfl rfl) ?_;rw[wrap_u64 zo zo];refine Q.r ?_;refine ⟨(a7,c7,a17,c17,M7,hs++[⟨v,ds,ua,uc,vv⟩],i+1,z17),⟨rfl,rfl,rfl,rfl,jj some (by simp[jU]),trivial⟩,?_,⟨hlt,by dsimp only;rw[qG,hl],hk17.mono hl7,hl2.trans hl7,λo ho=> ?_,by dsimp only;rw[jq];exact hz⟩,jr nh i hlt⟩
      ·dsimp only
       rw[qG,vK];exact eG
      ·rcases jy.1 ho with ho|ho
       ·exact (hos o ho).mono hl7
       ·rw[ji.1 ho];exact hsu
     ·have hie:i=nh:=by omega
      have hlt':¬(i:Int)<nh:=by omega
      rw[hie,Nat.sub_self] at hz;have hz:(z,hs.map HV.abs)=W:=hz;subst hz;refine Q.r ?_;exact ⟨(ha,hc,ra2,rc2,M2,hs),zt,by exact eG,hkz2,hl2,hos,rfl⟩
    ·rintro ⟨ha,hc,ra4,rc4,M5,hs⟩ ⟨hkz4,hl5,hhs,hhW⟩
     dsimp only at hkz4 hl5 hhs hhW ⊢;refine wF ha (λM6 hl6 hsh=> ?_);refine Q.r ?_;have hnn:bK (zH k) s1=([x1,x2,x3,x4,x5,x6,x7,x8,x9,x10,x11],s12):=by
      simp only[zH,mostK,List.zipIdx_cons,List.zipIdx_nil,jL,kC,bK,kR,Nat.reduceAdd,e1,e2,e3,e4,e5,e6,e7,e8,e9,e10,e11]
     have hB:Xp k s1=(([x1,x2,x3,x4,x5,x6,x7,x8,x9,x10,x11],F.2,os.map OV.abs,V.1,hs.map HV.abs),W.1):=by
      unfold Xp;simp only[Qe,hnn,hP,hO,hV,hH,hoG,hhW]
     rw[hB] at hdc;refine N.r1 RV.c ?_ ⟨⟨(k:Int),x1,x2,x3,x4,x5,x6,x7,x8,x9,x10,x11,pa,pc,F.2,oa,oc,os,va,vc,V.1,ha,hc,hs⟩,ra4,rc4,M6,rfl,by rw[hdc];rfl,⟨hsp.mono (hl2.trans (hl3.trans (hl4.trans (hl5.trans hl6)))),⟨hso.mono (hl4.trans (hl5.trans hl6)),λo ho=>(hos o ho).mono (hl3.trans (hl4.trans (hl5.trans hl6)))⟩,hsv.mono (hl5.trans hl6),hsh,λh hh=>(hhs h hh).mono hl6⟩,by rw[hdc];exact hkz4.mono hl6,hl1.trans (hl2.trans (hl3.trans (hl4.trans (hl5.trans hl6)))),by rw[hdc]⟩;exact eG
theorem fZ :∀(k:Nat) (bs:List UInt8) (acc:List Int),(Xz k bs acc).1.length≤acc.length+k:=by
 intro k
 induction k with
 |zero=>exact λbs acc=>jz _
 |succ k ih=>
  intro bs acc;rw[J5]
  split
  ·simp
  ·split
   ·simp
   ·have:=ih (bs.drop (qB bs 18446744073709551615).2.1) (acc++[XZ (qB bs 18446744073709551615).1])
    rw[qG] at this;omega
theorem bM {α:Type}(d:RS→α×RS):∀(k:Nat) (s:RS×List α),(xh d k s).2.length=s.2.length+k
 |0,s=>rfl
 |k+1,s=>by rw[yw,bM d k];simp;omega
theorem bQ {α:Type}{d:RS→α×RS}{p:α→Prop}(h:∀s,p (d s).1):∀(k:Nat) (s:RS×List α),(∀x∈s.2,p x)→∀x∈(xh d k s).2,p x
 |0,s,hs=>hs
 |k+1,s,hs=>by
  rw[yw];refine bQ h k _ λx hx=> ?_
  rcases jy.1 hx with hx|hx
  ·exact hs x hx
  ·rw[ji.1 hx];exact h _
theorem dz {α:Type}(b:Bool)(m:Nat){d:RS→α×RS}{p:α→Prop}(h:∀s,p (d s).1)(s:RS):(xS b [] (fh m d) s).1.length≤m∧∀x∈(xS b [] (fh m d) s).1,p x:=by
 cases b with
 |false=>exact ⟨jw _,λ_ hx=>by cases hx⟩
 |true=>
  refine ⟨?_,bQ h _ _ λ_ hx=>by cases hx⟩
  show (xh d (vx m s).1 ((vx m s).2,[])).2.length≤m
  rw[bM];have:=(wd m s).1
  simpa using this
theorem jGv (s:RS):(0≤(XP s).1.kind∧(XP s).1.kind≤255)∧(XP s).1.parts.length≤4∧((XP s).1.ops.length≤16∧∀o∈(XP s).1.ops,o.2.length≤8)∧(XP s).1.vec.length≤8∧(XP s).1.hits.length≤16∧∀h∈(XP s).1.hits,h.2.2.length≤8:=by
 have hv:∀s,(xY 8 s).1.length≤8:=λs=>by
  unfold xY
  split
  ·exact jw _
  ·split
   ·exact jw _
   ·next h3=>
    have h8:=(yX (Decidable.not_not.1 h3)).2;have:=fZ (qB s.bs 8).1 (s.bs.drop (qB s.bs 8).2.1) [];dsimp only
    split
    ·exact jw _
    ·exact ke this (by rw[j7];omega)
 have hk:=(wd 255 s).1;have hO:=dz (qC (vx 255 s).1 12) 16 (d:=tY) (p:=λo=>o.2.length≤8) (λs=>hv _);have hH:=dz (qC (vx 255 s).1 14) 16 (d:=jAo) (p:=λo=>o.2.2.length≤8) (λs=>hv _);refine ⟨⟨kQ _,by show ((vx 255 s).1:Int)≤255;omega⟩,(dz (qC (vx 255 s).1 11) 4 (d:=xz 16) (p:=λ_=>True) (λ_=>trivial) _).1,hO _,?_,(hH _).1,(hH _).2⟩
 show (xS (qC (vx 255 s).1 13) [] (xY 8) _).1.length≤8
 cases qC (vx 255 s).1 13 with
 |false=>exact jw _
 |true=>exact hv _
theorem OkN.dc {n:NV}{s:RS}(h:n.abs=(XP s).1):OkN n∧0≤n.kind∧n.kind≤255:=by
 obtain ⟨h1,h2,⟨h3,h4⟩,h5,h6,h7⟩:=jGv s;rw[←h] at h1 h2 h3 h4 h5 h6 h7;have h3:(n.ops.map OV.abs).length≤16:=h3;have h6:(n.hits.map HV.abs).length≤16:=h6;rw[jf] at h3 h6;have h2:n.parts.length≤4:=h2;have h5:n.vec.length≤8:=h5;refine ⟨⟨by omega,by omega,λo ho=> ?_,by omega,by omega,λo ho=> ?_⟩,h1⟩
 ·have:o.vec.length≤8:=h4 o.abs (jA ho)
  omega
 ·have:o.vec.length≤8:=h7 o.abs (jA (f:=HV.abs) ho)
  omega
def tf (p:List UInt8):Int:=if mT p≠0 then mT p else if ZF p=none then 4 else 0
def jIC (M:OM)(L0:HL)(bs:List UInt8)(v:Value)(L':HL):Prop:=∃n:NV,∃M',v=.tuple #[n.val,.int .i64 (tf bs)]∧n.abs=(ZF bs).getD NA.zero∧xN M' n∧OkN n∧qV M M'∧L'=qp M'::L0
theorem nj {p:List UInt8}:mT p=0↔JD p=0∧ZM p=[]:=by
 unfold mT
 by_cases h:JD p=0
 ·rw[ja (by simp[h])]
  by_cases hr:ZM p=[]
  ·rw[jb hr];simp[h,hr]
  ·rw[ja hr];simp[h,hr]
 ·rw[jb h];simp[h]
theorem jCd (p:List UInt8):(V8 p).length≤p.length:=by
 unfold V8;rw[jP,jE];omega
theorem bJ :∀(cs:List (Bool×Nat)) (xs:List Int),V9 cs xs→∀(i:Nat) (c:Bool×Nat),cs[i]? =some c→0≤xs.getD i 0∧xs.getD i 0≤c.2
 | [],_,_,i,c,h=>by cases h
 |c::cs,[],hk,i,d,h=>hk.elim
 |c::cs,x::xs,hk,0,d,h=>by
  have e:c=d:=by simpa using h
  subst e;have h1:=hk.1
  show 0≤x∧x≤c.2
  split at h1
  ·exact h1
  ·omega
 |c::cs,x::xs,hk,i+1,d,h=>bJ cs xs hk.2 i d h
theorem ifL {α:Type}{b:Bool}{l:List α}{p:Prop}{q:α→Prop}(h:if b=true then p∧∀x∈l,q x else l=[]):∀x∈l,q x:=by
 split at h
 ·exact h.2
 ·rw[h];exact λ_ hx=>by cases hx
theorem jFa {p:List UInt8}{n:NA}(h:ZF p=some n):qn n=true∧wg n:=by
 unfold ZF at h
 split at h
 case isFalse=>cases h
 rename_i hc;obtain ⟨_,_,hb,_,hr⟩:=hc;have e:=Option.some.inj h;subst e;refine ⟨hr,?_⟩;generalize (⟨V8 p,0,true⟩:RS)=s at*;have hk:=(wd 255 s).1;unfold XP at hb ⊢;dsimp only at hb ⊢;generalize vx 255 s=x at*;obtain ⟨k,s1⟩:=x;dsimp only at*;obtain ⟨_,_,hB⟩:=(Ze k).inv s1 hb;generalize (Xp k s1).1=t at*;obtain ⟨ns,ps,os,v,hs⟩:=t;obtain ⟨b1,b2,b3,b4,b5⟩:=hB;dsimp only at b1 b2 b3 b4 b5;have g:=λi m (h:(zH k)[i]? =some (qC k i,m))=>bJ _ _ b1 i _ h
 have g0:=g 0 _ rfl;have g1:=g 1 _ rfl;have g2:=g 2 _ rfl;have g3:=g 3 _ rfl;have g4:=g 4 _ rfl;have g5:=g 5 _ rfl;have g6:=g 6 _ rfl;have g7:=g 7 _ rfl;have g8:=g 8 _ rfl;have g9:=g 9 _ rfl;have g10:=g 10 _ rfl;dsimp only at g0 g1 g2 g3 g4 g5 g6 g7 g8 g9 g10;unfold mkN;dsimp only;refine ⟨⟨?_,?_,?_,?_,?_,?_,?_,?_,?_,?_,?_,?_⟩,λo ho=>(ifL (q:=YL) b3 o ho).1.1,λo ho=> ?_⟩
 ·dsimp only;omega
 all_goals first|(dsimp only;omega)|skip
 have:=ifL (q:=Qn) b5 o ho;exact ⟨this.1.1,this.2.1.1,by have:=this.2.1.2;omega⟩
theorem Wq (a:OA)(c:Nat)(bs:List UInt8)(M:OM)(L0:HL)(h:qI M a bs.length 1 (bs.map B))(hc:bs.length≤c)(hT:zB M)(hB:xL M)(hb:bs.length≤10000000):
  qh kY 33 [.slice a bs.length c] (qp M::L0) (jIC M L0 bs):=by
 refine qg Tryz.func33 rfl rfl rfl ?_;refine Q.r ?_;(repeat (intro b1;refine Q.r ?_));refine S.cq (A:=qp M) rfl (pK a c bs M _ h hc hB zo) ?_;rintro _ _ ⟨v,M1,rfl,hv,hvo,hvc,hl1,rfl⟩
 by_cases h0:mT bs=0
 case neg=>
  have hn:ZF bs=none:=by
   unfold ZF;refine ja λh=>h0 (nj.2 ⟨h.1,h.2.1⟩)
  have hu:tf bs=mT bs:=jb h0;generalize mT bs=E at*;refine Q.r ?_;refine N.r2 (by apply RV.cellN;rfl;exact vi.row;rfl;exact RV.tmp rfl RV.nil) (L':=qp M1::L0) eG ⟨NA.zero.nv,M1,by rw[hu];rfl,by rw[hn];rfl,xN.nv _,OkN.nv _,hl1,rfl⟩
 rw[jb h0] at hv;have hvl:v.bs.length≤bs.length:=hv▸jCd bs;rw[h0];refine Q.r ?_;refine S.cr rfl (bA v.a v.c v.bs M1 _ _ hvo.rd zo) ?_;rintro _ _ ⟨r,a',M2,rfl,hl2,hs2,rfl⟩;have hT2:=hT.mono (hl1.trans hl2);refine Q.r ?_;refine S.cr rfl (pM r a' v.bs.length ⟨v.bs,0,true⟩ M2 _ ⟨hs2,jz _,by show v.bs.length≤_;omega⟩ hT2) ?_;rintro _ _ ⟨n,a3,c3,M3,rfl,hn,hno,hk3,hl3,rfl⟩;obtain ⟨hON,hnk⟩:=OkN.dc hn;have hun:ZF bs=if (XP ⟨v.bs,0,true⟩).2.bad=0∧(XP ⟨v.bs,0,true⟩).2.bs=[]∧qn (XP ⟨v.bs,0,true⟩).1=true then some (XP ⟨v.bs,0,true⟩).1 else none:=by
  rw[hv];unfold ZF;have:=nj.1 h0;simp only[this.1,this.2,true_and]
 generalize XP ⟨v.bs,0,true⟩=x at*;obtain ⟨xa,z⟩:=x;dsimp only at hn hk3 hun ⊢;subst hn;have hC0:tf bs=if ZF bs=none then 4 else 0:=by unfold tf;rw[ja (by simp[h0])]
 refine Q.r ?_;(repeat (intro b1;refine Q.r ?_));refine S.c1 (A:=rdS r a3 c3 z) rfl (bB r a3 c3 z.bs z.bad _) ?_;rintro _ _ ⟨rfl,rfl⟩;have hl13:=hl1.trans (hl2.trans hl3)
 by_cases he:Y7 z.bs z.bad=0
 ·have hz:z.bad=0∧z.bs=[]:=by
   unfold Y7 at he
   by_cases hb0:z.bad=0
   ·rw[ja (by simp[hb0])] at he
    refine ⟨hb0,?_⟩
    by_cases hl0:z.bs.length=0
    ·exact jO hl0
    ·rw[ja hl0] at he;cases he
   ·rw[jb hb0] at he;exact absurd he hb0
  rw[he];refine Q.r ?_;refine S.cr rfl (JL n _ hno.rd hON (hT.mono hl13).rd hnk) ?_;rintro _ _ ⟨rfl,rfl⟩
  cases hr:qn n.abs with
  |true=>
   have hu:ZF bs=some n.abs:=by rw[hun,jb ⟨hz.1,hz.2,hr⟩]
   have hc:tf bs=0:=by rw[hC0,ja (by rw[hu];simp)]
   refine Q.r ?_;refine N.r2 (by apply RV.cellN;rfl;exact vi.row;rfl;exact RV.tmp rfl RV.nil) (L':=qp M3::L0) eG ⟨n,M3,by rw[hc],by rw[hu];rfl,hno,hON,hl13,rfl⟩
  |false=>
   have hu:ZF bs=none:=by rw[hun,ja (by simp[hr])]
   have hc:tf bs=4:=by rw[hC0,jb hu]
   refine Q.r ?_;refine N.r2 (by apply RV.cellN;rfl;exact vi.row;rfl;exact RV.tmp rfl RV.nil) (L':=qp M3::L0) eG ⟨NA.zero.nv,M3,by rw[hc];rfl,by rw[hu];rfl,xN.nv _,OkN.nv _,hl13,rfl⟩
 ·have hu:ZF bs=none:=by
   rw[hun,ja];rintro ⟨q1,q2,_⟩;exact he (by unfold Y7;rw[q1,q2];rfl)
  have hc:tf bs=4:=by rw[hC0,jb hu]
  have he':decide (¬Y7 z.bs z.bad=0)=true:=jo he;generalize Y7 z.bs z.bad=E at*;refine Q.r ?_;refine N.r2 (by apply RV.cellN;rfl;exact vi.row;rfl;exact RV.tmp rfl RV.nil) (L':=qp M3::L0) eG ⟨NA.zero.nv,M3,by rw[hc];rfl,by rw[hu];rfl,xN.nv _,OkN.nv _,hl13,rfl⟩
abbrev Js (c:Nat):Value:=.pointer (some ⟨c,0,none⟩)
abbrev wM (c pj:Nat)(gv:Value)(q:Nat)(dn:Bool):HP:=pt c (cl [vQ pj,gv,qK q,.bool dn] 81)
theorem jHq (T:JZ)(rs:List (List UInt8)):(gB T rs).n=T.n:=by
 unfold gB
 split
 ·rfl
 ·split
  ·rfl
  ·split<;>rfl
theorem fy (c pj:Nat)(gv:Value)(q:Nat)(dn:Bool)(L:HL):qh kY 18 [Js c] (wM c pj gv q dn::L) (λr L'=>r=.bool (!dn)∧L'=wM c pj gv q dn::L):=by
 refine qg Tryz.func18 rfl rfl rfl ?_;refine Q.r ?_;exact N.t rfl (kZ _) ⟨rfl,rfl⟩
theorem Xw (c pj:Nat)(gv:Value)(q p:Nat)(dn:Bool)(T:JZ)(a:OA)(cc:Nat)(vs:List YB)(M:OM)(L:HL)(hF:jE3 T)(h:qI M a vs.length 1 (vs.flatMap YB.cells))(hok:JV M vs)(hB:xL M)(hvl:vs.length≤1000)(hb:∀v∈vs,v.bs.length≤100000):
  qh kY 80 [Js c,.slice a vs.length cc] (yU p q T M (wM c pj gv q dn::L)) (λr L'=>r=.int .i64 (Ju T (vs.map YB.bs))∧∃M',qV M M'∧L'=yU p q (yM T (vs.map YB.bs)) M' (wM c pj gv q dn::L)):=by
 refine qg Tryz.func80 rfl rfl rfl ?_;refine Q.r ?_;refine S.cr rfl (jAW p q T a cc vs M _ hF.n hF.k hF.f h hok hB hvl hb) ?_;rintro _ _ ⟨rfl,M1,hl1,rfl⟩;have hn:=jHq T (vs.map YB.bs);unfold Ju yM
 by_cases h0:mR T (vs.map YB.bs)=0
 ·rw[ja (by simp[h0]),ja (by simp[h0]),h0]
  generalize gB T (vs.map YB.bs)=T1 at*;refine Q.r ?_;refine S.cr rfl (p0 p q T1 M1 _ (by have:=hF.n;omega)) ?_;rintro _ _ ⟨rfl,M2,hl2,rfl⟩;refine Q.r ?_;exact N.t rfl (kZ _) ⟨rfl,M2,hl1.trans hl2,rfl⟩
 ·rw[jb h0,jb h0]
  generalize gB T (vs.map YB.bs)=T1 at*;have h0':decide (¬mR T (vs.map YB.bs)=0)=true:=jo h0;generalize mR T (vs.map YB.bs)=E at*;refine Q.r ?_;exact N.t rfl (kZ _) ⟨rfl,M1,hl1,rfl⟩
theorem yG (c pj:Nat)(gv:Value)(q:Nat)(dn:Bool)(j:JG)(a:OA)(cc:Nat)(ns:List NV)(M:OM)(L:HL)(h:zp M a ns)(hu:∀n∈ns,xW n.abs∧OkN n)(hw:WN j)(hT:zB M)(hnl:ns.length≤1000000):
  qh kY 31 [Js c,.slice a ns.length cc] (wM c pj gv q dn::qD M pj j::qp M::L)
   (λr L'=>∃M',qV M M'∧L'=wM c pj gv q dn::qD M' pj (appL j (ns.map NV.abs))::qp M'::L):=by
 refine qg Tryz.func31 rfl rfl rfl ?_;refine Q.r ?_;refine ql (σ:=Nat×(OM)) (λs=> [(0,Js c),(6,.slice a ns.length cc),(7,.int .i64 ns.length),(8,.int .i64 s.1)])
  (λs=>wM c pj gv q dn::qD s.2 pj (appL j ((ns.take s.1).map NV.abs))::qp s.2::L)
  (λs=>s.1≤ns.length∧qV M s.2) (λs=>ns.length - s.1) (0,M) zt (kZ _) ⟨jw _,qV.refl M⟩ ?_
 rintro ⟨k,M1⟩ ⟨hk,hl1⟩;dsimp only at hk hl1 ⊢
 by_cases hlt:k<ns.length
 ·obtain ⟨n,hq⟩:=qx hlt
  have hm:=jn hq;obtain ⟨b,oo,hia,cr⟩:=qI.cm (g:=NV.cells) (λ_=>rfl) (h.1.mono hl1) hq rfl;have hok:=Yh (j:=j) (l:=(ns.take k).map NV.abs) hw (λr hr=>by obtain ⟨w,hw,rfl⟩:=jM.1 hr;exact (hu w (List.mem_of_mem_take hw)).1);have hnx:appL j ((ns.take (k+1)).map NV.abs)=ve (appL j ((ns.take k).map NV.abs)) n.abs:=by
   rw[qA hq,jq];unfold appL;rw[List.foldl_append];rfl
  generalize appL j ((ns.take k).map NV.abs)=j1 at hok hnx ⊢;obtain ⟨ho1,ho2,ho3,_⟩:=hok;have hua:=(hu n hm).1;rw[hia];refine Q.r ?_;(repeat (intro b1;refine Q.r ?_));refine Q.dgo [true,true,false,false] [5] [] [0,1,2,3,4,5] ?_;refine Q.rd ?_;refine D.e rfl rfl rfl ?_;refine S.cg pj (args:=[vQ pj,n.val]) rfl (JN n M1 pj j1 _ ho1.g ((h.2 n hm).mono hl1) (hu n hm).2 (hT.mono hl1) hua.nv (by have:=hua.txn.2;show n.abs.txn<_;omega)) ?_;rintro _ _ ⟨M2,rfl,hl2,rfl⟩;refine Q.r ?_;refine Q.rd ?_;refine Q.r ?_;rw[←hia];refine ⟨(k+1,M2),zt,?_,⟨by dsimp only;omega,hl1.trans hl2⟩,by dsimp only;omega⟩;dsimp only;rw[hnx];exact eG
 ·have hke:k=ns.length:=by omega
  subst hke;rw[jI];refine Q.r ?_;refine N.n0 RV.nil (kZ _) ?_;exact ⟨M1,hl1,rfl⟩
def vO (l:List NA):List (List UInt8):=l.map qz
theorem wC {n:NA}(h:qn n=true)(u:wg n):0<(qz n).length∧(qz n).length≤4102:=by
 have h1:=Jl (xO h u) u;have h2:(frB (yi n)).length=6+(yi n).length:=yN _;unfold qz;omega
def jG3 (c pj:Nat)(gv:Value)(q p:Nat)(dn:Bool)(T:JZ)(j:JG)(ps:List (List UInt8))(M:OM)(L:HL)(r:Value)(L':HL):Prop:=
 r=.int .i64 (Qw T (qu j) ps)∧∃M',qV M M'∧L'=yU p q (JW T (qu j) ps) M' (wM c pj gv q (dn||(JW T (qu j) ps).br)::qD M' pj j::L)
theorem QH (c pj:Nat)(gv:Value)(q p:Nat)(dn:Bool)(T:JZ)(j:JG)(a:OA)(cc:Nat)(ns:List NV)(M:OM)(L:HL)(h:zp M a ns)(hu:∀n∈ns,qn n.abs=true∧wg n.abs)(hT:zB M)(hB:xL M)(hW:jE0 T (qu j) (vO (ns.map NV.abs)))(hpb:PB j)(htl:j.tr.length≤100000)(hdl:j.done.length≤100000)(hpl:(qu j).length≤1048575)(hnl:ns.length≤1000):
  qh kY 30 [Js c,.slice a ns.length cc] (yU p q T M (wM c pj gv q dn::qD M pj j::L)) (jG3 c pj gv q p dn T j (vO (ns.map NV.abs)) M L):=by
 refine qg Tryz.func30 rfl rfl rfl ?_;refine Q.r ?_;refine qw (σ:=OA×Nat×List YB×(OM)) (λs=> [(0,Js c),(5,.slice s.1 s.2.2.1.length s.2.1)])
  (λs=>slO 34 1 s.1 s.2.2.1.length s.2.1 (s.2.2.1.flatMap YB.cells)::yU p q T s.2.2.2 (wM c pj gv q dn::qD M pj j::L)) (λs=>s.2.2.1.map YB.bs=vO (ns.map NV.abs)∧JV s.2.2.2 s.2.2.1∧qV M s.2.2.2) ?_ ?_
 ·refine ql (σ:=Nat×OA×Nat×List YB×(OM)) (λs=> [(0,Js c),(11,.slice a ns.length cc),(12,.int .i64 ns.length),(5,.slice s.2.1 s.2.2.2.1.length s.2.2.1),(13,.int .i64 s.1)])
   (λs=>slO 34 1 s.2.1 s.2.2.2.1.length s.2.2.1 (s.2.2.2.1.flatMap YB.cells)::yU p q T s.2.2.2.2 (wM c pj gv q dn::qD M pj j::L)) (λs=>s.1≤ns.length∧s.2.2.2.1.map YB.bs=vO ((ns.take s.1).map NV.abs)∧JV s.2.2.2.2 s.2.2.2.1∧qV M s.2.2.2.2) (λs=>ns.length - s.1) (0,none,0,[],M) zt vj ⟨jw _,by simp[vO],(λv hv=>by cases hv),qV.refl _⟩ ?_
  rintro ⟨k,a1,c1,vs,M1⟩ ⟨hk,hvs,hok,hl1⟩;dsimp only at hk hvs hok hl1 ⊢;have hvl:vs.length=k:=by
   have:=jj List.length hvs;unfold vO at this;rw[jf,jf,jf,jP] at this;omega
  by_cases hlt:k<ns.length
  ·obtain ⟨n,hq⟩:=qx hlt
   have hm:=jn hq;obtain ⟨b,oo,hia,cr⟩:=qI.cm (g:=NV.cells) (λ_=>rfl) (h.1.mono hl1) hq rfl;obtain ⟨hR,hX⟩:=hu n hm;rw[hia];refine Q.r ?_;(repeat (intro b1;refine Q.r ?_));refine S.cq (A:=qp M1) (args:=[n.val]) rfl (Zo n M1 _ ((h.2 n hm).mono hl1) (OkN.right hR) (hT.mono hl1) (hB.mono hl1) hX) ?_;rintro _ _ ⟨v,M2,rfl,hv,hvo,hvc,hl2,rfl⟩;rw[jb hR] at hv;rw[jb hR];refine Q.r ?_;(repeat (intro b1;refine Q.r ?_));refine S.app rfl rfl (vG.sl vi.row zr zr) zr zo zo (λa7 c7=> ?_);refine Q.r ?_;rw[←hia];refine ⟨(k+1,a7,c7,vs++[v],M2),⟨rfl,rfl,rfl,jj some (by simp[jU]),rfl,trivial⟩,?_,⟨hlt,?_,λw hw=> ?_,hl1.trans hl2⟩,jr ns.length k hlt⟩
   ·dsimp only
    rw[qG,vK];exact eG
   ·dsimp only
    rw[qA hq,jq,jq,hvs];unfold vO;rw[jq]
    show _++[v.bs]=_
    rw[hv];rfl
   ·rcases jy.1 hw with hw|hw
    ·exact ⟨(hok w hw).1.mono hl2,(hok w hw).2⟩
    ·rw[ji.1 hw];exact ⟨hvo,hvc⟩
  ·have hke:k=ns.length:=by omega
   subst hke;rw[jI] at hvs;refine Q.r ?_;exact ⟨(a1,c1,vs,M1),zt,by exact eG,hvs,hok,hl1⟩
 rintro ⟨a1,c1,vs,M1⟩ ⟨hvs,hok,hl1⟩;dsimp only at hvs hok hl1 ⊢;refine wF a1 (λM3 hl3 hs3=> ?_);have hvl:vs.length=ns.length:=by
  have:=jj List.length hvs;unfold vO at this;rw[jf,jf,jf] at this;exact this
 have hvb:∀v∈vs,v.bs.length≤100000:=λv hv=>by
  have:v.bs∈vO (ns.map NV.abs):=by rw[←hvs];exact jA hv
  unfold vO at this;obtain ⟨n,hn,e⟩:=jM.1 this;obtain ⟨w,hw,rfl⟩:=jM.1 hn;have:=(wC (hu w hw).1 (hu w hw).2).2;rw[←e];omega
 refine nB pj (hl1.trans hl3) ?_;rw[←hvs] at hW ⊢;unfold jG3;refine Q.r ?_;refine qo (L':=yU p q T M3 (wM c pj gv q dn::qD M3 pj j::L)) eG ?_;refine S.cr rfl (Xw c pj gv q p dn T a1 c1 vs M3 _ hW.a hs3 (λv hv=>⟨(hok v hv).1.mono hl3,(hok v hv).2⟩) (hB.mono (hl1.trans hl3)) zo hvb) ?_;rintro _ _ ⟨rfl,M4,hl4,rfl⟩;refine vH pj hl4 ?_;have hl04:=hl1.trans (hl3.trans hl4);generalize hps:List.map YB.bs vs=ps at hW ⊢
 by_cases h8:Ju T ps=8
 case neg=>
  obtain ⟨w1,w2⟩:=jC0 (s:=qu j) h8;rw[w1,w2];have h8':decide (Ju T ps=8)=false:=jv h8;generalize yM T ps=T1 at*;generalize Ju T ps=E at*
  cases dn with
  |true=>
   refine Q.r ?_;exact N.t rfl (L':=yU p q (T1) M4 (wM c pj gv q true::qD M4 pj j::L)) eG ⟨rfl,M4,hl04,rfl⟩
  |false=>
   refine Q.r ?_;refine S.c1 (A:=zl q p (T1).n (T1).k (T1).br) rfl (zE q p _ _ _ _) ?_;rintro _ _ ⟨rfl,rfl⟩;refine Q.r ?_;exact N.t rfl (L':=yU p q (T1) M4 (wM c pj gv q (T1).br::qD M4 pj j::L)) eG ⟨rfl,M4,hl04,rfl⟩
 have hSv:=hW.b h8;have hFc:=hW.c h8;have hcno:=jFz (T:=T) (s:=qu j) h8;have hcok:=jFA (T:=T) (s:=qu j) h8;rw[h8];generalize yM T ps=T1 at*;refine Q.r ?_;refine Q.dgo [false,false,false,false,true] [8,9] [] [0,1,2,3,4,5,6,7,8,9,10] ?_;refine Q.rd ?_;refine D.e rfl rfl rfl ?_;refine S.cg pj rfl (zD M4 pj j _ hpb htl hdl) ?_;rintro _ _ ⟨a8,c8,M5,rfl,hl5,rfl⟩;refine zm a8 (λhc8=> ?_);refine qR a8 (λM6 hl6 hs6=> ?_);refine vH pj hl6 ?_;refine Q.r ?_;refine Q.rd ?_;refine D.e rfl rfl rfl ?_;refine qo (L':=yU p q T1 M6 (qD M6 pj j::L)) eG ?_;refine S.cr rfl (WY p q T1 a8 c8 (qu j) M6 _ hSv.n hSv.key hSv.f hs6 (hB.mono (hl04.trans (hl5.trans hl6))) hc8 hpl hSv.no hSv.old) ?_;rintro _ _ ⟨rfl,M7,hl7,rfl⟩;refine vH pj hl7 ?_;have hl07:=hl04.trans (hl5.trans (hl6.trans hl7));refine Q.r ?_;refine Q.rd ?_
 by_cases hse:J9 T1 (qu j)=0
 case neg=>
  obtain ⟨w1,w2⟩:=hcno hse;rw[w1,w2];have hse':decide (J9 T1 (qu j)=0)=false:=jv hse;generalize yZ T1 (qu j)=T2 at*;generalize J9 T1 (qu j)=E at*
  cases dn with
  |true=>
   refine Q.r ?_;exact N.t rfl (L':=yU p q (T2) M7 (wM c pj gv q true::qD M7 pj j::L)) eG ⟨rfl,M7,hl07,rfl⟩
  |false=>
   refine Q.r ?_;refine S.c1 (A:=zl q p (T2).n (T2).k (T2).br) rfl (zE q p _ _ _ _) ?_;rintro _ _ ⟨rfl,rfl⟩;refine Q.r ?_;exact N.t rfl (L':=yU p q (T2) M7 (wM c pj gv q (T2).br::qD M7 pj j::L)) eG ⟨rfl,M7,hl07,rfl⟩
 obtain ⟨w1,w2⟩:=hcok hse;rw[w1,w2];have hF2:=hFc hse;rw[hse];generalize yZ T1 (qu j)=T2 at*;refine Q.r ?_;refine qo (L':=yU p q T2 M7 (wM c pj gv q dn::qD M7 pj j::L)) eG ?_;rw[←hps];refine S.cr rfl (Xw c pj gv q p dn T2 a1 c1 vs M7 _ hF2 (hs3.mono (hl4.trans (hl5.trans (hl6.trans hl7)))) (λv hv=>⟨(hok v hv).1.mono (hl3.trans (hl4.trans (hl5.trans (hl6.trans hl7)))),(hok v hv).2⟩) (hB.mono hl07) zo hvb) ?_;rintro _ _ ⟨rfl,M8,hl8,rfl⟩;refine vH pj hl8 ?_;have hl08:=hl07.trans hl8;generalize yM T2 (List.map YB.bs vs)=T3 at*;generalize Ju T2 (List.map YB.bs vs)=E at*
 cases dn with
 |true=>
  refine Q.r ?_;exact N.t rfl (L':=yU p q (T3) M8 (wM c pj gv q true::qD M8 pj j::L)) eG ⟨rfl,M8,hl08,rfl⟩
 |false=>
  refine Q.r ?_;refine S.c1 (A:=zl q p (T3).n (T3).k (T3).br) rfl (zE q p _ _ _ _) ?_;rintro _ _ ⟨rfl,rfl⟩;refine Q.r ?_;exact N.t rfl (L':=yU p q (T3) M8 (wM c pj gv q (T3).br::qD M8 pj j::L)) eG ⟨rfl,M8,hl08,rfl⟩
structure mC where
 to:Int
 y:YB
abbrev mC.cells (l:mC):List Value:=[.int .i64 0,.int .i64 l.to,.slice l.y.a l.y.bs.length l.y.c]
def KY (ms:List (Int×NA)):List (Int×List UInt8):=(ms.filter λm=>qn m.2).map λm=>(m.1,qz m.2)
def jF7 (M:OM)(a:OA)(ls:List mC):Prop:=qI M a ls.length 3 (ls.flatMap mC.cells)∧∀l∈ls,wq M l.y∧l.y.bs.length≤l.y.c
abbrev jCw (l:mC):Int×List UInt8:=(l.to,l.y.bs)
def jIF (c pj:Nat)(gv:Value)(q:Nat)(dn:Bool)(ms:List (Int×NA))(M:OM)(L:HL)(r:Value)(L':HL):Prop:=
 ∃(a:OA) (cc:Nat) (ls:List mC) (M':OM),r=.slice a ls.length cc∧ls.map jCw=(if dn=true then [] else KY ms)∧jF7 M' a ls∧qV M M'∧L'=wM c pj gv q dn::qp M'::L
abbrev KR (m:Int×NV):Int×NA:=(m.1,m.2.abs)
theorem jAh (ms:List (Int×NA))(m:Int×NA):KY (ms++[m])=KY ms++(if qn m.2=true then [(m.1,qz m.2)] else []):=by
 unfold KY;rw[jU,jq]
 cases h:qn m.2<;>simp[h]
theorem jCs (ms:List (Int×NA)):(KY ms).length≤ms.length:=by
 unfold KY;rw[jf];exact kw _ _
theorem Vp (c pj:Nat)(gv:Value)(q:Nat)(dn:Bool)(a:OA)(cc:Nat)(ms:List (Int×NV))(M:OM)(L:HL)(h:KI M a ms)(hu:∀m∈ms,OkN m.2∧wg m.2.abs)(hT:zB M)(hB:xL M)(hnl:ms.length≤1000000):
  qh kY 34 [Js c,.slice a ms.length cc] (wM c pj gv q dn::qp M::L) (jIF c pj gv q dn (ms.map KR) M L):=by
 refine qg Tryz.func34 rfl rfl rfl ?_;refine Q.r ?_;refine S.c1 (A:=wM c pj gv q dn) rfl (fy c pj gv q dn _) ?_;rintro _ _ ⟨rfl,rfl⟩
 cases dn with
 |true=>
  refine Q.r ?_;exact N.t rfl (L':=wM c pj gv q true::qp M::L) eG ⟨none,0,[],M,rfl,rfl,⟨qI.nil,λ_ h=>by cases h⟩,qV.refl _,rfl⟩
 |false=>
  refine Q.r ?_;refine qw (σ:=OA×Nat×List mC×(OM)) (λs=> [(5,.slice s.1 s.2.2.1.length s.2.1)])
   (λs=>slO 47 3 s.1 s.2.2.1.length s.2.1 (s.2.2.1.flatMap mC.cells)::wM c pj gv q false::qp s.2.2.2::L) (λs=>s.2.2.1.map jCw=KY (ms.map KR)∧(∀l∈s.2.2.1,wq s.2.2.2 l.y∧l.y.bs.length≤l.y.c)∧qV M s.2.2.2) ?_ ?_
  ·refine ql (σ:=Nat×OA×Nat×List mC×(OM)) (λs=> [(13,.slice a ms.length cc),(14,.int .i64 ms.length),(5,.slice s.2.1 s.2.2.2.1.length s.2.2.1),(15,.int .i64 s.1)])
    (λs=>slO 47 3 s.2.1 s.2.2.2.1.length s.2.2.1 (s.2.2.2.1.flatMap mC.cells)::wM c pj gv q false::qp s.2.2.2.2::L) (λs=>s.1≤ms.length∧s.2.2.2.1.map jCw=KY ((ms.take s.1).map KR)∧(∀l∈s.2.2.2.1,wq s.2.2.2.2 l.y∧l.y.bs.length≤l.y.c)∧qV M s.2.2.2.2) (λs=>ms.length - s.1) (0,none,0,[],M) zt vj ⟨jw _,by simp[KY],(λv hv=>by cases hv),qV.refl _⟩ ?_
   rintro ⟨k,a1,c1,ls,M1⟩ ⟨hk,hls,hok,hl1⟩;dsimp only at hk hls hok hl1 ⊢;have hll:ls.length≤1000000:=by
    have h1:=jj List.length hls;have h2:=jCs ((ms.take k).map KR);rw[jf] at h1;rw[jf,jP] at h2;omega
   by_cases hlt:k<ms.length
   ·obtain ⟨m,hq⟩:=qx hlt
    have hm:=jn hq;obtain ⟨b,oo,hia,cr⟩:=qI.cm (g:=vA) (λ_=>rfl) (h.1.mono hl1) hq rfl;obtain ⟨hN,hX⟩:=hu m hm;have hnx:KY ((ms.take (k+1)).map KR)=KY ((ms.take k).map KR)++(if qn m.2.abs=true then [(m.1,qz m.2.abs)] else []):=by
     rw[qA hq,jq];exact jAh _ _
    obtain ⟨to,n⟩:=m;dsimp only at hN hX hnx;rw[hia];refine Q.r ?_;(repeat (intro b1;refine Q.r ?_));refine S.cq (A:=qp M1) (args:=[n.val]) rfl (Zo n M1 _ ((h.2 (to,n) hm).mono hl1) hN (hT.mono hl1) (hB.mono hl1) hX) ?_;rintro _ _ ⟨v,M2,rfl,hv,hvo,hvc,hl2,rfl⟩
    cases hR:qn n.abs with
    |true=>
     rw[jb hR] at hv;rw[jb hR] at hnx;rw[jb rfl];refine Q.r ?_;(repeat (intro b1;refine Q.r ?_));refine S.app rfl rfl (vG.sl vi.row zr zr) zr zo zo (λa7 c7=> ?_);refine Q.r ?_;rw[←hia];refine ⟨(k+1,a7,c7,ls++[⟨to,v⟩],M2),⟨rfl,rfl,jj some (by simp[jU]),rfl,trivial⟩,?_,⟨hlt,?_,λw hw=> ?_,hl1.trans hl2⟩,jr ms.length k hlt⟩
     ·dsimp only
      rw[qG,vK];exact eG
     ·dsimp only
      rw[hnx,jq,hls]
      show _++[(to,v.bs)]=_
      rw[hv]
     ·rcases jy.1 hw with hw|hw
      ·exact ⟨(hok w hw).1.mono hl2,(hok w hw).2⟩
      ·rw[ji.1 hw];exact ⟨hvo,hvc⟩
    |false=>
     rw[ja (by rw[hR];decide),jG] at hnx;rw[ja zd];refine Q.r ?_;rw[←hia];exact ⟨(k+1,a1,c1,ls,M2),zt,by exact eG,⟨hlt,by dsimp only;rw[hnx];exact hls,λw hw=>⟨(hok w hw).1.mono hl2,(hok w hw).2⟩,hl1.trans hl2⟩,jr ms.length k hlt⟩
   ·have hke:k=ms.length:=by omega
    subst hke;rw[jI] at hls;refine Q.r ?_;exact ⟨(a1,c1,ls,M1),zt,by exact eG,hls,hok,hl1⟩
  rintro ⟨a1,c1,ls,M1⟩ ⟨hls,hok,hl1⟩;dsimp only at hls hok hl1 ⊢;refine wF a1 (λM3 hl3 hs3=> ?_);refine Q.r ?_;exact N.t rfl (L':=wM c pj gv q false::qp M3::L) eG ⟨a1,c1,ls,M3,rfl,hls,⟨hs3,λl hl=>⟨(hok l hl).1.mono hl3,(hok l hl).2⟩⟩,hl1.trans hl3,rfl⟩
abbrev vT (g:Nat):Value:=.pointer (some ⟨g,0,none⟩)
abbrev VG (g:Nat)(s d l:Int):HP:=pt g (cl [.int .i64 s,.int .i64 d,.int .u64 l,.slice none 0 0] 169)
theorem Zt (s d l:Int)(L:HL)(s1:1≤s)(s2:s≤4)(h1:1≤d)(h2:d≤8):
  qh kY 32 [.int .i64 s,.int .i64 d,.int .u64 l] L (λr L'=>∃g,r=.tuple #[vT g,.int .i64 0]∧L'=VG g s d l::L):=by
 refine qg Tryz.func32 rfl rfl rfl ?_;refine Q.r ?_;(repeat (intro b1;refine Q.r ?_));exact N.u rfl rfl (kZ _) ⟨_,rfl,rfl⟩
theorem mF (g:Nat)(s d l:Int)(L:HL):
  qh kY 51 [vT g] (VG g s d l::L) (λr L'=>r=.slice none 0 0∧L'=VG g s d l::L):=by
 refine qg Tryz.func51 rfl rfl rfl ?_;refine Q.r ?_;refine ql (σ:=Unit) (λ_=> [(11,.slice none 0 0),(12,.int .i64 (0:Nat)),(3,.slice none 0 0),(13,.int .i64 0)]) (λ_=>VG g s d l::L) (λ_=>True) (λ_=>0) () zt eG trivial ?_;rintro _ _;have h0:¬(0:Int)<(0:Nat):=by omega
 refine Q.r ?_;exact N.t rfl (L':=VG g s d l::L) eG ⟨rfl,rfl⟩
def doF (T:JZ)(j:JG)(pl:PG):Prop:=pl.rec_≠[]∧Qw T (qu j) (vO pl.rec_)≠0
def zP (T:JZ)(j:JG)(pl:PG):JZ:=if pl.rec_=[] then T else JW T (qu j) (vO pl.rec_)
def XN (j:JG)(pl:PG):JG:=appL (appL j pl.rec_) pl.notes
def ff (T:JZ)(j:JG)(dn:Bool)(pl:PG):Bool:=if pl.rec_=[] then dn else dn||(JW T (qu j) (vO pl.rec_)).br
structure DoK (T:JZ)(j:JG)(pl:PG):Prop where
 w:WN j
 tl:j.tr.length≤1000
 dl:j.done.length≤50000
 nr:∀n∈pl.rec_,qn n=true∧wg n
 nn:∀n∈pl.notes,qn n=true∧wg n
 ni:∀n∈pl.inst,qn n=true∧wg n
 lr:pl.rec_.length≤1000
 ln:pl.notes.length≤1000
 li:pl.inst.length≤1000
 wr:pl.rec_≠[]→jE0 T (qu j) (vO pl.rec_)
 k1:(qu j).length≤1048575
 sv:¬doF T j pl→24≤(zP T j pl).k→jGO (zP T j pl)∧(qu (XN j pl)).length≤1048575
open Classical in
noncomputable def ZO (T:JZ)(j:JG)(pl:PG):JZ:=if doF T j pl then JW T (qu j) (vO pl.rec_) else if 24≤(zP T j pl).k then yZ (zP T j pl) (qu (XN j pl)) else zP T j pl
open Classical in
noncomputable def lL (T:JZ)(j:JG)(pl:PG):JG:=if doF T j pl then appL j pl.inst else XN j pl
open Classical in
noncomputable def cb (T:JZ)(j:JG)(dn:Bool)(pl:PG):Bool:=if doF T j pl then dn||(JW T (qu j) (vO pl.rec_)).br else if 24≤(zP T j pl).k then ff T j dn pl||(yZ (zP T j pl) (qu (XN j pl))).br else ff T j dn pl
open Classical in
noncomputable def doM (T:JZ)(j:JG)(pl:PG):List (Int×NA):=if doF T j pl then pl.els else pl.mail
def doR (c pj:Nat)(gv:Value)(q p:Nat)(T:JZ)(j:JG)(dn:Bool)(ms:List (Int×NA))(M:OM)(L:HL)(r:Value)(L':HL):Prop:=
 ∃(a:OA) (cc:Nat) (ns:List (Int×NV)) (M':OM),r=.slice a ns.length cc∧ns.map KR=ms∧KI M' a ns∧qV M M'∧L'=yU p q T M' (wM c pj gv q dn::qD M' pj j::L)
theorem sc {ns:List NV}{l:List NA}(e:ns.map NV.abs=l)(h:∀n∈l,qn n=true∧wg n):∀n∈ns,xW n.abs∧OkN n:=λn hn=>by
 have:=h n.abs (by rw[←e];exact jA hn);exact ⟨this.2.a,OkN.right this.1⟩
theorem WI {α β:Type}{f:α→β}{ns:List α}{l:List β}(e:ns.map f=l):ns.length=l.length:=by rw[←e,jf]
theorem jDF (c pj:Nat)(gv:Value)(q p:Nat)(dn:Bool)(T:JZ)(j:JG)(pl:PG)(M:OM)(L:HL)
  (a1:OA) (c1:Nat) (rs:List NV) (a2:OA) (c2:Nat) (ns:List NV) (a3:OA) (c3:Nat) (ms:List (Int×NV)) (a4:OA) (c4:Nat) (is:List NV) (a5:OA) (c5:Nat) (es:List (Int×NV))
  (o1:zp M a1 rs) (o2:zp M a2 ns) (o3:KI M a3 ms) (o4:zp M a4 is) (o5:KI M a5 es) (e1:rs.map NV.abs=pl.rec_) (e2:ns.map NV.abs=pl.notes) (e3:ms.map KR=pl.mail) (e4:is.map NV.abs=pl.inst) (e5:es.map KR=pl.els)
  (hT:zB M) (hB:xL M) (hK:DoK T j pl):
  qh kY 37 [Js c,.agg #[.slice a1 rs.length c1,.slice a2 ns.length c2,.slice a3 ms.length c3,.slice a4 is.length c4,.slice a5 es.length c5]] (yU p q T M (wM c pj gv q dn::qD M pj j::L))
   (doR c pj gv q p (ZO T j pl) (lL T j pl) (cb T j dn pl) (doM T j pl) M L):=by
 have l1:=WI e1;have l2:=WI e2;have l4:=WI e4;have hlr:=hK.lr;have hln:=hK.ln;have hli:=hK.li;have htl:=hK.tl;have hdl:=hK.dl;refine qg Tryz.func37 rfl rfl rfl ?_
 by_cases hrec:pl.rec_=[]
 ·have hF:¬doF T j pl:=λh=>h.1 hrec
  have hT1:zP T j pl=T:=jb hrec;have hN1:ff T j dn pl=dn:=jb hrec;have hJ1:XN j pl=appL j pl.notes:=by unfold XN;rw[hrec];rfl
  have hsv:=hK.sv hF;rw[hT1,hJ1] at hsv;have hYM:doM T j pl=pl.mail:=ja hF;have hYJ:lL T j pl=appL j pl.notes:=by unfold lL;rw[ja hF,hJ1]
  have hY1:24≤T.k→ZO T j pl=yZ T (qu (appL j pl.notes)):=λh=>by unfold ZO;rw[ja hF,hT1,jb h,hJ1]
  have hY2:24≤T.k→cb T j dn pl=(dn||(yZ T (qu (appL j pl.notes))).br):=λh=>by unfold cb;rw[ja hF,hT1,jb h,hJ1,hN1]
  have hY3:¬24≤T.k→ZO T j pl=T:=λh=>by unfold ZO;rw[ja hF,hT1,ja h]
  have hY4:¬24≤T.k→cb T j dn pl=dn:=λh=>by unfold cb;rw[ja hF,hT1,ja h,hN1]
  rw[hYM,hYJ];have hr0:rs.length=0:=by rw[l1,hrec];rfl
  have hok:WN j∧True:=⟨hK.w,trivial⟩;have hl0:=qV.refl M;refine Q.r ?_;(repeat (intro b1;refine Q.r ?_));revert b1;intro bp;refine qo (L':=wM c pj gv q dn::qD M pj j::qp M::zl q p T.n T.k T.br::qt p T.d::pt bp (cl [.slice a1 rs.length c1,.slice a2 ns.length c2,.slice a3 ms.length c3,.slice a4 is.length c4,.slice a5 es.length c5] 97)::L) eG ?_;refine S.cr rfl (yG c pj gv q dn j a2 c2 ns M _ (o2.mono hl0) (sc e2 hK.nn) hok.1 (hT.mono hl0) zo) ?_;rintro _ _ ⟨M5,hl5,rfl⟩;rw[e2];have hj2:=Yh (j:=j) (l:=pl.notes) hok.1 (λr hr=>(hK.nn r hr).2.a);have hl05:=hl0.trans hl5;generalize hJ2:appL j pl.notes=j2 at*;obtain ⟨h21,h22,h23,_⟩:=hj2;refine Q.r ?_;refine S.c1 (A:=zl q p T.n T.k T.br) rfl (Zy q p _ _ _ _) ?_;rintro _ _ ⟨rfl,rfl⟩
  by_cases h24:24≤T.k
  ·obtain ⟨hSv,hp2⟩:=hsv h24
   have h24':(24:Int)≤T.k:=by omega
   refine Q.r ?_;refine vh (L':=wM c pj gv q dn::qD M5 pj j2::qp M5::zl q p T.n T.k T.br::qt p T.d::pt bp (cl [.slice a1 rs.length c1,.slice a2 ns.length c2,.slice a3 ms.length c3,.slice a4 is.length c4,.slice a5 es.length c5] 97)::L) eG ?_;refine Q.dgo [true,false,false,false,false,false] [8,9] [] [0,1,2,3,4,5,6,7,8,9] ?_;refine Q.rd ?_;refine D.e rfl rfl rfl ?_;refine S.cg pj rfl (zD M5 pj j2 _ h21.pb zo zo) ?_;rintro _ _ ⟨a8,c8,M6,rfl,hl6,rfl⟩;refine zm a8 (λhc8=> ?_);refine qR a8 (λM7 hl7 hs7=> ?_);refine vH pj hl7 ?_;refine Q.r ?_;refine Q.rd ?_;refine D.e rfl rfl rfl ?_;refine qo (L':=yU p q T M7 (qD M7 pj j2::pt bp (cl [.slice a1 rs.length c1,.slice a2 ns.length c2,.slice a3 ms.length c3,.slice a4 is.length c4,.slice a5 es.length c5] 97)::L)) eG ?_;refine S.cr rfl (WY p q T a8 c8 (qu j2) M7 _ hSv.n hSv.key hSv.f hs7 (hB.mono (hl05.trans (hl6.trans hl7))) hc8 hp2 hSv.no hSv.old) ?_;rintro _ _ ⟨rfl,M8,hl8,rfl⟩;refine vH pj hl8 ?_;have hl08:=hl05.trans (hl6.trans (hl7.trans hl8));refine Q.r ?_;refine Q.rd ?_;rw[hY1 h24,hY2 h24];generalize yZ T (qu j2)=T3 at*
   cases dn with
   |true=>
    refine Q.r ?_;exact N.t rfl (L':=yU p q T3 M8 (wM c pj gv q true::qD M8 pj j2::L)) eG ⟨a3,c3,ms,M8,rfl,e3,o3.mono hl08,hl08,rfl⟩
   |false=>
    refine Q.r ?_;refine S.c1 (A:=zl q p T3.n T3.k T3.br) rfl (zE q p _ _ _ _) ?_;rintro _ _ ⟨rfl,rfl⟩;refine Q.r ?_;exact N.t rfl (L':=yU p q T3 M8 (wM c pj gv q T3.br::qD M8 pj j2::L)) eG ⟨a3,c3,ms,M8,rfl,e3,o3.mono hl08,hl08,by rw[jR]⟩
  ·have h24':¬(24:Int)≤T.k:=by omega
   rw[hY3 h24,hY4 h24];refine Q.r ?_;exact N.t rfl (L':=yU p q T M5 (wM c pj gv q dn::qD M5 pj j2::L)) eG ⟨a3,c3,ms,M5,rfl,e3,o3.mono hl05,hl05,rfl⟩
 ·have hr0:0<rs.length:=by rw[l1];exact kA.2 hrec
  have hW:=hK.wr hrec;have hu1:∀n∈rs,qn n.abs=true∧wg n.abs:=λn hn=>hK.nr n.abs (by rw[←e1];exact jA hn)
  refine Q.r ?_;(repeat (intro b1;refine Q.r ?_));revert b1;intro bp;refine qo (L':=yU p q T M (wM c pj gv q dn::qD M pj j::pt bp (cl [.slice a1 rs.length c1,.slice a2 ns.length c2,.slice a3 ms.length c3,.slice a4 is.length c4,.slice a5 es.length c5] 97)::L)) eG ?_;rw[←e1] at hW;refine S.cr rfl (QH c pj gv q p dn T j a1 c1 rs M _ o1 hu1 hT hB hW hK.w.pb zo zo hK.k1 zo) ?_;rintro _ _ ⟨rfl,M1,hl1,rfl⟩;rw[e1]
  by_cases hce:Qw T (qu j) (vO pl.rec_)=0
  ·have hF:¬doF T j pl:=λh=>h.2 hce
   have hT1:zP T j pl=JW T (qu j) (vO pl.rec_):=ja hrec;have hN1:ff T j dn pl=(dn||(JW T (qu j) (vO pl.rec_)).br):=ja hrec;have hsv:=hK.sv hF;have hYM:doM T j pl=pl.mail:=ja hF;have hYJ:lL T j pl=appL (appL j pl.rec_) pl.notes:=ja hF;have hY1:24≤(zP T j pl).k→ZO T j pl=yZ (zP T j pl) (qu (XN j pl)):=λh=>by unfold ZO;rw[ja hF,jb h]
   have hY2:24≤(zP T j pl).k→cb T j dn pl=(ff T j dn pl||(yZ (zP T j pl) (qu (XN j pl))).br):=λh=>by unfold cb;rw[ja hF,jb h]
   have hY3:¬24≤(zP T j pl).k→ZO T j pl=zP T j pl:=λh=>by unfold ZO;rw[ja hF,ja h]
   have hY4:¬24≤(zP T j pl).k→cb T j dn pl=ff T j dn pl:=λh=>by unfold cb;rw[ja hF,ja h]
   rw[hYM,hYJ];have hJ1:XN j pl=appL (appL j pl.rec_) pl.notes:=rfl;rw[hJ1] at hsv hY1 hY2;rw[hT1] at hsv hY1 hY2 hY3 hY4;rw[hN1] at hY2 hY4;rw[hce];generalize (dn||(JW T (qu j) (vO pl.rec_)).br)=d1 at*;generalize JW T (qu j) (vO pl.rec_)=T1 at*;refine Q.r ?_;refine qo (L':=wM c pj gv q d1::qD M1 pj j::qp M1::zl q p T1.n T1.k T1.br::qt p T1.d::pt bp (cl [.slice a1 rs.length c1,.slice a2 ns.length c2,.slice a3 ms.length c3,.slice a4 is.length c4,.slice a5 es.length c5] 97)::L) eG ?_;refine S.cr rfl (yG c pj gv q d1 j a1 c1 rs M1 _ (o1.mono hl1) (sc e1 hK.nr) hK.w (hT.mono hl1) zo) ?_;rintro _ _ ⟨M2,hl2,rfl⟩;rw[e1];have hj1:=Yh (j:=j) (l:=pl.rec_) hK.w (λr hr=>(hK.nr r hr).2.a);have hl02:=hl1.trans hl2;generalize appL j pl.rec_=j1 at*;obtain ⟨h11,h12,h13,_⟩:=hj1;have hok:WN j1∧True:=⟨h11,trivial⟩;refine Q.r ?_;refine qo (L':=wM c pj gv q d1::qD M2 pj j1::qp M2::zl q p T1.n T1.k T1.br::qt p T1.d::pt bp (cl [.slice a1 rs.length c1,.slice a2 ns.length c2,.slice a3 ms.length c3,.slice a4 is.length c4,.slice a5 es.length c5] 97)::L) eG ?_;refine S.cr rfl (yG c pj gv q d1 j1 a2 c2 ns M2 _ (o2.mono hl02) (sc e2 hK.nn) hok.1 (hT.mono hl02) zo) ?_;rintro _ _ ⟨M5,hl5,rfl⟩;rw[e2];have hj2:=Yh (j:=j1) (l:=pl.notes) hok.1 (λr hr=>(hK.nn r hr).2.a);have hl05:=hl02.trans hl5;generalize hJ2:appL j1 pl.notes=j2 at*;obtain ⟨h21,h22,h23,_⟩:=hj2;refine Q.r ?_;refine S.c1 (A:=zl q p T1.n T1.k T1.br) rfl (Zy q p _ _ _ _) ?_;rintro _ _ ⟨rfl,rfl⟩
   by_cases h24:24≤T1.k
   ·obtain ⟨hSv,hp2⟩:=hsv h24
    have h24':(24:Int)≤T1.k:=by omega
    refine Q.r ?_;refine vh (L':=wM c pj gv q d1::qD M5 pj j2::qp M5::zl q p T1.n T1.k T1.br::qt p T1.d::pt bp (cl [.slice a1 rs.length c1,.slice a2 ns.length c2,.slice a3 ms.length c3,.slice a4 is.length c4,.slice a5 es.length c5] 97)::L) eG ?_;refine Q.dgo [true,false,false,false,false,false] [8,9] [] [0,1,2,3,4,5,6,7,8,9] ?_;refine Q.rd ?_;refine D.e rfl rfl rfl ?_;refine S.cg pj rfl (zD M5 pj j2 _ h21.pb zo zo) ?_;rintro _ _ ⟨a8,c8,M6,rfl,hl6,rfl⟩;refine zm a8 (λhc8=> ?_);refine qR a8 (λM7 hl7 hs7=> ?_);refine vH pj hl7 ?_;refine Q.r ?_;refine Q.rd ?_;refine D.e rfl rfl rfl ?_;refine qo (L':=yU p q T1 M7 (qD M7 pj j2::pt bp (cl [.slice a1 rs.length c1,.slice a2 ns.length c2,.slice a3 ms.length c3,.slice a4 is.length c4,.slice a5 es.length c5] 97)::L)) eG ?_;refine S.cr rfl (WY p q T1 a8 c8 (qu j2) M7 _ hSv.n hSv.key hSv.f hs7 (hB.mono (hl05.trans (hl6.trans hl7))) hc8 hp2 hSv.no hSv.old) ?_;rintro _ _ ⟨rfl,M8,hl8,rfl⟩;refine vH pj hl8 ?_;have hl08:=hl05.trans (hl6.trans (hl7.trans hl8));refine Q.r ?_;refine Q.rd ?_;rw[hY1 h24,hY2 h24];generalize yZ T1 (qu j2)=T3 at*
    cases d1 with
    |true=>
     refine Q.r ?_;exact N.t rfl (L':=yU p q T3 M8 (wM c pj gv q true::qD M8 pj j2::L)) eG ⟨a3,c3,ms,M8,rfl,e3,o3.mono hl08,hl08,rfl⟩
    |false=>
     refine Q.r ?_;refine S.c1 (A:=zl q p T3.n T3.k T3.br) rfl (zE q p _ _ _ _) ?_;rintro _ _ ⟨rfl,rfl⟩;refine Q.r ?_;exact N.t rfl (L':=yU p q T3 M8 (wM c pj gv q T3.br::qD M8 pj j2::L)) eG ⟨a3,c3,ms,M8,rfl,e3,o3.mono hl08,hl08,by rw[jR]⟩
   ·have h24':¬(24:Int)≤T1.k:=by omega
    rw[hY3 h24,hY4 h24];refine Q.r ?_;exact N.t rfl (L':=yU p q T1 M5 (wM c pj gv q d1::qD M5 pj j2::L)) eG ⟨a3,c3,ms,M5,rfl,e3,o3.mono hl05,hl05,rfl⟩
  ·have hF:doF T j pl:=⟨hrec,hce⟩
   have hY1:ZO T j pl=JW T (qu j) (vO pl.rec_):=jb hF;have hY2:lL T j pl=appL j pl.inst:=jb hF;have hY3:cb T j dn pl=(dn||(JW T (qu j) (vO pl.rec_)).br):=jb hF;have hY4:doM T j pl=pl.els:=jb hF;rw[hY1,hY2,hY3,hY4];have hce':decide (¬Qw T (qu j) (vO pl.rec_)=0)=true:=jo hce;generalize (dn||(JW T (qu j) (vO pl.rec_)).br)=d1 at*;generalize JW T (qu j) (vO pl.rec_)=T1 at*;generalize Qw T (qu j) (vO pl.rec_)=E at*;refine Q.r ?_;refine qo (L':=wM c pj gv q d1::qD M1 pj j::qp M1::zl q p T1.n T1.k T1.br::qt p T1.d::pt bp (cl [.slice a1 rs.length c1,.slice a2 ns.length c2,.slice a3 ms.length c3,.slice a4 is.length c4,.slice a5 es.length c5] 97)::L) eG ?_;refine S.cr rfl (yG c pj gv q d1 j a4 c4 is M1 _ (o4.mono hl1) (sc e4 hK.ni) hK.w (hT.mono hl1) zo) ?_;rintro _ _ ⟨M2,hl2,rfl⟩;rw[e4];have hl02:=hl1.trans hl2;refine Q.r ?_;exact N.t rfl (L':=yU p q T1 M2 (wM c pj gv q d1::qD M2 pj (appL j pl.inst)::L)) eG ⟨a5,c5,es,M2,rfl,e5,o5.mono hl02,hl02,rfl⟩
def VY :JG→List (List UInt8)→Option JG
 |j,[]=>some j
 |j,r::rs=>match ZF r with
  |none=>none
  |some n=>if (n.kind=16∨n.kind=17∨n.kind=18)∧qW j n=0 then VY (ve j n) rs else none
open Classical in
noncomputable def Wt (j:JG)(s:List UInt8)(rs:List (List UInt8)):Int:=if Z7 j s≠0 then 4 else if VY (XD j s) rs=none then 4 else 0
theorem jFQ {p:List UInt8}(h:ZF p=none):tf p≠0:=by
 unfold tf
 by_cases h1:mT p≠0
 ·rw[jb h1];exact h1
 ·rw[ja h1,jb h];decide
theorem jBx {p:List UInt8}{n:NA}(h:ZF p=some n):tf p=0:=by
 have h1 : mT p = 0 := nj.2 (by
  unfold ZF at h
  split at h
  ·next hc=>exact ⟨hc.1,hc.2.1⟩
  ·cases h)
 unfold tf;rw[ja (by simp[h1]),ja (by rw[h];simp)]
theorem QX (j:JG)(n:NA):(ve j n).shards=j.shards∧(ve j n).dim=j.dim:=by
 unfold ve
 repeat' split
 all_goals exact ⟨rfl,rfl⟩
theorem Zz (pj:Nat)(j:JG)(s:YB)(a:OA)(c:Nat)(vs:List YB)(M:OM)(L:HL)(hs:wq M s)(h:qI M a vs.length 1 (vs.flatMap YB.cells))(hok:JV M vs)(hT:zB M)(hB:xL M)
  (hd1:1≤j.dim) (hd2:j.dim≤8) (hb:s.bs.length≤100000) (htj:j.tr.length≤100000) (hdj:j.done.length≤100000) (hW:Z7 j s.bs=0→WN (XD j s.bs)) (hvb:∀v∈vs,v.bs.length≤10000000) (hvl:vs.length≤1000000):
  qh kY 28 [vQ pj,.agg #[s.val,.slice a vs.length c]] (qD M pj j::qp M::L) (λr L'=>r=.int .i64 (Wt j s.bs (vs.map YB.bs))∧∃M' j',qV M M'∧(Wt j s.bs (vs.map YB.bs)=0→VY (XD j s.bs) (vs.map YB.bs)=some j'∧WN j'∧j'.shards=(XD j s.bs).shards∧j'.dim=(XD j s.bs).dim)∧L'=qD M' pj j'::qp M'::L):=by
 refine qg Tryz.func28 rfl rfl rfl ?_;refine Q.r ?_;(repeat (intro b1;refine Q.r ?_));refine S.cg pj rfl (fH M pj j s.a s.c s.bs _ hs hd1 hd2 hb htj hdj) ?_;rintro _ _ ⟨rfl,M1,hl1,rfl⟩
 by_cases hu0:Z7 j s.bs=0
 case neg=>
  have hE:Wt j s.bs (vs.map YB.bs)=4:=jb hu0;have hu0':decide (¬Z7 j s.bs=0)=true:=jo hu0;generalize Z7 j s.bs=E at*;refine Q.r ?_;exact N.t rfl (L':=qD M1 pj (XD j s.bs)::qp M1::L) eG ⟨by rw[hE],M1,_,hl1,λh=>absurd h (by rw[hE];decide),rfl⟩
 have hW1:=hW hu0;rw[hu0];refine Q.r ?_;refine ql (σ:=Nat×(OM)×JG) (λx=> [(0,vQ pj),(15,.slice a vs.length c),(16,.int .i64 vs.length),(17,.int .i64 x.1)])
  (λx=>qD x.2.1 pj x.2.2::qp x.2.1::L) (λx=>x.1≤vs.length∧qV M x.2.1∧WN x.2.2∧VY (XD j s.bs) (vs.map YB.bs)=VY x.2.2 ((vs.map YB.bs).drop x.1)∧(x.2.2.shards=(XD j s.bs).shards∧x.2.2.dim=(XD j s.bs).dim)) (λx=>vs.length - x.1) (0,M1,XD j s.bs) zt eG ⟨jw _,hl1,hW1,rfl,rfl,rfl⟩ ?_
 rintro ⟨k,M5,j1⟩ ⟨hk,hl05,hw1,hld,hsd⟩;dsimp only at hk hl05 hw1 hld hsd ⊢
 by_cases hlt:k<vs.length
 ·obtain ⟨v,hq⟩:=qx hlt
  have hm:=jn hq;obtain ⟨b,oo,hia,cr⟩:=qI.cm (g:=YB.cells) (λ_=>rfl) (h.mono hl05) hq rfl;have hvo:=hok v hm;obtain ⟨rest,hrest⟩:∃r,r=(vs.map YB.bs).drop (k+1):=⟨_,rfl⟩;have hdr:(vs.map YB.bs).drop k=v.bs::rest:=by
   rw[hrest,List.drop_eq_getElem_cons (by rw[jf];exact hlt)]
   congr 1
   rw[List.getElem_map];exact jj YB.bs (jm.1 hq).2
  rw[hia];refine Q.r ?_;refine S.cq (A:=qp M5) (args:=[v.val]) rfl (Wq v.a v.c v.bs M5 _ (hvo.1.mono hl05) hvo.2 (hT.mono hl05) (hB.mono hl05) (hvb v hm)) ?_;rintro _ _ ⟨nv,M2,rfl,hna,hno,hON,hl52,rfl⟩;refine vH pj hl52 ?_;have hl02:=hl05.trans hl52
  cases hun:ZF v.bs with
  |none=>
   have hc:=jFQ hun;have hnx:VY j1 (v.bs::rest)=none:=by rw[VY,hun]
   have hE:Wt j s.bs (vs.map YB.bs)=4:=by unfold Wt;rw[ja (by simp[hu0]),hld,hdr,hnx,jb rfl]
   have hc':decide (¬tf v.bs=0)=true:=jo hc;generalize tf v.bs=E at*;refine Q.r ?_;(repeat (intro b1;refine Q.r ?_));exact N.t rfl (L':=qD M2 pj j1::qp M2::L) eG ⟨by rw[hE],M2,_,hl02,λh=>absurd h (by rw[hE];decide),rfl⟩
  |some n=>
   rw[hun] at hna;have hna:nv.abs=n:=hna;subst hna;have hua:=(jFa hun).2.a;rw[jBx hun]
   by_cases h16:nv.kind=16
   ·have hK:nv.abs.kind=16∨nv.abs.kind=17∨nv.abs.kind=18:=.inl h16
    refine Q.r ?_;(repeat (intro b1;refine Q.r ?_));refine S.cg pj (args:=[vQ pj,nv.val]) rfl (JN nv M2 pj j1 _ hw1.g hno hON (hT.mono hl02) hua.nv (by have:=hua.txn.2;show nv.abs.txn<_;omega)) ?_;rintro _ _ ⟨M3,rfl,hl3,rfl⟩;have hl03:=hl02.trans hl3
    by_cases hA:qW j1 nv.abs=0
    ·rw[hA]
     have hnx:VY j1 (v.bs::rest)=VY (ve j1 nv.abs) rest:=by rw[VY,hun];exact jb ⟨hK,hA⟩
     refine Q.r ?_;rw[←hia];exact ⟨(k+1,M3,ve j1 nv.abs),zt,by exact eG,⟨hlt,hl03,hw1.app hua,hld.trans (by rw[hdr];dsimp only;rw[←hrest];exact hnx),(QX j1 nv.abs).1.trans hsd.1,(QX j1 nv.abs).2.trans hsd.2⟩,jr vs.length k hlt⟩
    ·have hA':decide (¬qW j1 nv.abs=0)=true:=jo hA
     have hnx:VY j1 (v.bs::rest)=none:=by rw[VY,hun];exact ja λh=>hA h.2
     have hE:Wt j s.bs (vs.map YB.bs)=4:=by unfold Wt;rw[ja (by simp[hu0]),hld,hdr,hnx,jb rfl]
     generalize qW j1 nv.abs=E at*;refine Q.r ?_;exact N.t rfl (L':=qD M3 pj (ve j1 nv.abs)::qp M3::L) eG ⟨by rw[hE],M3,_,hl03,λh=>absurd h (by rw[hE];decide),rfl⟩
   by_cases h17:nv.kind=17
   ·have hK:nv.abs.kind=16∨nv.abs.kind=17∨nv.abs.kind=18:=.inr (.inl h17)
    refine Q.r ?_;(repeat (intro b1;refine Q.r ?_));refine S.cg pj (args:=[vQ pj,nv.val]) rfl (JN nv M2 pj j1 _ hw1.g hno hON (hT.mono hl02) hua.nv (by have:=hua.txn.2;show nv.abs.txn<_;omega)) ?_;rintro _ _ ⟨M3,rfl,hl3,rfl⟩;have hl03:=hl02.trans hl3
    by_cases hA:qW j1 nv.abs=0
    ·rw[hA]
     have hnx:VY j1 (v.bs::rest)=VY (ve j1 nv.abs) rest:=by rw[VY,hun];exact jb ⟨hK,hA⟩
     refine Q.r ?_;rw[←hia];exact ⟨(k+1,M3,ve j1 nv.abs),zt,by exact eG,⟨hlt,hl03,hw1.app hua,hld.trans (by rw[hdr];dsimp only;rw[←hrest];exact hnx),(QX j1 nv.abs).1.trans hsd.1,(QX j1 nv.abs).2.trans hsd.2⟩,jr vs.length k hlt⟩
    ·have hA':decide (¬qW j1 nv.abs=0)=true:=jo hA
     have hnx:VY j1 (v.bs::rest)=none:=by rw[VY,hun];exact ja λh=>hA h.2
     have hE:Wt j s.bs (vs.map YB.bs)=4:=by unfold Wt;rw[ja (by simp[hu0]),hld,hdr,hnx,jb rfl]
     generalize qW j1 nv.abs=E at*;refine Q.r ?_;exact N.t rfl (L':=qD M3 pj (ve j1 nv.abs)::qp M3::L) eG ⟨by rw[hE],M3,_,hl03,λh=>absurd h (by rw[hE];decide),rfl⟩
   by_cases h18:nv.kind=18
   ·have hK:nv.abs.kind=16∨nv.abs.kind=17∨nv.abs.kind=18:=.inr (.inr h18)
    refine Q.r ?_;(repeat (intro b1;refine Q.r ?_));refine S.cg pj (args:=[vQ pj,nv.val]) rfl (JN nv M2 pj j1 _ hw1.g hno hON (hT.mono hl02) hua.nv (by have:=hua.txn.2;show nv.abs.txn<_;omega)) ?_;rintro _ _ ⟨M3,rfl,hl3,rfl⟩;have hl03:=hl02.trans hl3
    by_cases hA:qW j1 nv.abs=0
    ·rw[hA]
     have hnx:VY j1 (v.bs::rest)=VY (ve j1 nv.abs) rest:=by rw[VY,hun];exact jb ⟨hK,hA⟩
     refine Q.r ?_;rw[←hia];exact ⟨(k+1,M3,ve j1 nv.abs),zt,by exact eG,⟨hlt,hl03,hw1.app hua,hld.trans (by rw[hdr];dsimp only;rw[←hrest];exact hnx),(QX j1 nv.abs).1.trans hsd.1,(QX j1 nv.abs).2.trans hsd.2⟩,jr vs.length k hlt⟩
    ·have hA':decide (¬qW j1 nv.abs=0)=true:=jo hA
     have hnx:VY j1 (v.bs::rest)=none:=by rw[VY,hun];exact ja λh=>hA h.2
     have hE:Wt j s.bs (vs.map YB.bs)=4:=by unfold Wt;rw[ja (by simp[hu0]),hld,hdr,hnx,jb rfl]
     generalize qW j1 nv.abs=E at*;refine Q.r ?_;exact N.t rfl (L':=qD M3 pj (ve j1 nv.abs)::qp M3::L) eG ⟨by rw[hE],M3,_,hl03,λh=>absurd h (by rw[hE];decide),rfl⟩
   have hnx:VY j1 (v.bs::rest)=none:=by
    rw[VY,hun];refine ja ?_;rintro ⟨hK,_⟩;have hK:nv.kind=16∨nv.kind=17∨nv.kind=18:=hK;omega
   have hE:Wt j s.bs (vs.map YB.bs)=4:=by unfold Wt;rw[ja (by simp[hu0]),hld,hdr,hnx,jb rfl]
   refine Q.r ?_;(repeat (intro b1;refine Q.r ?_));exact N.t rfl (L':=qD M2 pj j1::qp M2::L) eG ⟨by rw[hE],M2,_,hl02,λh=>absurd h (by rw[hE];decide),rfl⟩
 ·have hke:k=vs.length:=by omega
  subst hke;rw[List.drop_of_length_le (by rw[jf];exact jz _)] at hld;have hE:Wt j s.bs (vs.map YB.bs)=0:=by unfold Wt;rw[ja (by simp[hu0]),hld,ja (by simp[VY])]
  refine Q.r ?_;exact N.t rfl (L':=qD M5 pj j1::qp M5::L) eG ⟨by rw[hE],M5,_,hl05,λ_=>⟨hld,hw1,hsd⟩,rfl⟩
theorem QF (M:OM)(p:Nat)(j:JG)(L:HL):
  qh kY 29 [vQ p] (qD M p j::L) (λr L'=>r=.int .u64 j.epoch∧L'=qD M p j::L):=by
 refine wD λmt md ts hq=> ?_
 refine qg Tryz.func29 rfl rfl rfl ?_;refine Q.r ?_;exact N.t rfl (qS hq) ⟨rfl,rfl⟩
end Go.Proofs.YtlnfjhiphlfkjaaGreatDoor
