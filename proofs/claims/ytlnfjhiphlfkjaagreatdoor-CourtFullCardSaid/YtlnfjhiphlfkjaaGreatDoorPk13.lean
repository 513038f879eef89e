/- Walks of functions, and plain laws, that the last text rests on. No condition. -/
import Derived.Test.YtlnfjhiphlfkjaaGreatDoorPk12
set_option linter.unusedVariables false
set_option linter.unusedSimpArgs false
set_option linter.unusedSectionVars false
set_option maxHeartbeats 16000000
namespace Go.Proofs.YtlnfjhiphlfkjaaGreatDoor
open Go Go.SX
attribute [local irreducible] swp qq qL qJ vZ qh St qi qk vu qH
abbrev nC (n:NV):Obj:=cl n.cells 43
theorem jEF {n:NA}(h:qn n=true)(u:wg n)(i:Nat):(yg n i).length≤4096:=ke (jBZ n i) (Jl (xO h u) u)
theorem jDv {k i:Nat}{f:UInt8}(h:(xd k)[i]? =some f):f∈abc:=by
 have:=jn h;rw[Wd] at this;exact (jB.1 this).1
set_option maxRecDepth 100000 in
theorem fF (n:NV)(M:OM)(L0:HL)(hn:xN M n)(hN:OkN n)(hu:wg n.abs):
  qh kY 39 [n.val] (qp M::L0) (jHw M L0 n.abs):=by
 refine qg Tryz.func39 rfl rfl rfl ?_;refine Q.r ?_;(repeat (intro b1;refine Q.r ?_));revert b1;intro bn;refine S.cr rfl (Wp n _ hn.rd hN hu.a) ?_;rintro _ _ ⟨rfl,rfl⟩
 by_cases hR:qn n.abs=true
 case neg=>
  have hR':qn n.abs=false:=by simpa using hR
  rw[hR'];refine Q.r ?_;refine N.u rfl rfl (L':=qp M::L0) eG ⟨⟨none,0,[]⟩,M,by rw[hR'];rfl,by rw[hR'];rfl,qI.nil,jz _,qV.refl _,rfl⟩
 rw[hR];have hZ:=Wy hR hu;have hO:=xO hR hu;have hkR:=hO.k;have hkN:n.kind=((n.kind.toNat:Nat):Int):=by have h1:0≤n.kind:=hkR.1;omega
 have hP:=jEF hR hu;have hkk:n.abs.kind=n.kind:=rfl;have h0k:0≤n.kind:=hkR.1;have h1k:n.kind≤255:=hkR.2;refine Q.r ?_;refine S.y (Y.cvi rfl) ?_;rw[wrap_u64 zo zo];refine S.cr rfl (Jw n.kind _ zo zo) ?_;rintro _ _ ⟨a1,c1,rfl,rfl⟩;refine Q.r ?_;refine S.cr (args:=[.int .u8 ((n.kind.toNat:Nat):Int)]) (by rw[←hkN];rfl) (Q0 n.kind.toNat _ zo) ?_;rintro _ _ ⟨rfl,he⟩;rw[he];clear he;have hle:=dX n.kind.toNat;have hps:∀i f,(xd n.kind.toNat)[i]? =some f→yg n.abs (i+1)=yg n.abs i++XK n.abs f:=λi f h=>tL (n:=n.abs) h
 have hp0:yg n.abs 0=numI n.kind:=tK n.abs;have hpa:yg n.abs (xd n.kind.toNat).length=yi n.abs:=jB0 n.abs (jz _);have hab:∀i f,(xd n.kind.toNat)[i]? =some f→f∈abc:=λi f h=>jDv h
 generalize xd n.kind.toNat=lt at*;refine Q.r ?_;refine qw (σ:=OA×Nat) (λs=> [(4,.slice s.1 (yi n.abs).length s.2)]) (λs=>slB s.1 s.2 (yi n.abs)::qp M::L0) (λ_=>True) ?_ ?_
 ·refine ql (σ:=Nat×OA×Nat) (λs=> [(1,.pointer (some ⟨bn,0,none⟩)),(6,str lt),(4,.slice s.2.1 (yg n.abs s.1).length s.2.2),(7,.int .i64 s.1)])
   (λs=>slB s.2.1 s.2.2 (yg n.abs s.1)::pt bn (nC n)::qp M::L0) (λs=>s.1≤lt.length) (λs=>lt.length - s.1) (0,a1,c1) ⟨rfl,rfl,by rw[hp0];rfl,rfl,trivial⟩ (by rw[hp0];exact eG) (jw _) ?_
  rintro ⟨k,a2,c2⟩ hk;dsimp only at hk ⊢
  by_cases hlt:k<lt.length
  ·obtain ⟨f,hf⟩:=qx hlt
   have hnx:=hps k f hf;have hfa:=hab k f hf;have hPk:=hP k;have hPn:=hP (k+1);have hlt':(k:Int)<lt.length:=by omega
   generalize yg n.abs k=X at hnx hPk ⊢;refine Q.r ?_;refine S.y (Y.slen rfl) ?_;refine Q.r ?_;refine S.y (Y.idx rfl rfl (jGC hf)) ?_;unfold abc at hfa;simp only[j9,List.not_mem_nil,or_false] at hfa
   rcases hfa with rfl|rfl|rfl|rfl|rfl|rfl|rfl|rfl|rfl|rfl|rfl|rfl|rfl|rfl|rfl
   ·have h0:=hZ.txn
    have hnx:yg n.abs (k+1)=X++numI n.txn:=hnx;have h0a:0≤n.txn:=h0.1;have h0b:n.txn≤18446744073709551615:=by have:n.txn≤_:=h0.2;omega
    refine Q.r ?_;refine S.cr rfl (Jw n.txn _ h0a h0b) ?_;rintro _ _ ⟨y1,cy1,rfl,rfl⟩;have m1:=qr (z:=n.txn) zo;refine Q.r ?_;refine qZ y1 (λha=> ?_);refine S.appB (a:=a2) (X:=X) (Y:=numI n.txn) rfl rfl (qY.own ha (by rw[jf,jX])) zo (λy2 cy2=> ?_);rw[←hnx];refine Q.r ?_;exact ⟨(k+1,y2,cy2),zt,by exact eG,hlt,jr lt.length k hlt⟩
   ·have h0:=hZ.batch
    have hnx:yg n.abs (k+1)=X++numI n.batch:=hnx;have h0a:0≤n.batch:=h0.1;have h0b:n.batch≤18446744073709551615:=by have:n.batch≤_:=h0.2;omega
    refine Q.r ?_;refine S.cr rfl (Jw n.batch _ h0a h0b) ?_;rintro _ _ ⟨y1,cy1,rfl,rfl⟩;have m1:=qr (z:=n.batch) zo;refine Q.r ?_;refine qZ y1 (λha=> ?_);refine S.appB (a:=a2) (X:=X) (Y:=numI n.batch) rfl rfl (qY.own ha (by rw[jf,jX])) zo (λy2 cy2=> ?_);rw[←hnx];refine Q.r ?_;exact ⟨(k+1,y2,cy2),zt,by exact eG,hlt,jr lt.length k hlt⟩
   ·have h0:=hZ.stamp
    have hnx:yg n.abs (k+1)=X++numI n.stamp:=hnx;have h0a:0≤n.stamp:=h0.1;have h0b:n.stamp≤18446744073709551615:=by have:n.stamp≤_:=h0.2;omega
    refine Q.r ?_;refine S.cr rfl (Jw n.stamp _ h0a h0b) ?_;rintro _ _ ⟨y1,cy1,rfl,rfl⟩;have m1:=qr (z:=n.stamp) zo;refine Q.r ?_;refine qZ y1 (λha=> ?_);refine S.appB (a:=a2) (X:=X) (Y:=numI n.stamp) rfl rfl (qY.own ha (by rw[jf,jX])) zo (λy2 cy2=> ?_);rw[←hnx];refine Q.r ?_;exact ⟨(k+1,y2,cy2),zt,by exact eG,hlt,jr lt.length k hlt⟩
   ·have h0:=hZ.after
    have hnx:yg n.abs (k+1)=X++numI n.after:=hnx;have h0a:0≤n.after:=h0.1;have h0b:n.after≤18446744073709551615:=by have:n.after≤_:=h0.2;omega
    refine Q.r ?_;refine S.cr rfl (Jw n.after _ h0a h0b) ?_;rintro _ _ ⟨y1,cy1,rfl,rfl⟩;have m1:=qr (z:=n.after) zo;refine Q.r ?_;refine qZ y1 (λha=> ?_);refine S.appB (a:=a2) (X:=X) (Y:=numI n.after) rfl rfl (qY.own ha (by rw[jf,jX])) zo (λy2 cy2=> ?_);rw[←hnx];refine Q.r ?_;exact ⟨(k+1,y2,cy2),zt,by exact eG,hlt,jr lt.length k hlt⟩
   ·have h0:=hZ.mark
    have hnx:yg n.abs (k+1)=X++numI n.mark:=hnx;have h0a:0≤n.mark:=h0.1;have h0b:n.mark≤18446744073709551615:=by have:n.mark≤_:=h0.2;omega
    refine Q.r ?_;refine S.cr rfl (Jw n.mark _ h0a h0b) ?_;rintro _ _ ⟨y1,cy1,rfl,rfl⟩;have m1:=qr (z:=n.mark) zo;refine Q.r ?_;refine qZ y1 (λha=> ?_);refine S.appB (a:=a2) (X:=X) (Y:=numI n.mark) rfl rfl (qY.own ha (by rw[jf,jX])) zo (λy2 cy2=> ?_);rw[←hnx];refine Q.r ?_;exact ⟨(k+1,y2,cy2),zt,by exact eG,hlt,jr lt.length k hlt⟩
   ·have h0:=hZ.query
    have hnx:yg n.abs (k+1)=X++numI n.query:=hnx;have h0a:0≤n.query:=h0.1;have h0b:n.query≤18446744073709551615:=by have:n.query≤_:=h0.2;omega
    refine Q.r ?_;refine S.cr rfl (Jw n.query _ h0a h0b) ?_;rintro _ _ ⟨y1,cy1,rfl,rfl⟩;have m1:=qr (z:=n.query) zo;refine Q.r ?_;refine qZ y1 (λha=> ?_);refine S.appB (a:=a2) (X:=X) (Y:=numI n.query) rfl rfl (qY.own ha (by rw[jf,jX])) zo (λy2 cy2=> ?_);rw[←hnx];refine Q.r ?_;exact ⟨(k+1,y2,cy2),zt,by exact eG,hlt,jr lt.length k hlt⟩
   ·have h0:=hZ.id
    have hnx:yg n.abs (k+1)=X++numI n.id:=hnx;have h0a:0≤n.id:=h0.1;have h0b:n.id≤18446744073709551615:=by have:n.id≤_:=h0.2;omega
    refine Q.r ?_;refine S.cr rfl (Jw n.id _ h0a h0b) ?_;rintro _ _ ⟨y1,cy1,rfl,rfl⟩;have m1:=qr (z:=n.id) zo;refine Q.r ?_;refine qZ y1 (λha=> ?_);refine S.appB (a:=a2) (X:=X) (Y:=numI n.id) rfl rfl (qY.own ha (by rw[jf,jX])) zo (λy2 cy2=> ?_);rw[←hnx];refine Q.r ?_;exact ⟨(k+1,y2,cy2),zt,by exact eG,hlt,jr lt.length k hlt⟩
   ·have h0:=hZ.k
    have hnx:yg n.abs (k+1)=X++numI n.k:=hnx;have h0a:0≤n.k:=h0.1;have h0b:n.k≤18446744073709551615:=by have:n.k≤_:=h0.2;omega
    refine Q.r ?_;refine S.y (Y.cvi rfl) ?_;rw[wrap_u64 zo zo];refine S.cr rfl (Jw n.k _ h0a h0b) ?_;rintro _ _ ⟨y1,cy1,rfl,rfl⟩;have m1:=qr (z:=n.k) zo;refine Q.r ?_;refine qZ y1 (λha=> ?_);refine S.appB (a:=a2) (X:=X) (Y:=numI n.k) rfl rfl (qY.own ha (by rw[jf,jX])) zo (λy2 cy2=> ?_);rw[←hnx];refine Q.r ?_;exact ⟨(k+1,y2,cy2),zt,by exact eG,hlt,jr lt.length k hlt⟩
   ·have h0:=hZ.ef
    have hnx:yg n.abs (k+1)=X++numI n.ef:=hnx;have h0a:0≤n.ef:=h0.1;have h0b:n.ef≤18446744073709551615:=by have:n.ef≤_:=h0.2;omega
    refine Q.r ?_;refine S.y (Y.cvi rfl) ?_;rw[wrap_u64 zo zo];refine S.cr rfl (Jw n.ef _ h0a h0b) ?_;rintro _ _ ⟨y1,cy1,rfl,rfl⟩;have m1:=qr (z:=n.ef) zo;refine Q.r ?_;refine qZ y1 (λha=> ?_);refine S.appB (a:=a2) (X:=X) (Y:=numI n.ef) rfl rfl (qY.own ha (by rw[jf,jX])) zo (λy2 cy2=> ?_);rw[←hnx];refine Q.r ?_;exact ⟨(k+1,y2,cy2),zt,by exact eG,hlt,jr lt.length k hlt⟩
   ·have h0:=hZ.code
    have hnx:yg n.abs (k+1)=X++numI n.code:=hnx;have h0a:0≤n.code:=h0.1;have h0b:n.code≤18446744073709551615:=by have:n.code≤_:=h0.2;omega
    refine Q.r ?_;refine S.y (Y.cvi rfl) ?_;rw[wrap_u64 zo zo];refine S.cr rfl (Jw n.code _ h0a h0b) ?_;rintro _ _ ⟨y1,cy1,rfl,rfl⟩;have m1:=qr (z:=n.code) zo;refine Q.r ?_;refine qZ y1 (λha=> ?_);refine S.appB (a:=a2) (X:=X) (Y:=numI n.code) rfl rfl (qY.own ha (by rw[jf,jX])) zo (λy2 cy2=> ?_);rw[←hnx];refine Q.r ?_;exact ⟨(k+1,y2,cy2),zt,by exact eG,hlt,jr lt.length k hlt⟩
   ·have h0:=hZ.who
    have hnx:yg n.abs (k+1)=X++numI n.who:=hnx;have h0a:0≤n.who:=h0.1;have h0b:n.who≤18446744073709551615:=by have:n.who≤_:=h0.2;omega
    refine Q.r ?_;refine S.y (Y.cvi rfl) ?_;rw[wrap_u64 zo zo];refine S.cr rfl (Jw n.who _ h0a h0b) ?_;rintro _ _ ⟨y1,cy1,rfl,rfl⟩;have m1:=qr (z:=n.who) zo;refine Q.r ?_;refine qZ y1 (λha=> ?_);refine S.appB (a:=a2) (X:=X) (Y:=numI n.who) rfl rfl (qY.own ha (by rw[jf,jX])) zo (λy2 cy2=> ?_);rw[←hnx];refine Q.r ?_;exact ⟨(k+1,y2,cy2),zt,by exact eG,hlt,jr lt.length k hlt⟩
   ·have h0:=hZ.parts
    have hll:n.parts.length≤4:=h0.1;have hnx:yg n.abs (k+1)=X++(numI (n.parts.length:Int)++n.parts.flatMap numI):=hnx;have m0:=qr (z:=(n.parts.length:Int)) zo;refine Q.r ?_;refine S.y (Y.cvi rfl) ?_;rw[wrap_u64 zo zo];refine S.cr rfl (Jw (n.parts.length:Int) _ zo zo) ?_;rintro _ _ ⟨y1,cy1,rfl,rfl⟩;refine Q.r ?_;refine qZ y1 (λha=> ?_);refine S.appB (a:=a2) (X:=X) (Y:=numI (n.parts.length:Int)) rfl rfl (qY.own ha (by rw[jf,jX])) zo (λy2 cy2=> ?_);have q0:(X++numI (n.parts.length:Int)).length≤5000:=by rw[jc];omega
    rw[←ju] at hnx;generalize X++numI (n.parts.length:Int)=Z at q0 hnx ⊢;refine Q.r ?_;refine ql (σ:=Nat×OA×Nat) (λs=> [(1,.pointer (some ⟨bn,0,none⟩)),(6,str lt),(7,.int .i64 k),(155,.slice n.pa n.parts.length n.pc),(156,.int .i64 n.parts.length),(4,.slice s.2.1 (Z++(n.parts.take s.1).flatMap numI).length s.2.2),(157,.int .i64 s.1)])
     (λs=>slB s.2.1 s.2.2 (Z++(n.parts.take s.1).flatMap numI)::pt bn (nC n)::qp M::L0) (λs=>s.1≤n.parts.length) (λs=>n.parts.length - s.1) (0,y2,cy2) ⟨rfl,rfl,rfl,rfl,rfl,by simp only[kB,j3,jG];rfl,rfl,trivial⟩ (by simp only[kB,j3,jG];exact eG) (jw _) ?_
    rintro ⟨m,a8,c8⟩ hm;dsimp only at hm ⊢
    by_cases hmt:m<n.parts.length
    ·obtain ⟨q,hq⟩:=qx hmt
     have hqb:=h0.2 q (jn hq);obtain ⟨b,oo,hia,cr⟩:=qI.cm1 (g:=I64) hn.p hq rfl;have hZl:((n.parts.take m).flatMap numI).length≤n.parts.length*10:=zj m λz hz=>qr (by have:=(h0.2 z hz).2;omega)
     have hnx2:Z++(n.parts.take (m+1)).flatMap numI=Z++(n.parts.take m).flatMap numI++numI q:=by rw[Vk hq,ju]
     have hl:(Z++(n.parts.take m).flatMap numI).length≤6000:=by rw[jc];omega
     generalize Z++(n.parts.take m).flatMap numI=W at hnx2 hl ⊢;have m2:=qr (z:=q) zo;rw[hia];refine Q.r ?_;refine S.y (Y.cvi rfl) ?_;rw[wrap_u64 zo zo];refine S.cr rfl (Jw q _ zo zo) ?_;rintro _ _ ⟨y3,cy3,rfl,rfl⟩;refine Q.r ?_;refine qZ y3 (λha=> ?_);refine S.appB (a:=a8) (X:=W) (Y:=numI q) rfl rfl (qY.own ha (by rw[jf,jX])) zo (λy4 cy4=> ?_);rw[←hnx2];refine Q.r ?_;exact ⟨(m+1,y4,cy4),⟨rfl,rfl,rfl,by rw[←hia];rfl,rfl,rfl,rfl,trivial⟩,by exact eG,hmt,jr n.parts.length m hmt⟩
    ·have hme:m=n.parts.length:=by omega
     subst hme;rw[jI,←hnx];refine Q.r ?_;exact ⟨(k+1,a8,c8),zt,by exact eG,hlt,jr lt.length k hlt⟩
   ·have h0:=hZ.ops
    have hll:n.ops.length≤16:=by have:(n.ops.map OV.abs).length≤16:=h0.1;rw[jf] at this;exact this
    have hnx:yg n.abs (k+1)=X++(numI ((n.ops.map OV.abs).length:Int)++(n.ops.map OV.abs).flatMap xH):=hnx;rw[jf,List.flatMap_map] at hnx;have m0:=qr (z:=(n.ops.length:Int)) zo;refine Q.r ?_;refine S.y (Y.cvi rfl) ?_;rw[wrap_u64 zo zo];refine S.cr rfl (Jw (n.ops.length:Int) _ zo zo) ?_;rintro _ _ ⟨y1,cy1,rfl,rfl⟩;refine Q.r ?_;refine qZ y1 (λha=> ?_);refine S.appB (a:=a2) (X:=X) (Y:=numI (n.ops.length:Int)) rfl rfl (qY.own ha (by rw[jf,jX])) zo (λy2 cy2=> ?_);have q0:(X++numI (n.ops.length:Int)).length≤5000:=by rw[jc];omega
    rw[←ju] at hnx;generalize X++numI (n.ops.length:Int)=Z at q0 hnx ⊢;refine Q.r ?_;refine ql (σ:=Nat×OA×Nat) (λs=> [(1,.pointer (some ⟨bn,0,none⟩)),(6,str lt),(7,.int .i64 k),(177,.slice n.oa n.ops.length n.oc),(178,.int .i64 n.ops.length),(4,.slice s.2.1 (Z++(n.ops.take s.1).flatMap λv=>xH v.abs).length s.2.2),(179,.int .i64 s.1)])
     (λs=>slB s.2.1 s.2.2 (Z++(n.ops.take s.1).flatMap λv=>xH v.abs)::pt bn (nC n)::qp M::L0) (λs=>s.1≤n.ops.length) (λs=>n.ops.length - s.1) (0,y2,cy2) ⟨rfl,rfl,rfl,rfl,rfl,by simp only[kB,j3,jG];rfl,rfl,trivial⟩ (by simp only[kB,j3,jG];exact eG) (jw _) ?_
    rintro ⟨m,a8,c8⟩ hm;dsimp only at hm ⊢
    by_cases hmt:m<n.ops.length
    ·obtain ⟨u,hq⟩:=qx hmt
     have hum:=jn hq;have hqb:YL u.abs:=h0.2 u.abs (jA hum);obtain ⟨b6,o6,hia6,cr6⟩:=qI.cm (g:=OV.cells) (λ_=>rfl) hn.o.1 hq rfl;have hZl:((n.ops.take m).flatMap λv=>xH v.abs).length≤n.ops.length*100:=zj m λz hz=>by
      have h1:YL z.abs:=h0.2 z.abs (jA hz);have h2:=qr (z:=z.id) (by have:z.id≤(1099511627776:Nat):=h1.1.2;omega);have h3:=xj h1.2
      show (numI z.id++wh z.vec).length≤100
      rw[jc];have h3:(wh z.vec).length≤90:=h3;omega
     have hnx2:Z++((n.ops.take (m+1)).flatMap λv=>xH v.abs)=(Z++(n.ops.take m).flatMap λv=>xH v.abs)++numI u.id++wh u.vec:=by
      rw[Vk hq];simp only[ju]
     have hl:(Z++(n.ops.take m).flatMap λv=>xH v.abs).length≤7000:=by rw[jc];omega
     generalize (Z++(n.ops.take m).flatMap λv=>xH v.abs)=W at hnx2 hl ⊢;have hu0:0≤u.id:=hqb.1.1;have hu1:u.id≤18446744073709551615:=by have:u.id≤(1099511627776:Nat):=hqb.1.2;omega
     have hw8:u.vec.length≤8:=hqb.2.1;have hwv:(wh u.vec).length≤90:=xj hqb.2;rw[hia6];refine Q.r ?_;(repeat (intro b1;refine Q.r ?_));revert b1;intro b7;refine vh (L':=pt b7 (cl [.int .u64 u.id,.slice u.a u.vec.length u.c] 38)::slB a8 c8 W::pt bn (nC n)::qp M::L0) eG ?_;refine Q.dgo [true] [3,4,7,8] [] [0,1,2,5,6,3,4,7,8,9] ?_;refine Q.rd ?_;refine D.e rfl rfl rfl ?_;refine S.cr rfl (Jw u.id _ zo zo) ?_;rintro _ _ ⟨y4,cy4,rfl,rfl⟩;have m4:=qr (z:=u.id) zo;refine Q.r ?_;refine Q.rd ?_;refine D.e rfl rfl rfl ?_;refine qZ y4 (λha4=> ?_);refine S.appB (a:=a8) (X:=W) (Y:=numI u.id) rfl rfl (qY.own ha4 (by rw[jf,jX])) zo (λw5 cw5=> ?_);refine Q.r ?_;refine Q.rd ?_;have q4:(W++numI u.id).length≤8000:=by rw[jc];omega
     refine D.e rfl rfl rfl ?_;refine S.cr rfl (WX u.a u.c u.vec M _ (hn.o.2 u hum) hw8 hqb.2.2) ?_;rintro _ _ ⟨y5,cy5,rfl,rfl⟩;refine Q.r ?_;refine Q.rd ?_;refine D.e rfl rfl rfl ?_;refine qZ y5 (λha5=> ?_);refine S.appB (a:=w5) (X:=(W++numI u.id)) (Y:=wh u.vec) rfl rfl (qY.own ha5 (by rw[jf,jX])) zo (λw6 cw6=> ?_);refine Q.r ?_;refine Q.rd ?_;rw[←hnx2];refine Q.r ?_;refine ⟨(m+1,w6,cw6),⟨rfl,rfl,rfl,by rw[←hia6];rfl,rfl,rfl,rfl,trivial⟩,by exact eG,hmt,jr n.ops.length m hmt⟩
    ·have hme:m=n.ops.length:=by omega
     subst hme;rw[jI,←hnx];refine Q.r ?_;exact ⟨(k+1,a8,c8),zt,by exact eG,hlt,jr lt.length k hlt⟩
   ·have h0:=hZ.vec
    have hv8:n.vec.length≤8:=h0.1;have hnx:yg n.abs (k+1)=X++wh n.vec:=hnx;have m0:(wh n.vec).length≤90:=xj h0;refine Q.r ?_;refine S.cr rfl (WX n.va n.vc n.vec M _ hn.v hv8 h0.2) ?_;rintro _ _ ⟨y1,cy1,rfl,rfl⟩;refine Q.r ?_;refine qZ y1 (λha=> ?_);refine S.appB (a:=a2) (X:=X) (Y:=wh n.vec) rfl rfl (qY.own ha (by rw[jf,jX])) zo (λy2 cy2=> ?_);rw[←hnx];refine Q.r ?_;exact ⟨(k+1,y2,cy2),zt,by exact eG,hlt,jr lt.length k hlt⟩
   ·have h0:=hZ.hits
    have hll:n.hits.length≤16:=by have:(n.hits.map HV.abs).length≤16:=h0.1;rw[jf] at this;exact this
    have hnx:yg n.abs (k+1)=X++(numI ((n.hits.map HV.abs).length:Int)++(n.hits.map HV.abs).flatMap xU):=hnx;rw[jf,List.flatMap_map] at hnx;have m0:=qr (z:=(n.hits.length:Int)) zo;refine Q.r ?_;refine S.y (Y.cvi rfl) ?_;rw[wrap_u64 zo zo];refine S.cr rfl (Jw (n.hits.length:Int) _ zo zo) ?_;rintro _ _ ⟨y1,cy1,rfl,rfl⟩;refine Q.r ?_;refine qZ y1 (λha=> ?_);refine S.appB (a:=a2) (X:=X) (Y:=numI (n.hits.length:Int)) rfl rfl (qY.own ha (by rw[jf,jX])) zo (λy2 cy2=> ?_);have q0:(X++numI (n.hits.length:Int)).length≤5000:=by rw[jc];omega
    rw[←ju] at hnx;generalize X++numI (n.hits.length:Int)=Z at q0 hnx ⊢;refine Q.r ?_;refine ql (σ:=Nat×OA×Nat) (λs=> [(1,.pointer (some ⟨bn,0,none⟩)),(6,str lt),(7,.int .i64 k),(44,.slice n.ha n.hits.length n.hc),(45,.int .i64 n.hits.length),(4,.slice s.2.1 (Z++(n.hits.take s.1).flatMap λv=>xU v.abs).length s.2.2),(46,.int .i64 s.1)])
     (λs=>slB s.2.1 s.2.2 (Z++(n.hits.take s.1).flatMap λv=>xU v.abs)::pt bn (nC n)::qp M::L0) (λs=>s.1≤n.hits.length) (λs=>n.hits.length - s.1) (0,y2,cy2) ⟨rfl,rfl,rfl,rfl,rfl,by simp only[kB,j3,jG];rfl,rfl,trivial⟩ (by simp only[kB,j3,jG];exact eG) (jw _) ?_
    rintro ⟨m,a8,c8⟩ hm;dsimp only at hm ⊢
    by_cases hmt:m<n.hits.length
    ·obtain ⟨u,hq⟩:=qx hmt
     have hum:=jn hq;have hqb:Qn u.abs:=h0.2 u.abs (jA (f:=HV.abs) hum);obtain ⟨b6,o6,hia6,cr6⟩:=qI.cm (g:=HV.cells) (λ_=>rfl) hn.h hq rfl;have hZl:((n.hits.take m).flatMap λv=>xU v.abs).length≤n.hits.length*110:=zj m λz hz=>by
      have h1:Qn z.abs:=h0.2 z.abs (jA (f:=HV.abs) hz);have h2:=qr (z:=z.id) (by have:z.id≤(1099511627776:Nat):=h1.1.2;omega);have h4:=qr (z:=z.dist) (by have:z.dist≤(18446744073709551615:Nat):=h1.2.1.2;omega);have h3:(wh z.vec).length≤90:=xj h1.2.2
      show (numI z.id++(numI z.dist++wh z.vec)).length≤110
      rw[jc,jc];omega
     have hnx2:Z++((n.hits.take (m+1)).flatMap λv=>xU v.abs)=(Z++(n.hits.take m).flatMap λv=>xU v.abs)++numI u.id++numI u.dist++wh u.vec:=by
      rw[Vk hq];simp only[ju]
     have hl:(Z++(n.hits.take m).flatMap λv=>xU v.abs).length≤7000:=by rw[jc];omega
     generalize (Z++(n.hits.take m).flatMap λv=>xU v.abs)=W at hnx2 hl ⊢;have hu0:0≤u.id:=hqb.1.1;have hu1:u.id≤18446744073709551615:=by have:u.id≤(1099511627776:Nat):=hqb.1.2;omega
     have hd0:0≤u.dist:=hqb.2.1.1;have hd1:u.dist≤18446744073709551615:=by have:u.dist≤(18446744073709551615:Nat):=hqb.2.1.2;omega
     have hw8:u.vec.length≤8:=hqb.2.2.1;have hwv:(wh u.vec).length≤90:=xj hqb.2.2;rw[hia6];refine Q.r ?_;(repeat (intro b1;refine Q.r ?_));revert b1;intro b7;refine vh (L':=pt b7 (cl [.int .u64 u.id,.int .u64 u.dist,.slice u.a u.vec.length u.c] 113)::slB a8 c8 W::pt bn (nC n)::qp M::L0) eG ?_;refine Q.dgo [true] [3,4,7,8,11,12] [] [0,1,2,5,6,9,10,3,4,7,8,11,12,13] ?_;refine Q.rd ?_;refine D.e rfl rfl rfl ?_;refine S.cr rfl (Jw u.id _ zo zo) ?_;rintro _ _ ⟨y4,cy4,rfl,rfl⟩;have m4:=qr (z:=u.id) zo;refine Q.r ?_;refine Q.rd ?_;refine D.e rfl rfl rfl ?_;refine qZ y4 (λha4=> ?_);refine S.appB (a:=a8) (X:=W) (Y:=numI u.id) rfl rfl (qY.own ha4 (by rw[jf,jX])) zo (λw5 cw5=> ?_);refine Q.r ?_;refine Q.rd ?_;have q4:(W++numI u.id).length≤8000:=by rw[jc];omega
     refine D.e rfl rfl rfl ?_;refine S.cr rfl (Jw u.dist _ zo zo) ?_;rintro _ _ ⟨y6,cy6,rfl,rfl⟩;have m6:=qr (z:=u.dist) zo;refine Q.r ?_;refine Q.rd ?_;refine D.e rfl rfl rfl ?_;refine qZ y6 (λha6=> ?_);refine S.appB (a:=w5) (X:=(W++numI u.id)) (Y:=numI u.dist) rfl rfl (qY.own ha6 (by rw[jf,jX])) zo (λw7 cw7=> ?_);refine Q.r ?_;refine Q.rd ?_;have q6:(W++numI u.id++numI u.dist).length≤9000:=by rw[jc];omega
     refine D.e rfl rfl rfl ?_;refine S.cr rfl (WX u.a u.c u.vec M _ (hn.hv u hum) hw8 hqb.2.2.2) ?_;rintro _ _ ⟨y5,cy5,rfl,rfl⟩;refine Q.r ?_;refine Q.rd ?_;refine D.e rfl rfl rfl ?_;refine qZ y5 (λha5=> ?_);refine S.appB (a:=w7) (X:=(W++numI u.id++numI u.dist)) (Y:=wh u.vec) rfl rfl (qY.own ha5 (by rw[jf,jX])) zo (λw6 cw6=> ?_);refine Q.r ?_;refine Q.rd ?_;rw[←hnx2];refine Q.r ?_;refine ⟨(m+1,w6,cw6),⟨rfl,rfl,rfl,by rw[←hia6];rfl,rfl,rfl,rfl,trivial⟩,by exact eG,hmt,jr n.hits.length m hmt⟩
    ·have hme:m=n.hits.length:=by omega
     subst hme;rw[jI,←hnx];refine Q.r ?_;exact ⟨(k+1,a8,c8),zt,by exact eG,hlt,jr lt.length k hlt⟩
  ·have hke:k=lt.length:=by omega
   subst hke;rw[hpa];refine Q.r ?_;refine S.y (Y.slen rfl) ?_;refine Q.r ?_;exact ⟨(a2,c2),zt,by exact eG,trivial⟩
 rintro ⟨a2,c2⟩ _;dsimp only;refine Q.r ?_;refine zm a2 (λhc2=> ?_);refine qR a2 (λM1 hl1 hs1=> ?_);have h4:=Jl hO hu;refine S.cr rfl (mz ⟨a2,c2,yi n.abs⟩ M1 _ hs1 h4) ?_;rintro _ _ ⟨u,M2,rfl,hub,huo,huc,hl2,rfl⟩;refine Q.r ?_;refine N.u rfl rfl (L':=qp M2::L0) eG ⟨u,M2,by rw[hR];rfl,by rw[hR,jb rfl];exact hub,huo,huc,hl1.trans hl2,rfl⟩
abbrev zrP (r:Nat)(a:OA)(m c:Nat)(ok:Bool):HP:=pt r (cl [.slice a m c,.bool ok] 106)
abbrev Ky (r:Nat)(a:OA)(c:Nat)(s:RZ):HP:=zrP r a s.bs.length c s.ok
structure ZK (M:OM)(a:OA)(c:Nat)(s:RZ):Prop where
 sl:qI M a s.bs.length 1 (s.bs.map B)
 c:s.bs.length≤c
 b:s.bs.length≤10000000
theorem ZK.mono {M M':OM}{a:OA}{c:Nat}{s:RZ}(h:ZK M a c s)(hl:qV M M'):ZK M' a c s:=⟨h.sl.mono hl,h.c,h.b⟩
theorem KA (s:RZ):0≤(ye s).1∧(ye s).1≤18446744073709551615:=by
 unfold ye
 split
 ·next h=>
  have:=(yX h.1).2;dsimp only;omega
 ·dsimp only;omega
theorem KD (m:Nat)(s:RZ):0≤(zU m s).1∧(zU m s).1≤m:=by
 have:=KA s;unfold zU
 split
 ·dsimp only;omega
 ·omega
theorem nf (s:RZ):(XA s).1.length≤8:=by
 unfold XA
 split
 ·next h=>
  unfold K3 at h ⊢
  split
  ·exact jw _
  ·next h2=>
   have h8:=(yX (Decidable.not_not.1 h2)).2;have:=fZ (qB s.bs 8).1 (s.bs.drop (qB s.bs 8).2.1) [];exact ke this (by rw[j7];omega)
 ·exact jw _
set_option maxRecDepth 100000 in
theorem wx (r:Nat)(a:OA)(c:Nat)(s:RZ)(M:OM)(L:HL)[hM:xq M L](h:ZK M a c s):
  qh kY 44 [.pointer (some ⟨r,0,none⟩)] (Ky r a c s::L)
   (λv L'=>v=.int .u64 (ye s).1∧∃a' c',ZK M a' c' (ye s).2∧L'=Ky r a' c' (ye s).2::L):=by
 have hT:=VR a c s.bs 18446744073709551615 (Ky r a c s::L) (h.sl.rd (hm:=xq.there)) (by have:=h.b;omega);have hsz:=yt s.bs 18446744073709551615;unfold ye;generalize qB s.bs 18446744073709551615=q at*;obtain ⟨v,sz,e⟩:=q;obtain ⟨bs,ok⟩:=s;dsimp only at*;refine qg Tryz.func44 rfl rfl rfl ?_;refine Q.r ?_;refine S.cr rfl hT ?_;rintro _ _ ⟨rfl,rfl⟩;refine Q.r ?_;clear hT
 by_cases he:e=0
 ·cases ok with
  |true=>
   rw[jb ⟨he,rfl⟩];unfold Vg;rw[ja (by show ¬e≠0;omega)];refine Q.r ?_;have hs:=h.sl.fromA (l:=sz) hsz h.c;rw[jX,←List.map_drop] at hs;refine N.t rfl (kZ _) ⟨rfl,Q4 a c sz 1,c - sz,⟨?_,?_,?_⟩,?_⟩
   ·dsimp only
    rw[jE];exact hs
   ·dsimp only
    rw[jE];have:=h.c;dsimp only at this;omega
   ·dsimp only
    rw[jE];have:=h.b;dsimp only at this;omega
   ·show _=zrP r _ (List.drop sz bs).length _ true::L
    rw[jE]
  |false=>
   rw[ja (by simp)];refine Q.r ?_;exact N.t rfl (kZ _) ⟨rfl,a,c,⟨h.sl,h.c,h.b⟩,rfl⟩
 ·rw[ja (λhh=>he hh.1)]
  refine Q.r ?_;exact N.t rfl (kZ _) ⟨rfl,a,c,⟨h.sl,h.c,h.b⟩,rfl⟩
theorem wN (r:Nat)(a:OA)(c:Nat)(s:RZ)(m:Nat)(hm:m≤1000000)(M:OM)(L:HL)[hM:xq M L](h:ZK M a c s):
  qh kY 42 [.pointer (some ⟨r,0,none⟩),.int .u64 m] (Ky r a c s::L)
   (λv L'=>v=.int .i64 (zU m s).1∧∃a' c',ZK M a' c' (zU m s).2∧L'=Ky r a' c' (zU m s).2::L):=by
 have hin:=KA s;refine qg Tryz.func42 rfl rfl rfl ?_;refine Q.r ?_;refine S.cr rfl (wx r a c s M _ h) ?_;rintro _ _ ⟨rfl,a1,c1,hk,rfl⟩;unfold zU
 by_cases hlt:(m:Int)<(ye s).1
 ·rw[jb hlt]
  generalize ye s=x at*;obtain ⟨v,z⟩:=x;dsimp only at*;refine Q.r ?_;exact N.t rfl (kZ _) ⟨rfl,a1,c1,⟨hk.sl,hk.c,hk.b⟩,rfl⟩
 ·rw[ja hlt]
  generalize ye s=x at*;obtain ⟨v,z⟩:=x;dsimp only at*;refine Q.r ?_;refine S.y (Y.cvi rfl) ?_;rw[vl (a:=v) zo zo];refine Q.r ?_;exact N.t rfl (kZ _) ⟨rfl,a1,c1,hk,rfl⟩
theorem WW (r:Nat)(a:OA)(c:Nat)(s:RZ)(M:OM)(L:HL)[hM:xq M L](h:ZK M a c s):
  qh kY 45 [.pointer (some ⟨r,0,none⟩)] (Ky r a c s::L)
   (λv L'=>∃va vc a' c',v=.slice va (XA s).1.length vc∧ZK M a' c' (XA s).2∧L'=slO 21 1 va (XA s).1.length vc ((XA s).1.map zC)::Ky r a' c' (XA s).2::L):=by
 have hT:=fB a c s.bs M (Ky r a c s::L) (hM:=xq.there) h.sl h.c h.b;have hsz:(K3 s.bs).2.1.length≤s.bs.length:=by
  unfold K3
  split
  ·exact jw _
  ·refine ke (jBo _ _ _) ?_
   rw[jE];omega
 unfold XA;generalize K3 s.bs=q at*;obtain ⟨v,rs,e⟩:=q;obtain ⟨bs,ok⟩:=s;dsimp only at*;refine qg Tryz.func45 rfl rfl rfl ?_;refine Q.r ?_;refine S.cr rfl hT ?_;rintro _ _ ⟨va,vc,ra,rc,rfl,hrs,hrc,rfl⟩;refine Q.r ?_;clear hT
 by_cases he:e=0
 ·cases ok with
  |true=>
   rw[jb ⟨he,rfl⟩];refine Q.r ?_;exact N.t rfl (kZ _) ⟨va,vc,ra,rc,rfl,⟨hrs,hrc,by have:=h.b;dsimp only at this ⊢;omega⟩,rfl⟩
  |false=>
   rw[ja (by simp)];refine Q.r ?_;refine N.t rfl (L':=slO 21 1 none 0 0 []::Ky r a c ⟨bs,false⟩::L) ?_ ⟨none,0,a,c,rfl,⟨h.sl,h.c,h.b⟩,rfl⟩;refine qi.trans (M:=Ky r a c ⟨bs,false⟩::L) eG vj
 ·rw[ja (λhh=>he hh.1)]
  refine Q.r ?_;refine N.t rfl (L':=slO 21 1 none 0 0 []::Ky r a c ⟨bs,false⟩::L) ?_ ⟨none,0,a,c,rfl,⟨h.sl,h.c,h.b⟩,rfl⟩;refine qi.trans (M:=Ky r a c ⟨bs,false⟩::L) eG vj
theorem rZ {α:Type}(d:RZ→α×RZ):∀(k:Nat) (s:RZ×List α),(gW d k s).2.length=s.2.length+k
 |0,s=>rfl
 |k+1,s=>by rw[Qk,rZ d k];simp;omega
structure QI (M0 M:OM)(lt:List UInt8)(k:Nat)(nv:NV)(ra:OA)(rc:Nat)(z:RZ)(R:NA×RZ):Prop where
 kl:k≤lt.length
 l:qV M0 M
 ok:xN M nv
 bd:OkN nv
 nu:xW nv.abs
 rd:ZK M ra rc z
 fin:(lt.drop k).foldl Ys (nv.abs,z)=R
 ep:112∈lt.drop k→nv.pa=none∧nv.pc=0∧nv.parts=[]
 eo:111∈lt.drop k→nv.oa=none∧nv.oc=0∧nv.ops=[]
 eh:104∈lt.drop k→nv.ha=none∧nv.hc=0∧nv.hits=[]
theorem QI.step {M0 M M':OM}{lt:List UInt8}{k:Nat}{nv nv':NV}{ra ra':OA}{rc rc':Nat}{z z':RZ}{R:NA×RZ}{f:UInt8}(h:QI M0 M lt k nv ra rc z R)(hf:lt[k]? =some f)(hnd:lt.Nodup)
  (hl:qV M M') (hok:xN M' nv') (hbd:OkN nv') (hnu:xW nv'.abs) (hrd:ZK M' ra' rc' z') (hst:Ys (nv.abs,z) f=(nv'.abs,z'))
  (hp:f=112∨(nv'.pa=nv.pa∧nv'.pc=nv.pc∧nv'.parts=nv.parts)) (ho:f=111∨(nv'.oa=nv.oa∧nv'.oc=nv.oc∧nv'.ops=nv.ops)) (hh:f=104∨(nv'.ha=nv.ha∧nv'.hc=nv.hc∧nv'.hits=nv.hits)):QI M0 M' lt (k+1) nv' ra' rc' z' R:=by
 have hlt:k<lt.length:=(jm.1 hf).1;have hd:lt.drop k=f::lt.drop (k+1):=by
  rw[List.drop_eq_getElem_cons hlt]
  congr 1
  exact (jm.1 hf).2
 have hnm:f∉lt.drop (k+1):=by
  have:(lt.drop k).Nodup:=(List.drop_sublist k lt).nodup hnd;rw[hd] at this;exact (List.nodup_cons.1 this).1
 have hfin:=h.fin;rw[hd,List.foldl_cons,hst] at hfin;have hm:∀g,g∈lt.drop (k+1)→g∈lt.drop k:=λg hg=>by rw[hd];exact jV _ hg
 refine ⟨hlt,h.l.trans hl,hok,hbd,hnu,hrd,hfin,λhg=> ?_,λhg=> ?_,λhg=> ?_⟩
 ·rcases hp with rfl|⟨e1,e2,e3⟩
  ·exact absurd hg hnm
  ·rw[e1,e2,e3];exact h.ep (hm _ hg)
 ·rcases ho with rfl|⟨e1,e2,e3⟩
  ·exact absurd hg hnm
  ·rw[e1,e2,e3];exact h.eo (hm _ hg)
 ·rcases hh with rfl|⟨e1,e2,e3⟩
  ·exact absurd hg hnm
  ·rw[e1,e2,e3];exact h.eh (hm _ hg)
theorem QI.at {M0 M:OM}{lt:List UInt8}{k:Nat}{nv:NV}{ra:OA}{rc:Nat}{z:RZ}{R:NA×RZ}{f:UInt8}(h:QI M0 M lt k nv ra rc z R)(hf:lt[k]? =some f):f∈lt.drop k:=by
 have hlt:k<lt.length:=(jm.1 hf).1;rw[List.drop_eq_getElem_cons hlt,(jm.1 hf).2];exact kg
theorem pd (k:Nat):(xd k).Nodup:=by
 rw[Wd];exact List.filter_sublist.nodup zd
abbrev nC0 (nv:NV)(pa:OA)(pc pl:Nat)(oa:OA)(oc ol:Nat)(ha:OA)(hc hl:Nat):Obj:=cl [.int .u8 nv.kind,.int .u64 nv.txn,.int .u64 nv.batch,.int .u64 nv.stamp,.int .u64 nv.after,.int .u64 nv.mark,.int .u64 nv.query,.int .u64 nv.id,.int .i64 nv.k,.int .i64 nv.ef,.int .i64 nv.code,.int .i64 nv.who,.slice pa pl pc,.slice oa ol oc,.slice nv.va nv.vec.length nv.vc,.slice ha hl hc] 43
def jHm (M:OM)(L0:HL)(bs:List UInt8)(v:Value)(L':HL):Prop:=∃n:NV,∃M',v=.tuple #[n.val,.int .i64 (KG bs)]∧n.abs=jBT bs∧xN M' n∧OkN n∧qV M M'∧L'=qp M'::L0
theorem xW.zero :xW NA.zero:=⟨by decide,by decide,by decide,by decide,by decide,by decide,by decide,by decide,by decide,by decide,by decide,by decide⟩
set_option maxRecDepth 100000 in
theorem xK (a:OA)(c:Nat)(bs:List UInt8)(M:OM)(L0:HL)(h:qI M a bs.length 1 (bs.map B))(hc:bs.length≤c)(hb:bs.length≤1000000):
  qh kY 10 [.slice a bs.length c] (qp M::L0) (jHm M L0 bs):=by
 refine qg Tryz.func10 rfl rfl rfl ?_;refine Q.r ?_;(repeat (intro b1;refine Q.r ?_));revert b1;intro b2;refine S.cq (A:=qp M) rfl (pL a c bs M _ h hc hb) ?_;rintro _ _ ⟨v,w,M1,rfl,hv,hw,hvo,hwo,hvc,hwc,hl1,rfl⟩;have nul:∀(M':OM),qV M M'→KG bs≠0→∀L',L'=qp M'::L0→jHm M L0 bs (.tuple #[NA.zero.nv.val,.int .i64 (KG bs)]) L':=λM' hl hC _ e=>⟨NA.zero.nv,M',rfl,by unfold jBT;rw[ja hC];rfl,xN.nv _,OkN.nv _,hl,e⟩
 by_cases h0:JD bs=0
 case neg=>
  have hC:KG bs=JD bs:=jb h0;have hC0:KG bs≠0:=by rw[hC];exact h0
  rw[←hC];have hD:decide (¬KG bs=0)=true:=jo hC0;have nul:=nul M1 hl1 hC0 _ rfl;generalize KG bs=E at*;refine Q.r ?_;exact N.r2 (by apply RV.cellN;rfl;exact vi.row;rfl;exact RV.tmp rfl RV.nil) (L':=qp M1::L0) eG nul
 rw[jb h0] at hv hw;rw[h0]
 by_cases hr:ZM bs=[]
 case neg=>
  have hC:KG bs=4:=by unfold KG;rw[ja (by simp[h0]),jb hr]
  have nul:=nul M1 hl1 (by rw[hC];decide) _ rfl;rw[hC] at nul;have hw0:0<w.bs.length:=by rw[hw];exact kA.2 hr
  refine Q.r ?_;exact N.r2 (by apply RV.cellN;rfl;exact vi.row;rfl;exact RV.tmp rfl RV.nil) (L':=qp M1::L0) eG nul
 have hw0:w.bs.length=0:=by rw[hw,hr];rfl
 have hCC:KG bs=if (XH bs).2.ok=true∧(XH bs).2.bs=[]∧qn (XH bs).1=true then 0 else 4:=by
  unfold KG;rw[ja (by simp[h0]),ja (by simp[hr])]
 have hvl:v.bs.length≤bs.length:=hv▸jCd bs;have hZ0:XH bs=(xd (zU 255 ⟨v.bs,true⟩).1.toNat).foldl Ys ({NA.zero with kind:=(zU 255 ⟨v.bs,true⟩).1},(zU 255 ⟨v.bs,true⟩).2):=by rw[hv];rfl
 refine Q.r ?_;(repeat (intro b1;refine Q.r ?_));revert b1;intro br;have hk0:ZK M1 v.a v.c ⟨v.bs,true⟩:=⟨hvo,hvc,by show v.bs.length≤_;omega⟩;refine S.c1 (A:=Ky br v.a v.c ⟨v.bs,true⟩) rfl (wN br v.a v.c ⟨v.bs,true⟩ 255 zd M1 _ hk0) ?_;rintro _ _ ⟨rfl,a1,c1,hk1,rfl⟩;have hkin:=KD 255 ⟨v.bs,true⟩;generalize zU 255 ⟨v.bs,true⟩=x at*;obtain ⟨kd,z1⟩:=x;dsimp only at*;obtain ⟨kn,hkn⟩:∃kn:Nat,kd=(kn:Int):=⟨kd.toNat,by omega⟩;subst hkn;rw[kz] at hZ0;refine Q.r ?_;refine S.y (Y.cvi rfl) ?_;have hw8:IntKind.u8.wrap (kn:Int)=kn:=by rw[IntKind.wrap_u8];omega
 rw[hw8];refine Q.r ?_;(repeat (intro b1;refine Q.r ?_));revert b1;intro b8;refine S.cr rfl (Q0 kn _ zo) ?_;rintro _ _ ⟨rfl,he⟩;rw[he];clear he;have hnd:=pd kn;have hle:=dX kn;have hab:∀i f,(xd kn)[i]? =some f→f∈abc:=λi f h=>jDv h
 generalize xd kn=lt at*;have h00:QI M1 M1 lt 0 {NA.zero.nv with kind:=(kn:Int)} a1 c1 z1 (XH bs):=⟨jw _,qV.refl _,xN.nv {NA.zero with kind:=(kn:Int)},OkN.nv {NA.zero with kind:=(kn:Int)},{xW.zero with kind:=⟨hkin.1,hkin.2⟩},hk1,hZ0.symm,λ_=>⟨rfl,rfl,rfl⟩,λ_=>⟨rfl,rfl,rfl⟩,λ_=>⟨rfl,rfl,rfl⟩⟩;generalize hRN:XH bs=RR at*;refine Q.r ?_;refine qw (σ:=NV×OA×Nat×RZ×(OM)) (λ_=> [(2,.pointer (some ⟨b2,0,none⟩)),(7,.pointer (some ⟨br,0,none⟩)),(8,.pointer (some ⟨b8,0,none⟩))]) (λs=>pt b8 (nC s.1)::Ky br s.2.1 s.2.2.1 s.2.2.2.1::pt b2 (nC NA.zero.nv)::qp s.2.2.2.2::L0) (λs=>QI M1 s.2.2.2.2 lt lt.length s.1 s.2.1 s.2.2.1 s.2.2.2.1 RR) ?_ ?_
 ·refine ql (σ:=Nat×NV×OA×Nat×RZ×(OM)) (λs=> [(2,.pointer (some ⟨b2,0,none⟩)),(7,.pointer (some ⟨br,0,none⟩)),(8,.pointer (some ⟨b8,0,none⟩)),(10,str lt),(11,.int .i64 s.1)])
   (λs=>pt b8 (nC s.2.1)::Ky br s.2.2.1 s.2.2.2.1 s.2.2.2.2.1::pt b2 (nC NA.zero.nv)::qp s.2.2.2.2.2::L0) (λs=>QI M1 s.2.2.2.2.2 lt s.1 s.2.1 s.2.2.1 s.2.2.2.1 s.2.2.2.2.1 RR) (λs=>lt.length - s.1) (0,{NA.zero.nv with kind:=(kn:Int)},a1,c1,z1,M1) zt eG h00 ?_
  rintro ⟨k,nv,ra,rc,z,M2⟩ hI;dsimp only at hI ⊢;have hik:=hI.kl;have hik2:k≤15:=by omega
  by_cases hlt:k<lt.length
  ·obtain ⟨f,hf⟩:=qx hlt
   have hfa:=hab k f hf;have hlt':(k:Int)<lt.length:=by omega
   refine Q.r ?_;refine S.y (Y.slen rfl) ?_;refine Q.r ?_;refine S.y (Y.idx rfl rfl (jGC hf)) ?_;unfold abc at hfa;simp only[j9,List.not_mem_nil,or_false] at hfa
   rcases hfa with rfl|rfl|rfl|rfl|rfl|rfl|rfl|rfl|rfl|rfl|rfl|rfl|rfl|rfl|rfl
   ·refine Q.r ?_
    refine S.c1 (A:=Ky br ra rc z) rfl (wx br ra rc z M2 _ hI.rd) ?_;rintro _ _ ⟨rfl,a3,c3,hk3,rfl⟩;have hb:=KA z;refine Q.r ?_;exact ⟨(k+1,{nv with txn:=(ye z).1},a3,c3,(ye z).2,M2),zt,by exact eG,hI.step hf hnd (qV.refl _) ⟨hI.ok.p,hI.ok.o,hI.ok.v,hI.ok.h,hI.ok.hv⟩ ⟨hI.bd.p,hI.bd.o,hI.bd.ov,hI.bd.v,hI.bd.h,hI.bd.hv⟩ {hI.nu with txn:=hb} hk3 rfl (.inr ⟨rfl,rfl,rfl⟩) (.inr ⟨rfl,rfl,rfl⟩) (.inr ⟨rfl,rfl,rfl⟩),jr lt.length k hlt⟩
   ·refine Q.r ?_
    refine S.c1 (A:=Ky br ra rc z) rfl (wx br ra rc z M2 _ hI.rd) ?_;rintro _ _ ⟨rfl,a3,c3,hk3,rfl⟩;have hb:=KA z;refine Q.r ?_;exact ⟨(k+1,{nv with batch:=(ye z).1},a3,c3,(ye z).2,M2),zt,by exact eG,hI.step hf hnd (qV.refl _) ⟨hI.ok.p,hI.ok.o,hI.ok.v,hI.ok.h,hI.ok.hv⟩ ⟨hI.bd.p,hI.bd.o,hI.bd.ov,hI.bd.v,hI.bd.h,hI.bd.hv⟩ {hI.nu with batch:=hb} hk3 rfl (.inr ⟨rfl,rfl,rfl⟩) (.inr ⟨rfl,rfl,rfl⟩) (.inr ⟨rfl,rfl,rfl⟩),jr lt.length k hlt⟩
   ·refine Q.r ?_
    refine S.c1 (A:=Ky br ra rc z) rfl (wx br ra rc z M2 _ hI.rd) ?_;rintro _ _ ⟨rfl,a3,c3,hk3,rfl⟩;have hb:=KA z;refine Q.r ?_;exact ⟨(k+1,{nv with stamp:=(ye z).1},a3,c3,(ye z).2,M2),zt,by exact eG,hI.step hf hnd (qV.refl _) ⟨hI.ok.p,hI.ok.o,hI.ok.v,hI.ok.h,hI.ok.hv⟩ ⟨hI.bd.p,hI.bd.o,hI.bd.ov,hI.bd.v,hI.bd.h,hI.bd.hv⟩ {hI.nu with stamp:=hb} hk3 rfl (.inr ⟨rfl,rfl,rfl⟩) (.inr ⟨rfl,rfl,rfl⟩) (.inr ⟨rfl,rfl,rfl⟩),jr lt.length k hlt⟩
   ·refine Q.r ?_
    refine S.c1 (A:=Ky br ra rc z) rfl (wx br ra rc z M2 _ hI.rd) ?_;rintro _ _ ⟨rfl,a3,c3,hk3,rfl⟩;have hb:=KA z;refine Q.r ?_;exact ⟨(k+1,{nv with after:=(ye z).1},a3,c3,(ye z).2,M2),zt,by exact eG,hI.step hf hnd (qV.refl _) ⟨hI.ok.p,hI.ok.o,hI.ok.v,hI.ok.h,hI.ok.hv⟩ ⟨hI.bd.p,hI.bd.o,hI.bd.ov,hI.bd.v,hI.bd.h,hI.bd.hv⟩ {hI.nu with after:=hb} hk3 rfl (.inr ⟨rfl,rfl,rfl⟩) (.inr ⟨rfl,rfl,rfl⟩) (.inr ⟨rfl,rfl,rfl⟩),jr lt.length k hlt⟩
   ·refine Q.r ?_
    refine S.c1 (A:=Ky br ra rc z) rfl (wx br ra rc z M2 _ hI.rd) ?_;rintro _ _ ⟨rfl,a3,c3,hk3,rfl⟩;have hb:=KA z;refine Q.r ?_;exact ⟨(k+1,{nv with mark:=(ye z).1},a3,c3,(ye z).2,M2),zt,by exact eG,hI.step hf hnd (qV.refl _) ⟨hI.ok.p,hI.ok.o,hI.ok.v,hI.ok.h,hI.ok.hv⟩ ⟨hI.bd.p,hI.bd.o,hI.bd.ov,hI.bd.v,hI.bd.h,hI.bd.hv⟩ {hI.nu with mark:=hb} hk3 rfl (.inr ⟨rfl,rfl,rfl⟩) (.inr ⟨rfl,rfl,rfl⟩) (.inr ⟨rfl,rfl,rfl⟩),jr lt.length k hlt⟩
   ·refine Q.r ?_
    refine S.c1 (A:=Ky br ra rc z) rfl (wx br ra rc z M2 _ hI.rd) ?_;rintro _ _ ⟨rfl,a3,c3,hk3,rfl⟩;have hb:=KA z;refine Q.r ?_;exact ⟨(k+1,{nv with query:=(ye z).1},a3,c3,(ye z).2,M2),zt,by exact eG,hI.step hf hnd (qV.refl _) ⟨hI.ok.p,hI.ok.o,hI.ok.v,hI.ok.h,hI.ok.hv⟩ ⟨hI.bd.p,hI.bd.o,hI.bd.ov,hI.bd.v,hI.bd.h,hI.bd.hv⟩ {hI.nu with query:=hb} hk3 rfl (.inr ⟨rfl,rfl,rfl⟩) (.inr ⟨rfl,rfl,rfl⟩) (.inr ⟨rfl,rfl,rfl⟩),jr lt.length k hlt⟩
   ·refine Q.r ?_
    refine S.c1 (A:=Ky br ra rc z) rfl (wx br ra rc z M2 _ hI.rd) ?_;rintro _ _ ⟨rfl,a3,c3,hk3,rfl⟩;have hb:=KA z;refine Q.r ?_;exact ⟨(k+1,{nv with id:=(ye z).1},a3,c3,(ye z).2,M2),zt,by exact eG,hI.step hf hnd (qV.refl _) ⟨hI.ok.p,hI.ok.o,hI.ok.v,hI.ok.h,hI.ok.hv⟩ ⟨hI.bd.p,hI.bd.o,hI.bd.ov,hI.bd.v,hI.bd.h,hI.bd.hv⟩ {hI.nu with id:=hb} hk3 rfl (.inr ⟨rfl,rfl,rfl⟩) (.inr ⟨rfl,rfl,rfl⟩) (.inr ⟨rfl,rfl,rfl⟩),jr lt.length k hlt⟩
   ·refine Q.r ?_
    refine S.c1 (A:=Ky br ra rc z) rfl (wN br ra rc z 16 zd M2 _ hI.rd) ?_;rintro _ _ ⟨rfl,a3,c3,hk3,rfl⟩;have hb:=KD 16 z;refine Q.r ?_;exact ⟨(k+1,{nv with k:=(zU 16 z).1},a3,c3,(zU 16 z).2,M2),zt,by exact eG,hI.step hf hnd (qV.refl _) ⟨hI.ok.p,hI.ok.o,hI.ok.v,hI.ok.h,hI.ok.hv⟩ ⟨hI.bd.p,hI.bd.o,hI.bd.ov,hI.bd.v,hI.bd.h,hI.bd.hv⟩ {hI.nu with k:=Int.le_trans hb.2 zd} hk3 rfl (.inr ⟨rfl,rfl,rfl⟩) (.inr ⟨rfl,rfl,rfl⟩) (.inr ⟨rfl,rfl,rfl⟩),jr lt.length k hlt⟩
   ·refine Q.r ?_
    refine S.c1 (A:=Ky br ra rc z) rfl (wN br ra rc z 256 zd M2 _ hI.rd) ?_;rintro _ _ ⟨rfl,a3,c3,hk3,rfl⟩;have hb:=KD 256 z;refine Q.r ?_;exact ⟨(k+1,{nv with ef:=(zU 256 z).1},a3,c3,(zU 256 z).2,M2),zt,by exact eG,hI.step hf hnd (qV.refl _) ⟨hI.ok.p,hI.ok.o,hI.ok.v,hI.ok.h,hI.ok.hv⟩ ⟨hI.bd.p,hI.bd.o,hI.bd.ov,hI.bd.v,hI.bd.h,hI.bd.hv⟩ {hI.nu with ef:=Int.le_trans hb.2 zd} hk3 rfl (.inr ⟨rfl,rfl,rfl⟩) (.inr ⟨rfl,rfl,rfl⟩) (.inr ⟨rfl,rfl,rfl⟩),jr lt.length k hlt⟩
   ·refine Q.r ?_
    refine S.c1 (A:=Ky br ra rc z) rfl (wN br ra rc z 13 zd M2 _ hI.rd) ?_;rintro _ _ ⟨rfl,a3,c3,hk3,rfl⟩;have hb:=KD 13 z;refine Q.r ?_;exact ⟨(k+1,{nv with code:=(zU 13 z).1},a3,c3,(zU 13 z).2,M2),zt,by exact eG,hI.step hf hnd (qV.refl _) ⟨hI.ok.p,hI.ok.o,hI.ok.v,hI.ok.h,hI.ok.hv⟩ ⟨hI.bd.p,hI.bd.o,hI.bd.ov,hI.bd.v,hI.bd.h,hI.bd.hv⟩ {hI.nu with code:=Int.le_trans hb.2 zd} hk3 rfl (.inr ⟨rfl,rfl,rfl⟩) (.inr ⟨rfl,rfl,rfl⟩) (.inr ⟨rfl,rfl,rfl⟩),jr lt.length k hlt⟩
   ·refine Q.r ?_
    refine S.c1 (A:=Ky br ra rc z) rfl (wN br ra rc z 15 zd M2 _ hI.rd) ?_;rintro _ _ ⟨rfl,a3,c3,hk3,rfl⟩;have hb:=KD 15 z;refine Q.r ?_;exact ⟨(k+1,{nv with who:=(zU 15 z).1},a3,c3,(zU 15 z).2,M2),zt,by exact eG,hI.step hf hnd (qV.refl _) ⟨hI.ok.p,hI.ok.o,hI.ok.v,hI.ok.h,hI.ok.hv⟩ ⟨hI.bd.p,hI.bd.o,hI.bd.ov,hI.bd.v,hI.bd.h,hI.bd.hv⟩ {hI.nu with who:=Int.le_trans hb.2 zd} hk3 rfl (.inr ⟨rfl,rfl,rfl⟩) (.inr ⟨rfl,rfl,rfl⟩) (.inr ⟨rfl,rfl,rfl⟩),jr lt.length k hlt⟩
   ·obtain ⟨ep1,ep2,ep3⟩:=hI.ep (hI.at hf)
    have hq:nC nv=nC0 nv none 0 0 nv.oa nv.oc nv.ops.length nv.ha nv.hc nv.hits.length:=by
     unfold nC nC0 NV.cells;rw[ep1,ep2,ep3];rfl
    rw[hq];refine Q.r ?_;refine S.c1 (A:=Ky br ra rc z) rfl (wN br ra rc z 4 zd M2 _ hI.rd) ?_;rintro _ _ ⟨rfl,a3,c3,hk3,rfl⟩;have hb:=KD 4 z;obtain ⟨T,hT⟩:∃T,Wa 4 (zU 15) z=T:=⟨_,rfl⟩;have hst:Ys (nv.abs,z) 112=({nv.abs with parts:=T.1},T.2):=by rw[←hT];rfl
    unfold Wa at hT;generalize zU 4 z=y at*;obtain ⟨m0,z3⟩:=y;dsimp only at*;obtain ⟨np,hnp⟩:∃np:Nat,m0=(np:Int):=⟨m0.toNat,by omega⟩;subst hnp;rw[kz] at hT;generalize hF:gW (zU 15) np (z3,[])=F at hT;have hFl:F.2.length=np:=by rw[←hF,rZ];simp
    subst hT;refine Q.r ?_;refine ql (σ:=OA×Nat×OA×Nat×Nat×(RZ×List Int)) (λs=> [(2,.pointer (some ⟨b2,0,none⟩)),(7,.pointer (some ⟨br,0,none⟩)),(8,.pointer (some ⟨b8,0,none⟩)),(10,str lt),(11,.int .i64 k),(123,.int .i64 np),(124,.int .i64 s.2.2.2.2.1)])
     (λs=>pt b8 (nC0 nv s.1 s.2.1 s.2.2.2.2.2.2.length nv.oa nv.oc nv.ops.length nv.ha nv.hc nv.hits.length)::slO 3 1 s.1 s.2.2.2.2.2.2.length s.2.1 (s.2.2.2.2.2.2.map I64)::Ky br s.2.2.1 s.2.2.2.1 s.2.2.2.2.2.1::pt b2 (nC NA.zero.nv)::qp M2::L0)
     (λs=>s.2.2.2.2.1≤np∧s.2.2.2.2.2.2.length=s.2.2.2.2.1∧ZK M2 s.2.2.1 s.2.2.2.1 s.2.2.2.2.2.1∧gW (zU 15) (np - s.2.2.2.2.1) s.2.2.2.2.2=F) (λs=>np - s.2.2.2.2.1) (none,0,a3,c3,0,(z3,[])) zt eG ⟨jw _,rfl,hk3,hF⟩ ?_
    rintro ⟨pa,pc,ra2,rc2,i,z4,l⟩ ⟨hi,hl,hkz,hz⟩;dsimp only at hi hl hkz hz ⊢
    by_cases hlp:i<np
    ·have hlp':(i:Int)<np:=by omega
     refine Q.r ?_;have en2:np - i=(np - (i+1))+1:=by omega
     rw[en2,Qk] at hz;refine Q.dgo [true,false,false,false,false] [3,4,5,7] [7] [0,1,2,3,4,5,6,7] ?_;refine Q.rd2 ?_;refine D.e rfl rfl rfl ?_;refine S.c1 (A:=Ky br ra2 rc2 z4) rfl (wN br ra2 rc2 z4 15 zd M2 _ hkz) ?_;rintro _ _ ⟨rfl,a14,c14,hk14,rfl⟩;have hv4:=KD 15 z4;have hz:gW (zU 15) (np - (i+1)) ((zU 15 z4).2,l++[(zU 15 z4).1])=F:=hz;generalize zU 15 z4=x14 at*;obtain ⟨q,z14⟩:=x14;dsimp only at*;refine Q.r ?_;refine Q.rd2 ?_;refine D.e rfl rfl rfl ?_;refine Q.r ?_;(repeat (intro b1;refine Q.r ?_));refine Q.rd2 ?_;refine D.e rfl rfl rfl ?_;refine S.app rfl rfl (vG.sl vi.row zr zr) zr zo zo (λa7 c7=> ?_);refine Q.r ?_;refine Q.rd2 ?_;refine Q.dc rfl rfl rfl rfl ?_;refine Q.r ?_;refine Q.rd2 ?_;refine Q.r ?_;refine ⟨(a7,c7,a14,c14,i+1,z14,l++[q]),⟨rfl,rfl,rfl,rfl,rfl,rfl,jj some (by simp[jU]),trivial⟩,?_,⟨hlp,by dsimp only;rw[qG,hl],hk14,hz⟩,jr np i hlp⟩;dsimp only;rw[qG,jq,jL,kC];exact eG
    ·have hie:i=np:=by omega
     rw[hie,Nat.sub_self] at hz;have hz:(z4,l)=F:=hz;subst hz;dsimp only at hst hFl;refine wF pa (λM3 hl3 hs3=> ?_);refine Q.r ?_;exact ⟨(k+1,{nv with pa:=pa,pc:=pc,parts:=l},ra2,rc2,z4,M3),zt,by exact eG,hI.step hf hnd hl3 ⟨hs3,(hI.ok.mono hl3).o,(hI.ok.mono hl3).v,(hI.ok.mono hl3).h,(hI.ok.mono hl3).hv⟩ ⟨by show l.length≤_;omega,hI.bd.o,hI.bd.ov,hI.bd.v,hI.bd.h,hI.bd.hv⟩ ⟨hI.nu.kind,hI.nu.txn,hI.nu.batch,hI.nu.stamp,hI.nu.after,hI.nu.mark,hI.nu.query,hI.nu.id,hI.nu.k,hI.nu.ef,hI.nu.code,hI.nu.who⟩ (hkz.mono hl3) hst (.inl rfl) (.inr ⟨rfl,rfl,rfl⟩) (.inr ⟨rfl,rfl,rfl⟩),jr lt.length k hlt⟩
   ·obtain ⟨ep1,ep2,ep3⟩:=hI.eo (hI.at hf)
    have hq:nC nv=nC0 nv nv.pa nv.pc nv.parts.length none 0 0 nv.ha nv.hc nv.hits.length:=by
     unfold nC nC0 NV.cells;rw[ep1,ep2,ep3];rfl
    rw[hq];refine Q.r ?_;refine S.c1 (A:=Ky br ra rc z) rfl (wN br ra rc z 16 zd M2 _ hI.rd) ?_;rintro _ _ ⟨rfl,a3,c3,hk3,rfl⟩;have hb:=KD 16 z;obtain ⟨T,hT⟩:∃T,Wa 16 opF z=T:=⟨_,rfl⟩;have hst:Ys (nv.abs,z) 111=({nv.abs with ops:=T.1},T.2):=by rw[←hT];rfl
    unfold Wa at hT;generalize zU 16 z=y at*;obtain ⟨m0,z3⟩:=y;dsimp only at*;obtain ⟨np,hnp⟩:∃np:Nat,m0=(np:Int):=⟨m0.toNat,by omega⟩;subst hnp;rw[kz] at hT;generalize hF:gW opF np (z3,[])=F at hT;subst hT;refine Q.r ?_;refine ql (σ:=OA×Nat×OA×Nat×(OM)×List OV×Nat×RZ) (λs=> [(2,.pointer (some ⟨b2,0,none⟩)),(7,.pointer (some ⟨br,0,none⟩)),(8,.pointer (some ⟨b8,0,none⟩)),(10,str lt),(11,.int .i64 k),(137,.int .i64 np),(138,.int .i64 s.2.2.2.2.2.2.1)])
     (λs=>pt b8 (nC0 nv nv.pa nv.pc nv.parts.length s.1 s.2.1 s.2.2.2.2.2.1.length nv.ha nv.hc nv.hits.length)::slO 38 2 s.1 s.2.2.2.2.2.1.length s.2.1 (s.2.2.2.2.2.1.flatMap OV.cells)::Ky br s.2.2.1 s.2.2.2.1 s.2.2.2.2.2.2.2::pt b2 (nC NA.zero.nv)::qp s.2.2.2.2.1::L0)
     (λs=>s.2.2.2.2.2.2.1≤np∧s.2.2.2.2.2.1.length=s.2.2.2.2.2.2.1∧ZK s.2.2.2.2.1 s.2.2.1 s.2.2.2.1 s.2.2.2.2.2.2.2∧qV M2 s.2.2.2.2.1∧okR s.2.2.2.2.1 s.2.2.2.2.2.1∧(∀o∈s.2.2.2.2.2.1,o.vec.length≤8)∧gW opF (np - s.2.2.2.2.2.2.1) (s.2.2.2.2.2.2.2,s.2.2.2.2.2.1.map OV.abs)=F) (λs=>np - s.2.2.2.2.2.2.1) (none,0,a3,c3,M2,[],0,z3) zt eG ⟨jw _,rfl,hk3,qV.refl _,(λ_ h=>by cases h),(λ_ h=>by cases h),hF⟩ ?_
    rintro ⟨oa,oc,ra2,rc2,M3,os,i,z4⟩ ⟨hi,hl,hkz,hl2,hos,hov,hz⟩;dsimp only at hi hl hkz hl2 hos hov hz ⊢
    by_cases hlp:i<np
    ·have hlp':(i:Int)<np:=by omega
     refine Q.r ?_;have en2:np - i=(np - (i+1))+1:=by omega
     rw[en2,Qk] at hz;refine Q.dgo [true,false,false,false,false] [3,5,7,8,10] [10] [0,1,2,4,3,5,6,7,8,9,10] ?_;refine Q.rd2 ?_;refine D.e rfl rfl rfl ?_;refine S.c1 (A:=Ky br ra2 rc2 z4) rfl (wx br ra2 rc2 z4 M3 _ hkz) ?_;rintro _ _ ⟨rfl,a16,c16,hk16,rfl⟩;have hz:gW opF (np - (i+1)) ((XA (ye z4).2).2,os.map OV.abs++[((ye z4).1,(XA (ye z4).2).1)])=F:=hz;generalize ye z4=x16 at*;obtain ⟨q,z16⟩:=x16;dsimp only at*;refine Q.r ?_;refine Q.rd2 ?_;refine D.e rfl rfl rfl ?_;refine S.c1 (A:=Ky br a16 c16 z16) rfl (WW br a16 c16 z16 M3 _ hk16) ?_;rintro _ _ ⟨va,vc,a17,c17,rfl,hk17,rfl⟩;have hv8:=nf z16;generalize XA z16=y16 at*;obtain ⟨vv,z17⟩:=y16;dsimp only at*;refine qR va (λM4 hl4 hsv=> ?_);refine Q.r ?_;refine Q.rd2 ?_;refine D.e rfl rfl rfl ?_;refine Q.r ?_;(repeat (intro b1;refine Q.r ?_));refine Q.rd2 ?_;refine D.e rfl rfl rfl ?_;refine S.app rfl rfl (vG.sl vi.row zr zr) zr zo zo (λa7 c7=> ?_);refine Q.r ?_;refine Q.rd2 ?_;refine Q.dc rfl rfl rfl rfl ?_;refine Q.r ?_;refine Q.rd2 ?_;refine Q.r ?_;refine ⟨(a7,c7,a17,c17,M4,os++[⟨q,va,vc,vv⟩],i+1,z17),⟨rfl,rfl,rfl,rfl,rfl,rfl,jj some (by simp[jU]),trivial⟩,?_,⟨hlp,by dsimp only;rw[qG,hl],hk17.mono hl4,hl2.trans hl4,λo ho=> ?_,λo ho=> ?_,by dsimp only;rw[jq];exact hz⟩,jr np i hlp⟩
     ·dsimp only
      rw[qG,vK];exact eG
     ·rcases jy.1 ho with ho|ho
      ·exact (hos o ho).mono hl4
      ·rw[ji.1 ho];exact hsv
     ·rcases jy.1 ho with ho|ho
      ·exact hov o ho
      ·rw[ji.1 ho];exact hv8
    ·have hie:i=np:=by omega
     rw[hie,Nat.sub_self] at hz;have hz:(z4,os.map OV.abs)=F:=hz;subst hz;dsimp only at hst;refine wF oa (λM4 hl4 hs4=> ?_);refine Q.r ?_;have hl24:=hl2.trans hl4;exact ⟨(k+1,{nv with oa:=oa,oc:=oc,ops:=os},ra2,rc2,z4,M4),zt,by exact eG,hI.step hf hnd hl24 ⟨(hI.ok.mono hl24).p,⟨hs4,λo ho=>(hos o ho).mono hl4⟩,(hI.ok.mono hl24).v,(hI.ok.mono hl24).h,(hI.ok.mono hl24).hv⟩ ⟨hI.bd.p,by show os.length≤_;omega,λo ho=>by have:=hov o ho;omega,hI.bd.v,hI.bd.h,hI.bd.hv⟩ ⟨hI.nu.kind,hI.nu.txn,hI.nu.batch,hI.nu.stamp,hI.nu.after,hI.nu.mark,hI.nu.query,hI.nu.id,hI.nu.k,hI.nu.ef,hI.nu.code,hI.nu.who⟩ (hkz.mono hl4) hst (.inr ⟨rfl,rfl,rfl⟩) (.inl rfl) (.inr ⟨rfl,rfl,rfl⟩),jr lt.length k hlt⟩
   ·refine Q.r ?_
    refine S.c1 (A:=Ky br ra rc z) rfl (WW br ra rc z M2 _ hI.rd) ?_;rintro _ _ ⟨va,vc,a3,c3,rfl,hk3,rfl⟩;have hb:=nf z;have hst:Ys (nv.abs,z) 118=({nv.abs with vec:=(XA z).1},(XA z).2):=rfl;generalize XA z=y at*;obtain ⟨vv,z3⟩:=y;dsimp only at*;refine qR va (λM3 hl3 hsv=> ?_);refine Q.r ?_;exact ⟨(k+1,{nv with va:=va,vc:=vc,vec:=vv},a3,c3,z3,M3),zt,by exact eG,hI.step hf hnd hl3 ⟨(hI.ok.mono hl3).p,(hI.ok.mono hl3).o,hsv,(hI.ok.mono hl3).h,(hI.ok.mono hl3).hv⟩ ⟨hI.bd.p,hI.bd.o,hI.bd.ov,by show vv.length≤_;omega,hI.bd.h,hI.bd.hv⟩ ⟨hI.nu.kind,hI.nu.txn,hI.nu.batch,hI.nu.stamp,hI.nu.after,hI.nu.mark,hI.nu.query,hI.nu.id,hI.nu.k,hI.nu.ef,hI.nu.code,hI.nu.who⟩ (hk3.mono hl3) hst (.inr ⟨rfl,rfl,rfl⟩) (.inr ⟨rfl,rfl,rfl⟩) (.inr ⟨rfl,rfl,rfl⟩),jr lt.length k hlt⟩
   ·obtain ⟨ep1,ep2,ep3⟩:=hI.eh (hI.at hf)
    have hq:nC nv=nC0 nv nv.pa nv.pc nv.parts.length nv.oa nv.oc nv.ops.length none 0 0:=by
     unfold nC nC0 NV.cells;rw[ep1,ep2,ep3];rfl
    rw[hq];refine Q.r ?_;refine S.c1 (A:=Ky br ra rc z) rfl (wN br ra rc z 16 zd M2 _ hI.rd) ?_;rintro _ _ ⟨rfl,a3,c3,hk3,rfl⟩;have hb:=KD 16 z;obtain ⟨T,hT⟩:∃T,Wa 16 htF z=T:=⟨_,rfl⟩;have hst:Ys (nv.abs,z) 104=({nv.abs with hits:=T.1},T.2):=by rw[←hT];rfl
    unfold Wa at hT;generalize zU 16 z=y at*;obtain ⟨m0,z3⟩:=y;dsimp only at*;obtain ⟨np,hnp⟩:∃np:Nat,m0=(np:Int):=⟨m0.toNat,by omega⟩;subst hnp;rw[kz] at hT;generalize hF:gW htF np (z3,[])=F at hT;subst hT;refine Q.r ?_;refine ql (σ:=OA×Nat×OA×Nat×(OM)×List HV×Nat×RZ) (λs=> [(2,.pointer (some ⟨b2,0,none⟩)),(7,.pointer (some ⟨br,0,none⟩)),(8,.pointer (some ⟨b8,0,none⟩)),(10,str lt),(11,.int .i64 k),(49,.int .i64 np),(50,.int .i64 s.2.2.2.2.2.2.1)])
     (λs=>pt b8 (nC0 nv nv.pa nv.pc nv.parts.length nv.oa nv.oc nv.ops.length s.1 s.2.1 s.2.2.2.2.2.1.length)::slO 113 3 s.1 s.2.2.2.2.2.1.length s.2.1 (s.2.2.2.2.2.1.flatMap HV.cells)::Ky br s.2.2.1 s.2.2.2.1 s.2.2.2.2.2.2.2::pt b2 (nC NA.zero.nv)::qp s.2.2.2.2.1::L0)
     (λs=>s.2.2.2.2.2.2.1≤np∧s.2.2.2.2.2.1.length=s.2.2.2.2.2.2.1∧ZK s.2.2.2.2.1 s.2.2.1 s.2.2.2.1 s.2.2.2.2.2.2.2∧qV M2 s.2.2.2.2.1∧(∀h∈s.2.2.2.2.2.1,qI s.2.2.2.2.1 h.a h.vec.length 1 (h.vec.map zC))∧(∀o∈s.2.2.2.2.2.1,o.vec.length≤8)∧gW htF (np - s.2.2.2.2.2.2.1) (s.2.2.2.2.2.2.2,s.2.2.2.2.2.1.map HV.abs)=F) (λs=>np - s.2.2.2.2.2.2.1) (none,0,a3,c3,M2,[],0,z3) zt eG ⟨jw _,rfl,hk3,qV.refl _,(λ_ h=>by cases h),(λ_ h=>by cases h),hF⟩ ?_
    rintro ⟨oa,oc,ra2,rc2,M3,os,i,z4⟩ ⟨hi,hl,hkz,hl2,hos,hov,hz⟩;dsimp only at hi hl hkz hl2 hos hov hz ⊢
    by_cases hlp:i<np
    ·have hlp':(i:Int)<np:=by omega
     refine Q.r ?_;have en2:np - i=(np - (i+1))+1:=by omega
     rw[en2,Qk] at hz;refine Q.dgo [true,false,false,false,false] [3,5,7,9,10,12] [12] [0,1,2,4,6,3,5,7,8,9,10,11,12] ?_;refine Q.rd2 ?_;refine D.e rfl rfl rfl ?_;refine S.c1 (A:=Ky br ra2 rc2 z4) rfl (wx br ra2 rc2 z4 M3 _ hkz) ?_;rintro _ _ ⟨rfl,a16,c16,hk16,rfl⟩;have hz:gW htF (np - (i+1)) ((XA (ye (ye z4).2).2).2,os.map HV.abs++[((ye z4).1,(ye (ye z4).2).1,(XA (ye (ye z4).2).2).1)])=F:=hz;generalize ye z4=x16 at*;obtain ⟨q,z16⟩:=x16;dsimp only at*;refine Q.r ?_;refine Q.rd2 ?_;refine D.e rfl rfl rfl ?_;refine S.c1 (A:=Ky br a16 c16 z16) rfl (wx br a16 c16 z16 M3 _ hk16) ?_;rintro _ _ ⟨rfl,a18,c18,hk18,rfl⟩;generalize ye z16=x18 at*;obtain ⟨ds,z18⟩:=x18;dsimp only at*;refine Q.r ?_;refine Q.rd2 ?_;refine D.e rfl rfl rfl ?_;refine S.c1 (A:=Ky br a18 c18 z18) rfl (WW br a18 c18 z18 M3 _ hk18) ?_;rintro _ _ ⟨va,vc,a17,c17,rfl,hk17,rfl⟩;have hv8:=nf z18;generalize XA z18=y16 at*;obtain ⟨vv,z17⟩:=y16;dsimp only at*;refine qR va (λM4 hl4 hsv=> ?_);refine Q.r ?_;refine Q.rd2 ?_;refine D.e rfl rfl rfl ?_;refine Q.r ?_;(repeat (intro b1;refine Q.r ?_));refine Q.rd2 ?_;refine D.e rfl rfl rfl ?_;refine S.app rfl rfl (vG.sl vi.row zr zr) zr zo zo (λa7 c7=> ?_);refine Q.r ?_;refine Q.rd2 ?_;refine Q.dc rfl rfl rfl rfl ?_;refine Q.r ?_;refine Q.rd2 ?_;refine Q.r ?_;refine ⟨(a7,c7,a17,c17,M4,os++[⟨q,ds,va,vc,vv⟩],i+1,z17),⟨rfl,rfl,rfl,rfl,rfl,rfl,jj some (by simp[jU]),trivial⟩,?_,⟨hlp,by dsimp only;rw[qG,hl],hk17.mono hl4,hl2.trans hl4,λo ho=> ?_,λo ho=> ?_,by dsimp only;rw[jq];exact hz⟩,jr np i hlp⟩
     ·dsimp only
      rw[qG,vK];exact eG
     ·rcases jy.1 ho with ho|ho
      ·exact (hos o ho).mono hl4
      ·rw[ji.1 ho];exact hsv
     ·rcases jy.1 ho with ho|ho
      ·exact hov o ho
      ·rw[ji.1 ho];exact hv8
    ·have hie:i=np:=by omega
     rw[hie,Nat.sub_self] at hz;have hz:(z4,os.map HV.abs)=F:=hz;subst hz;dsimp only at hst;refine wF oa (λM4 hl4 hs4=> ?_);refine Q.r ?_;have hl24:=hl2.trans hl4;exact ⟨(k+1,{nv with ha:=oa,hc:=oc,hits:=os},ra2,rc2,z4,M4),zt,by exact eG,hI.step hf hnd hl24 ⟨(hI.ok.mono hl24).p,(hI.ok.mono hl24).o,(hI.ok.mono hl24).v,hs4,λo ho=>(hos o ho).mono hl4⟩ ⟨hI.bd.p,hI.bd.o,hI.bd.ov,hI.bd.v,by show os.length≤_;omega,λo ho=>by have:=hov o ho;omega⟩ ⟨hI.nu.kind,hI.nu.txn,hI.nu.batch,hI.nu.stamp,hI.nu.after,hI.nu.mark,hI.nu.query,hI.nu.id,hI.nu.k,hI.nu.ef,hI.nu.code,hI.nu.who⟩ (hkz.mono hl4) hst (.inr ⟨rfl,rfl,rfl⟩) (.inr ⟨rfl,rfl,rfl⟩) (.inl rfl),jr lt.length k hlt⟩
  ·have hke:k=lt.length:=by omega
   subst hke;refine Q.r ?_;refine S.y (Y.slen rfl) ?_;refine Q.r ?_;exact ⟨(nv,ra,rc,z,M2),zt,by exact eG,hI⟩
 rintro ⟨nv,ra,rc,z,M2⟩ hI;dsimp only at hI ⊢;have hfin:(nv.abs,z)=RR:=by
  have:=hI.fin;rw[kM] at this;exact this
 subst hfin;dsimp only at hCC;have hl12:=hl1.trans hI.l;have hno:=hI.ok;have hON:=hI.bd;have hnu:=hI.nu;obtain ⟨zb,zq⟩:=z
 cases zq with
 |false=>
  have hC:KG bs=4:=by rw[hCC,ja (by simp)]
  have nul:=nul M2 hl12 (by rw[hC];decide) _ rfl;rw[hC] at nul;refine Q.r ?_;exact N.r2 (by apply RV.cellN;rfl;exact vi.row;rfl;exact RV.tmp rfl RV.nil) (L':=qp M2::L0) eG nul
 |true=>
  by_cases hz0:zb=[]
  ·subst hz0
   refine Q.r ?_;refine S.cr rfl (Wp nv _ hno.rd hON hnu) ?_;rintro _ _ ⟨rfl,rfl⟩
   cases hR:qn nv.abs with
   |true=>
    have hC:KG bs=0:=by rw[hCC,jb ⟨rfl,rfl,hR⟩]
    refine Q.r ?_;refine N.r2 (by apply RV.cellN;rfl;exact vi.row;rfl;exact RV.tmp rfl RV.nil) (L':=qp M2::L0) eG ⟨nv,M2,by rw[hC],?_,hno,hON,hl12,rfl⟩;unfold jBT;rw[jb hC,hRN]
   |false=>
    have hC:KG bs=4:=by rw[hCC,ja (by simp[hR])]
    have nul:=nul M2 hl12 (by rw[hC];decide) _ rfl;rw[hC] at nul;refine Q.r ?_;exact N.r2 (by apply RV.cellN;rfl;exact vi.row;rfl;exact RV.tmp rfl RV.nil) (L':=qp M2::L0) eG nul
  ·have hC:KG bs=4:=by rw[hCC,ja (by simp[hz0])]
   have hz1:0<zb.length:=kA.2 hz0;have nul:=nul M2 hl12 (by rw[hC];decide) _ rfl;rw[hC] at nul;refine Q.r ?_;exact N.r2 (by apply RV.cellN;rfl;exact vi.row;rfl;exact RV.tmp rfl RV.nil) (L':=qp M2::L0) eG nul
theorem mO.OkN {n:NV}(h:OkA n.abs):OkN n:=OkN.of h
def jDi (n:NA):List UInt8:=if qn n=true then qz n else []
theorem Q2 (n:NV)(M:OM)(L:HL)(hn:xN M n)(hc:mO n)(hA:OkA n.abs.few)(hu:wg n.abs.few):
  qh kY 9 [n.val] (qp M::L) (λr L'=>∃(v:YB) (M':OM),r=v.val∧v.bs=jDi n.abs.few∧wq M' v∧v.bs.length≤v.c∧qV M M'∧L'=qp M'::L):=by
 refine qg Tryz.func9 rfl rfl rfl ?_;refine Q.r ?_;(repeat (intro b1;refine Q.r ?_));refine S.cq (A:=qp M) (args:=[n.val]) rfl (jAV n M _ hn hc) ?_;rintro _ _ ⟨n',M1,rfl,hl1,hn',hc',hoc',hab,rfl⟩;rw[←hab] at hA hu;refine S.cq (A:=qp M1) (args:=[n'.val]) rfl (fF n' M1 _ hn' (OkN.of hA) hu) ?_;rintro _ _ ⟨v,M2,rfl,hv,hvo,hvc,hl2,rfl⟩;refine Q.r ?_;exact N.t rfl (L':=qp M2::L) eG ⟨v,M2,rfl,by rw[hv,hab];rfl,hvo,hvc,hl1.trans hl2,rfl⟩
theorem rf (c pj g:Nat)(q:Nat)(s dim x:Int)(j:JG)(M:OM)(L:HL)(hT:zB M)(hB:xL M)(hw:WG j)(hn:j.tr.length≤100000)(hu:∀m∈Ym j,OkA m.2∧wg m.2)(hl:(Ym j).length≤1000000):
  qh kY 14 [Js c] (wM c pj (vT g) q false::qD M pj j::VG g s dim x::qp M::L)
   (λr L'=>∃(a:OA) (cc:Nat) (ls:List mC) (M':OM),r=.slice a ls.length cc∧ls.map jCw=KY (Ym j)∧jF7 M' a ls∧qV M M'∧L'=wM c pj (vT g) q false::qD M' pj j::VG g s dim x::qp M'::L):=by
 refine qg Tryz.func14 rfl rfl rfl ?_;refine Q.r ?_;refine S.c1 (A:=wM c pj (vT g) q false) rfl (fy c pj (vT g) q false _) ?_;rintro _ _ ⟨rfl,rfl⟩;refine Q.r ?_;refine vh (L':=wM c pj (vT g) q false::qD M pj j::VG g s dim x::qp M::L) eG ?_;refine Q.dgo [true,false,false,false] [5,10,11,12] [] [0,1,2,3,4,6,7,8,9,5,10,11,12,13] ?_;refine Q.rd ?_;refine D.e rfl rfl rfl ?_;refine S.cg pj rfl (pW M pj j _ hw hn) ?_;rintro _ _ ⟨a1,c1,ms,M1,rfl,hl1,hmo,hma,rfl⟩;refine Q.r ?_;refine Q.rd ?_;refine D.e rfl rfl rfl ?_;refine S.c1 (A:=VG g s dim x) rfl (mF g s dim x _) ?_;rintro _ _ ⟨rfl,rfl⟩;refine Q.r ?_;refine Q.rd ?_;refine D.e rfl rfl rfl ?_;have hml:ms.length≤1000000:=by rw[WI hma];exact hl
 refine S.app (cs:=ms.flatMap vA) rfl rfl vG.nil zr zo zo (λa2 c2=> ?_);rw[jG,Nat.add_zero];refine qR a2 (λM2 hl2 hs2=> ?_);have hl02:=hl1.trans hl2;refine vH pj hl2 ?_;refine Q.r ?_;refine Q.rd ?_;refine D.ea rfl rfl rfl ?_;refine qo (L':=wM c pj (vT g) q false::qp M2::qD M2 pj j::VG g s dim x::L) eG ?_;have hu6:∀m∈ms,OkN m.2∧wg m.2.abs:=λm hm=>by
  have:=hu (KR m) (by rw[←hma];exact jA (f:=jEm) hm);exact ⟨OkN.of this.1,this.2⟩
 refine S.cr rfl (Vp c pj (vT g) q false a2 c2 ms M2 _ ⟨hs2,λm hm=>(hmo m hm).mono hl2⟩ hu6 (hT.mono hl02) (hB.mono hl02) hml) ?_;rintro _ _ ⟨a7,c7,ls,M4,rfl,hls,hlo,hl4,rfl⟩;refine vH pj hl4 ?_;rw[show ms.map KR=Ym j from hma] at hls;refine qo (L':=wM c pj (vT g) q false::qD M4 pj j::VG g s dim x::qp M4::L) eG ?_;refine qQ ?_;refine N.tn ?_;refine D.back ?_;refine Q.rd ?_;refine Q.r ?_;exact N.t rfl (L':=wM c pj (vT g) q false::qD M4 pj j::VG g s dim x::qp M4::L) eG ⟨a7,c7,ls,M4,rfl,hls,hlo,hl02.trans hl4,rfl⟩
end Go.Proofs.YtlnfjhiphlfkjaaGreatDoor
namespace Go.Proofs.YtlnfjhiphlfkjaaGreatDoor
open Go Go.SX
def ldN :JG→List NA→Option JG
 |j,[]=>some j
 |j,n::ns=>if (n.kind=16∨n.kind=17∨n.kind=18)∧qW j n=0 then ldN (ve j n) ns else none
theorem jFp :∀(ns:List NA) (j:JG),(∀n∈ns,qn n=true∧wg n)→VY j (vO ns)=ldN j ns
 | [],j,_=>rfl
 |n::ns,j,h=>by
  have h1:=h n kg;have h2:=J6 h1.1 h1.2
  show (match ZF (qz n) with
   |none=>none
   |some n=>if (n.kind=16∨n.kind=17∨n.kind=18)∧qW j n=0 then VY (ve j n) (vO ns) else none)=_
  rw[h2];dsimp only;rw[jFp ns (ve j n) λm hm=>h m (jV _ hm)];rfl
theorem r8 :∀(ns ms:List NA) (j:JG),ldN j (ns++ms)=(ldN j ns).bind λj=>ldN j ms
 | [],ms,j=>rfl
 |n::ns,ms,j=>by
  show (if _ then ldN (ve j n) (ns++ms) else none)=Option.bind (if _ then ldN (ve j n) ns else none) _
  split
  ·exact r8 ns ms _
  ·rfl
theorem UO0 {s d:Int}(s1:1≤s)(s2:s≤4)(h1:1≤d)(h2:d≤8):UO (wy s d):=
 ⟨(WN0 h1 h2).pb,s1,s2,by show (xi (wy s d)).length≤8;rw[show xi (wy s d)=[] by kernel_rfl];decide,jw _,(λ_ h=>by cases h),λt ht=>by rw[show xi (wy s d)=[] by kernel_rfl] at ht;cases ht⟩
theorem l8 (s d:Int):xu (wy s d)=wy s d:=by kernel_rfl
theorem jG5 {j0:JG}{s d:Int}(h:UO j0)(e1:j0.shards=s)(e2:j0.dim=d):Z7 (wy s d) (qu j0)=0∧XD (wy s d) (qu j0)=xu j0:=by
 obtain ⟨a,b⟩:=jDS h;rw[e1,e2] at a b;obtain ⟨c,e⟩:=jBw (j:=wy s d) b (by rintro (h|h|h)<;>first|exact absurd h (Int.lt_irrefl _)|exact absurd h (Nat.lt_irrefl _));exact ⟨c,e.trans a⟩
theorem jIw (l:LJ)(hn:l.n<100)(hR:jCb l.R):yR l.d=0∧Xo l.d=l.s∧VW l.d=l.R∧VK l.d=l.z∧zn l.d=l.d:=by
 obtain ⟨o1,o2,o3,o4,o5⟩:=jHt l hn hR;refine ⟨o1,by unfold Xo;rw[o4];rfl,o5,?_,o2⟩
 show (⟨zn l.d,gK l.d,(VW l.d).length,false⟩:JZ)=_
 rw[o2,o3,o5]
theorem LJ.fs (l:LJ):l.d.fs.length≠0:=by
 unfold LJ.d dJ;dsimp only
 split<;>simp
theorem jHS (s dim:Int)(l:LJ):KM s dim l.d=0∧sA s dim l.d=l.d:=⟨ja l.fs,ja l.fs⟩
structure fO (s dim:Int)(l:LJ)(j0:JG)(ns:List NA)(jl:JG):Prop where
 n:l.n+2<100
 st:l.s=qu j0
 u:UO j0
 es:j0.shards=s
 ed:j0.dim=dim
 w:WN (xu j0)
 R:l.R=vO ns
 nk:∀n∈ns,qn n=true∧wg n
 nl:ns.length≤1000
 ld:ldN (xu j0) ns=some jl
 je:jl.epoch+1≤1099511627776
 jt:jl.tr.length≤1000
 jd:jl.done.length≤50000
 jp:(qu jl).length≤1048575
 sp:(qu j0).length≤100000
 okR:jCb l.R
theorem fd {m:Int}(h0:0≤m)(h1:m≤1099511627776):(qz (qv m)).length≤26∧(qz (qv m)).length≠0:=by
 have e:yi (qv m)=numI 16++(numI m++[]):=by rw[Qq];rfl
 have h2:(numI 16).length≤10:=qr zd;have h3:=qr (z:=m) zo;have h4:(frB (yi (qv m))).length=6+(yi (qv m)).length:=yN _;have h5:(yi (qv m)).length=(numI 16).length+(numI m).length:=by rw[e,jG,jc]
 unfold qz;omega
theorem zM {p:List UInt8}(h:p.length≤4096)(h0:p.length≠0):mS [p]=0:=by
 unfold mS cdL;rw[ja (by simpa using h0),ja (by simpa using h)]
theorem fO.op {s dim:Int}{l:LJ}{j0:JG}{ns:List NA}{jl:JG}(h:fO s dim l j0 ns jl)(h0:0≤jl.epoch):OpH s dim l.d∧Wt (wy s dim) (Xo l.d) (VW l.d)=0∧coJ s dim l.d=some jl∧yR l.d=0∧VK l.d=l.z:=by
 have hn:=h.n;obtain ⟨o1,o2,o3,o4,o5⟩:=jIw l zo h.okR;obtain ⟨u1,u2⟩:=jG5 h.u h.es h.ed;have hl:=jFp ns (xu j0) h.nk;have hj:coJ s dim l.d=some jl:=by unfold coJ;rw[o2,o3,h.st,h.R,u2,hl,h.ld]
 have he:=fd (m:=jl.epoch+1) zo h.je;have hlo:Wt (wy s dim) (Xo l.d) (VW l.d)=0:=by
  unfold coJ at hj;unfold Wt;rw[hj,o2,h.st,u1,ja zd,ja (by simp)]
 refine ⟨⟨jHH zo,λ_=>⟨by rw[o2,h.st];exact h.sp,?_,by rw[o3,h.R];unfold vO;rw[jf];have:=h.nl;omega,λ_=>by rw[o2,h.st,u2];exact h.w,λj _ hjj=> ?_⟩⟩,hlo,hj,o1,o4⟩
 ·rw[o3,h.R]
  intro r hr;obtain ⟨n,hn,rfl⟩:=jM.1 hr;have:=(wC (h.nk n hn).1 (h.nk n hn).2).2;omega
 ·rw[hj] at hjj
  obtain rfl:=Option.some.inj hjj;refine ⟨h.je,h.jt,h.jd,h.jp,?_⟩;rw[o4];exact l.wr _ (zM zo he.2) (by simp) zo (by rw[h.R];unfold vO;rw[jf];have:=h.nl;omega)
theorem jHK {room:Int}{s dim:Int}(hf:¬room<(wY (qu (wy s dim))).length):KM s dim (D0 room)=0∧sA s dim (D0 room)=(⟨room,0,qu (wy s dim),[]⟩:LJ).d:=by
 obtain ⟨a,b⟩:=jIJ room (qu (wy s dim));refine ⟨by unfold KM;rw[jb (show (D0 room).fs.length=0 from rfl),a,ja hf],by unfold sA;rw[jb (show (D0 room).fs.length=0 from rfl),b hf];rfl⟩
theorem fO.zero {room s dim:Int}(s1:1≤s)(s2:s≤4)(h1:1≤dim)(h2:dim≤8):fO s dim ⟨room,0,qu (wy s dim),[]⟩ (wy s dim) [] (wy s dim):=by
 have hp:=YH s dim;refine ⟨by show 0+2<100;decide,rfl,UO0 s1 s2 h1 h2,rfl,rfl,by rw[l8];exact WN0 h1 h2,rfl,(λ_ h=>by cases h),jw _,by rw[l8];rfl,by show (0:Int)+1≤_;decide,jw _,jw _,by rw[hp];decide,by rw[hp];decide,λ_ h=>by cases h⟩
theorem xQ {j:JG}(hw:WN j)(htl:j.tr.length≤100000)(hdl:j.done.length≤100000):(qu j).length≤40+j.done.length*20+j.tr.length*80:=by
 have e1:=hw.g.b.e1;have l1:=hw.g.b.l1;have hdnl:(Jv j).length=j.done.length:=by unfold Jv;rw[jf,wV,jf]
 have h1:=qr (z:=j.epoch) zo;have h2:=qr (z:=j.last) zo;have h3:=qr (z:=(j.done.length:Int)) zo;have hcl:(xi j).length≤j.tr.length:=by
  unfold xi;refine ke (kw _ _) ?_;rw[(QL hw.g.kt).length_eq,jf];exact jz _
 have h4:=qr (z:=((xi j).length:Int)) zo;have h5:((Jv j).flatMap packD).length≤(Jv j).length*20:=yO λd hd=>by
  obtain ⟨b,hb,rfl⟩:=jM.1 hd;obtain ⟨s,hs⟩:=lM hb hw.g.kd;have hm:=hw.d _ (vM hs);refine bG hm.2.1 ?_;dsimp only;rw[hs]
  show s≤_
  have:=hm.2.2;dsimp only at this;omega
 have h6:((xi j).flatMap w9).length≤(xi j).length*80:=yO λt ht=>tV hw (X1 hw (jB.1 ht).1)
 unfold qu Vi;simp only[jc];omega
theorem m7 (l:LJ)(s:List UInt8){ps:List (List UInt8)}(h1:mS ps=0)(h2:ps≠[])(hf:¬l.room<l.used+(xb ps).length):Qw l.z s ps=0∧JW l.z s ps=({l with R:=l.R++ps}:LJ).z:=by
 obtain ⟨e1,e2⟩:=(sj l h1 h2).2 hf;obtain ⟨w1,w2⟩:=jC0 (s:=s) (by rw[e1];decide);rw[w1,w2,e1,e2];exact ⟨rfl,rfl⟩
theorem Wh (p:List UInt8):(xb [p]).length=6+p.length:=by
 unfold xb;rw[jL,kC,List.flatten_cons,List.flatten_nil,jG];exact yN p
theorem jCM (R:List (List UInt8))(p:List UInt8):(xb (R++[p])).length=(xb R).length+(6+p.length):=by
 rw[si,jc,Wh]
abbrev aA :NA:={NA.zero with kind:=1,batch:=5,ops:=[(3,[9])]}
abbrev aT :TR:=⟨1048577,5,0,0,2,[1],[],[],[(3,[9])]⟩
abbrev aP :NA:={NA.zero with kind:=3,txn:=1048577,parts:=[1],ops:=[(3,[9])]}
abbrev aV :NA:={NA.zero with kind:=4,txn:=1048577}
abbrev aC :NA:={NA.zero with kind:=17,txn:=1048577,batch:=5,stamp:=1,parts:=[1]}
abbrev aD :NA:={NA.zero with kind:=5,txn:=1048577,stamp:=1}
abbrev aR :NA:={NA.zero with kind:=2,batch:=5,stamp:=1}
abbrev aG :NA:={NA.zero with kind:=22,txn:=1048577}
abbrev aX :NA:={NA.zero with kind:=5,txn:=1048577,code:=8}
abbrev aY :NA:={NA.zero with kind:=2,batch:=5,code:=8}
abbrev aJ1 :JG:=⟨1,1,1,0,0,[],[]⟩
abbrev mX :JG:=⟨1,1,1,1,0,[(1048577,aT)],[]⟩
abbrev aJ5 :JG:=⟨1,1,1,0,1,[(1048577,⟨1048577,5,1,0,0,[1],[],[],[]⟩)],[(5,1)]⟩
abbrev aJ6 :JG:=⟨1,1,2,0,1,[(1048577,⟨1048577,5,1,0,0,[1],[],[],[]⟩)],[(5,1)]⟩
theorem aw1 :ve (wy 1 1) (qv 1)=aJ1:=by kernel_rfl
theorem aw2 :w8 aJ1 2 aA=⟨[],[vY aT],[(1,aP)],[],[]⟩:=by kernel_rfl
theorem aw3 :appL aJ1 [vY aT]=mX:=by kernel_rfl
theorem aw4 :w8 mX 1 aV=⟨[aC],[],[(1,aD),(2,aR)],[aG],[(1,aX),(2,aY)]⟩:=by kernel_rfl
theorem aw6 :ldN (wy 1 1) [qv 1,aC]=some aJ5:=by kernel_rfl
theorem aw7 :ve aJ5 (qv 2)=aJ6:=by kernel_rfl
theorem aw8 :KY (Ym aJ6)=[(1,qz aD)]:=by kernel_rfl
theorem zu {n:NA}(h:n.ops=[]∨n.ops=[(3,[9])])(hh:n.hits=[])(a:xW n):wg n:=⟨a,λo ho=>by
 rcases h with h|h
 ·rw[h] at ho;cases ho
 ·rw[h] at ho;rw[ji.1 ho];decide,λo ho=>by rw[hh] at ho;cases ho⟩
theorem zv {n:NA}(h:decide (0≤n.kind∧n.kind≤255)&&decide (0≤n.txn∧n.txn≤18446744073709551615)&&decide (0≤n.batch∧n.batch≤18446744073709551615)&&decide (0≤n.stamp∧n.stamp≤18446744073709551615)&&decide (0≤n.after∧n.after≤18446744073709551615)&&decide (0≤n.mark∧n.mark≤18446744073709551615)&&decide (0≤n.query∧n.query≤18446744073709551615)&&decide (0≤n.id∧n.id≤18446744073709551615)&&decide (n.k≤9223372036854775807)&&decide (n.ef≤9223372036854775807)&&decide (n.code≤9223372036854775807)&&decide (n.who≤9223372036854775807)=true):xW n:=by
 simp only[jF,jS] at h;obtain ⟨⟨⟨⟨⟨⟨⟨⟨⟨⟨⟨h1,h2⟩,h3⟩,h4⟩,h5⟩,h6⟩,h7⟩,h8⟩,h9⟩,h10⟩,h11⟩,h12⟩:=h;exact ⟨h1,h2,h3,h4,h5,h6,h7,h8,h9,h10,h11,h12⟩
theorem awA :qn aA=true∧wg aA:=⟨by kernel_rfl,zu (.inr rfl) rfl (zv zk)⟩
theorem awB :qn (vY aT)=true∧wg (vY aT):=⟨by kernel_rfl,zu (.inr rfl) rfl (zv zk)⟩
theorem awP :qn aP=true∧wg aP:=⟨by kernel_rfl,zu (.inr rfl) rfl (zv zk)⟩
theorem awV :qn aV=true∧wg aV:=⟨by kernel_rfl,zu (.inl rfl) rfl (zv zk)⟩
theorem awC :qn aC=true∧wg aC:=⟨by kernel_rfl,zu (.inl rfl) rfl (zv zk)⟩
theorem awD :qn aD=true∧wg aD:=⟨by kernel_rfl,zu (.inl rfl) rfl (zv zk)⟩
theorem awR :qn aR=true∧wg aR:=⟨by kernel_rfl,zu (.inl rfl) rfl (zv zk)⟩
theorem awG :qn aG=true∧wg aG:=⟨by kernel_rfl,zu (.inl rfl) rfl (zv zk)⟩
theorem wn1 :WN aJ1:=by rw[←aw1];exact (WN0 zd zd).app (yD (m:=1) zd zd).2.a
theorem wn2 :WN mX:=by
 have:=wn1.app awB.2.a;rw[show ve aJ1 (vY aT)=mX from aw3] at this;exact this
theorem wn5 :WN aJ5:=by
 have:=wn1.app awC.2.a;rw[show ve aJ1 aC=aJ5 by kernel_rfl] at this;exact this
theorem wn6 :WN aJ6:=by
 have:=wn5.app (yD (m:=2) zd zd).2.a;rw[aw7] at this;exact this
attribute [local irreducible] swp qq qL qJ vZ qh St qi qk vu qH
abbrev mW (j:JG):List (List UInt8):=[qz (qv (j.epoch+1))]
def jGx (p:Nat)(s dim:Int)(l:LJ)(jl:JG)(M:OM)(L:HL)(r:Value)(L':HL):Prop:=
 ∃ M',qV M M' ∧ ((Qw l.z (qu jl) (mW jl) ≠ 0 ∧ r = .tuple #[Kj,.int .i64 (Qw l.z (qu jl) (mW jl))] ∧ L' = qt p (JW l.z (qu jl) (mW jl)).d :: qp M' :: L) ∨
  (Qw l.z (qu jl) (mW jl) = 0 ∧ WN jl ∧ ∃ c pj q g x,r = .tuple #[Js c,.int .i64 0] ∧
   L'=yU p q (JW l.z (qu jl) (mW jl)) M' (wM c pj (vT g) q (JW l.z (qu jl) (mW jl)).br::qD M' pj (ve jl (qv (jl.epoch+1)))::VG g s dim x::L)))
theorem JO (p:Nat)(s dim:Int)(d:DK)(l:LJ)(j0:JG)(ns:List NA)(jl:JG)(M:OM)(L:HL)(s1:1≤s)(s2:s≤4)(h1:1≤dim)(h2:dim≤8)(hT:zB M)(hB:xL M)(hE:VT M)
  (hd:KM s dim d=0∧sA s dim d=l.d) (h:fO s dim l j0 ns jl) (h0:0≤jl.epoch):
  qh kY 7 [qK p,.int .i64 s,.int .i64 dim] (qt p d::qp M::L) (jGx p s dim l jl M L):=by
 obtain ⟨o1,o2,o3,o4,o5⟩:=h.op h0;have hS:=rh p s dim d M L s1 s2 h1 h2 hT hB hE (λ_=>by rw[hd.2];exact o1);rw[hd.2] at hS;refine qh.mono hS ?_;rintro r L' ⟨M',hl,⟨e,d',he,hno,hr,hL⟩|⟨j,c,pj,q,g,x,_,_,_,hj,hw,_,_,hcw,hr,hL⟩⟩
 ·rcases hno with ⟨a,_⟩|⟨_,a,_⟩|⟨_,_,a,_⟩|⟨_,_,_,j,hj,hcw,e1,e2⟩
  ·exact absurd hd.1 a
  ·exact absurd o4 a
  ·exact absurd o2 a
  ·rw[o3] at hj
   obtain rfl:=Option.some.inj hj;rw[o5] at hcw e1 e2;subst e1 e2;exact ⟨M',hl,.inl ⟨hcw,hr,hL⟩⟩
 ·rw[o3] at hj
  obtain rfl:=Option.some.inj hj;rw[o5] at hcw hL;exact ⟨M',hl,.inr ⟨hcw,hw,c,pj,q,g,x,hr,hL⟩⟩
abbrev aL0 :LJ:=⟨10000,0,qu (wy 1 1),[]⟩
abbrev aL1 :LJ:=⟨10000,0,qu (wy 1 1),[qz (qv 1)]⟩
abbrev aL2 :LJ:=⟨10000,0,qu (wy 1 1),[qz (qv 1),qz aC]⟩
abbrev aL3 :LJ:=⟨10000,0,qu (wy 1 1),[qz (qv 1),qz aC,qz (qv 2)]⟩
theorem jGz (t b z:Int)(ps:List Int):yi {NA.zero with kind:=17,txn:=t,batch:=b,stamp:=z,parts:=ps}=numI 17++(numI t++(numI b++(numI z++((numI (ps.length:Int)++ps.flatMap numI)++[])))):=by rw[Qq];rfl
theorem jC3 {t b z:Int}{ps:List Int}(h1:t≤18446744073709551615)(h2:b≤18446744073709551615)(h3:z≤1099511627776)(h4:ps.length≤4)(h5:∀q∈ps,q≤18446744073709551615):(qz {NA.zero with kind:=17,txn:=t,batch:=b,stamp:=z,parts:=ps}).length≤100∧(qz {NA.zero with kind:=17,txn:=t,batch:=b,stamp:=z,parts:=ps}).length≠0:=by
 have e:=jGz t b z ps;have k1:(numI 17).length≤10:=qr zd;have k2:=qr h1;have k3:=qr h2;have k4:=qr (z:=z) zo;have k5:=qr (z:=(ps.length:Int)) zo;have k6:(ps.flatMap numI).length≤ps.length*10:=yO λq hq=>qr (h5 q hq)
 have h7:=yN (yi {NA.zero with kind:=17,txn:=t,batch:=b,stamp:=z,parts:=ps});rw[e] at h7;simp only[jc,j7] at h7;unfold qz;rw[e];omega
theorem fx :(qz aC).length≤100∧(qz aC).length≠0:=jC3 zd zd zd zd (λq hq=>by rw[ji.1 hq];decide)
theorem jBu (R:List (List UInt8)):(⟨10000,0,qu (wy 1 1),R⟩:LJ).used≤34+(xb R).length:=by
 have h:=X3 (qu (wy 1 1));rw[YH] at h
 show (wY (qu (wy 1 1))).length+(xb R).length≤_
 rw[YH];have:([0,0,0,0]:List UInt8).length=4:=rfl;omega
theorem Ye :(qz (qv 1)).length≤26∧(qz (qv 1)).length≠0:=fd zd zd
theorem jEE :(qz (qv 2)).length≤26∧(qz (qv 2)).length≠0:=fd zd zd
theorem jCN :(xb []).length=0:=rfl
theorem lA :(xb [qz (qv 1)]).length≤32:=by rw[Wh];have:=Ye.1;omega
theorem jEz :(xb [qz (qv 1),qz aC]).length≤138:=by
 have:=jCM [qz (qv 1)] (qz aC);have h2:=lA;have h3:=fx.1;rw[show [qz (qv 1),qz aC]=[qz (qv 1)]++[qz aC] from rfl];omega
theorem jFD :Qw aL0.z (qu (wy 1 1)) (mW (wy 1 1))=0∧JW aL0.z (qu (wy 1 1)) (mW (wy 1 1))=aL1.z:=by
 have h:=Ye;have hu:aL0.used≤34+(xb []).length:=jBu [];have h1:=Wh (qz (qv 1));have hz:=jCN;exact m7 aL0 _ (ps:=[qz (qv 1)]) (zM zo h.2) (List.cons_ne_nil _ _) (by show ¬(10000:Int)<((aL0.used+(xb [qz (qv 1)]).length:Nat):Int);omega)
theorem jDm :Qw aL1.z (qu mX) [qz aC]=0∧JW aL1.z (qu mX) [qz aC]=aL2.z:=by
 have h:=fx;have hu:aL1.used≤34+(xb [qz (qv 1)]).length:=jBu [qz (qv 1)];have h1:=Wh (qz aC);have h2:=lA;exact m7 aL1 _ (ps:=[qz aC]) (zM zo h.2) (List.cons_ne_nil _ _) (by show ¬(10000:Int)<((aL1.used+(xb [qz aC]).length:Nat):Int);omega)
theorem jFC :Qw aL2.z (qu aJ5) (mW aJ5)=0∧JW aL2.z (qu aJ5) (mW aJ5)=aL3.z:=by
 have h:=jEE;have hu:aL2.used≤34+(xb [qz (qv 1),qz aC]).length:=jBu [qz (qv 1),qz aC];have h1:=Wh (qz (qv 2));have h2:=jEz;exact m7 aL2 _ (ps:=[qz (qv 2)]) (zM zo h.2) (List.cons_ne_nil _ _) (by show ¬(10000:Int)<((aL2.used+(xb [qz (qv 2)]).length:Nat):Int);omega)
theorem jHW :KM 1 1 (D0 10000)=0∧sA 1 1 (D0 10000)=aL0.d:=jHK (by
 have h:=X3 (qu (wy 1 1));rw[YH] at h ⊢;have:([0,0,0,0]:List UInt8).length=4:=rfl;omega)
theorem jHT :fO 1 1 aL2 (wy 1 1) [qv 1,aC] aJ5:=by
 have hp:=YH 1 1;have h1:=Ye;have h2:=fx;have hg:=xQ wn5 zd zd;refine ⟨by show 0+2<100;decide,rfl,UO0 zd zd zd zd,rfl,rfl,by rw[l8];exact WN0 zd zd,rfl,λn hn=> ?_,by decide,by rw[l8];exact aw6,by decide,by decide,by decide,ke hg zd,by rw[hp];decide,λx hx=> ?_⟩
 ·rcases j9.1 hn with rfl|hn
  ·exact yD zd zd
  ·rw[ji.1 hn];exact awC
 ·rcases j9.1 hx with rfl|hx
  ·exact ⟨by omega,h1.2⟩
  ·rw[ji.1 hx];exact ⟨by omega,h2.2⟩
theorem xn {α:Type}{p:α→Prop}{x:α}(h:p x):∀y∈[x],p y:=λy hy=>by rw[ji.1 hy];exact h
theorem zO {α:Type}{p:α→Prop}:∀y∈([]:List α),p y:=λy hy=>by cases hy
theorem jHV :DoK aL1.z aJ1 ⟨[],[vY aT],[(1,aP)],[],[]⟩:=by
 have hg:=xQ wn1 zd zd;exact ⟨wn1,by decide,by decide,zO,xn awB,zO,by decide,by show 1≤1000;decide,by decide,λh=>absurd rfl h,ke hg zd,λ_ h=>absurd h (by show ¬24≤1;decide)⟩
theorem jHU :DoK aL1.z mX ⟨[aC],[],[(1,aD),(2,aR)],[aG],[(1,aX),(2,aY)]⟩:=by
 have hg:=xQ wn2 zd zd;have h2:=fx;refine ⟨wn2,by decide,by decide,xn awC,zO,xn awG,by decide,by decide,by decide,λh=>aL1.wr _ (ps:=[qz aC]) (zM zo h2.2) (List.cons_ne_nil _ _) (by show 0+1<100;decide) (by show 1≤1000000;decide),ke hg zd,λhF h=>absurd h ?_⟩;unfold zP;rw[ja (by simp),show vO [aC]=[qz aC] from rfl,jDm.2]
 show ¬24≤2
 decide
theorem sS :¬doF aL1.z aJ1 ⟨[],[vY aT],[(1,aP)],[],[]⟩:=λh=>h.1 rfl
theorem cy :ZO aL1.z aJ1 ⟨[],[vY aT],[(1,aP)],[],[]⟩=aL1.z∧lL aL1.z aJ1 ⟨[],[vY aT],[(1,aP)],[],[]⟩=mX∧cb aL1.z aJ1 false ⟨[],[vY aT],[(1,aP)],[],[]⟩=false∧doM aL1.z aJ1 ⟨[],[vY aT],[(1,aP)],[],[]⟩=[(1,aP)]:=by
 have ht:zP aL1.z aJ1 ⟨[],[vY aT],[(1,aP)],[],[]⟩=aL1.z:=jb rfl;have hk:¬24≤aL1.z.k:=by show ¬24≤1;decide
 refine ⟨?_,?_,?_,ja sS⟩
 ·unfold ZO;rw[ja sS,ht,ja hk]
 ·unfold lL XN;rw[ja sS];exact aw3
 ·unfold cb;rw[ja sS,ht,ja hk];exact jb rfl
theorem jFE :¬doF aL1.z mX ⟨[aC],[],[(1,aD),(2,aR)],[aG],[(1,aX),(2,aY)]⟩:=λh=>h.2 jDm.1
theorem sU :ZO aL1.z mX ⟨[aC],[],[(1,aD),(2,aR)],[aG],[(1,aX),(2,aY)]⟩=aL2.z∧doM aL1.z mX ⟨[aC],[],[(1,aD),(2,aR)],[aG],[(1,aX),(2,aY)]⟩=[(1,aD),(2,aR)]:=by
 have ht:zP aL1.z mX ⟨[aC],[],[(1,aD),(2,aR)],[aG],[(1,aX),(2,aY)]⟩=aL2.z:=by unfold zP;rw[ja (by simp)];exact jDm.2
 have hk:¬24≤aL2.z.k:=by show ¬24≤2;decide
 refine ⟨?_,ja jFE⟩;unfold ZO;rw[ja jFE,ht,ja hk]
abbrev aNV (b1 b2:Nat):NV:=⟨1,0,5,0,0,0,0,0,0,0,0,0,none,0,[],some ⟨b2,0,none⟩,1,[⟨3,some ⟨b1,0,none⟩,1,[9]⟩],none,0,[],none,0,[]⟩
theorem YW {to:Int}{n:NA}(h:qn n=true):KY [(to,n)]=[(to,qz n)]:=by
 unfold KY;rw[kI,jb h,List.filter_nil,jL,kC]
theorem sL (r:NA):mO r.nv:=⟨jw _,λo ho=>(by cases ho),jw _,λo ho=>(by cases ho),jw _,jw _,jw _,jw _⟩
theorem zF {n:NA}(h:qn n=true)(u:wg n):OkA n:=by
 have z:=Wy h u;have h1:=z.parts.1;have h2:=z.ops.1;have h3:=z.vec.1;have h4:=z.hits.1;exact ⟨by omega,by omega,λo ho=>by have:=(z.ops.2 o ho).2.1;omega,by omega,by omega,λo ho=>by have:=(z.hits.2 o ho).2.2.1;omega⟩
theorem mP (M:OM)(L:HL)(hT:zB M)(hB:xL M)(hE:VT M):qh kY 5 [] (qp M::L) (λr L'=>r=.bool true∧∃M',qV M M'∧L'=qp M'::L):=by
 refine qg Tryz.func5 rfl rfl rfl ?_;refine Q.r ?_;refine S.cr rfl (cP 10000 _ zd) ?_;rintro _ _ ⟨p,rfl,rfl⟩;refine Q.r ?_;refine S.ckm p rfl (JO p 1 1 (D0 10000) aL0 (wy 1 1) [] (wy 1 1) M _ zd zd zd zd hT hB hE jHW (fO.zero zd zd zd zd) zd) ?_;rintro _ _ ⟨M1,hl1,⟨hne,_⟩|⟨_,hw1,c,pj,q,g,x,rfl,rfl⟩⟩
 ·exact absurd jFD.1 hne
 rw[jFD.2,show ve (wy 1 1) (qv ((wy 1 1).epoch+1))=aJ1 from aw1];refine Q.r ?_;refine qo (L':=wM c pj (vT g) q false::qD M1 pj aJ1::yU p q aL1.z M1 (VG g 1 1 x::L)) eG ?_;refine S.cr rfl (JP c pj (vT g) q false M1 aJ1 _) ?_;rintro _ _ ⟨rfl,rfl⟩;refine Q.r ?_;(repeat (intro b1;refine Q.r ?_));rename_i bi;revert b1;intro bo;refine qo (vg (b:=bo) (t:=38) (sz:=2) (m:=1) rfl) ?_;refine y9 bi (t:=21) (l:=[.int .i32 9]) (m:=1) (cs:=[.int .i32 9]) (jz _) rfl (λM2 hl2 hs2=> ?_);refine qR (some ⟨bo,0,none⟩) (λM3 hl3 hs3=> ?_);have hl03:=hl1.trans (hl2.trans hl3);have hn1:xN M3 (aNV bi bo):=⟨qI.nil0,⟨hs3,λo ho=>by rw[ji.1 ho];exact hs2.mono hl3⟩,qI.nil0,qI.nil0,λo ho=>by cases ho⟩;have hc1:mO (aNV bi bo):=⟨jw _,λo ho=>by rw[ji.1 ho];exact jz _,jw _,(λo ho=>by cases ho),jw _,by show 1≤_;decide,jw _,jw _⟩;have hf1:(aNV bi bo).abs.few=aA:=rfl;refine S.cq (A:=qp M3) (args:=[(aNV bi bo).val]) rfl (Q2 (aNV bi bo) M3 _ hn1 hc1 (by rw[hf1];exact zF awA.1 awA.2) (by rw[hf1];exact awA.2)) ?_;rintro _ _ ⟨v,M4,rfl,hv,hvo,hvc,hl4,rfl⟩;have hl04:=hl03.trans hl4;rw[hf1,show jDi aA=qz aA from jb awA.1] at hv;have hvl:v.bs.length≤10000000:=by have:=(wC awA.1 awA.2).2;rw[hv];omega
 refine vH pj (hl2.trans (hl3.trans hl4)) ?_;refine qo (L':=yU p q aL1.z M4 (wM c pj (vT g) q false::qD M4 pj aJ1::VG g 1 1 x::L)) eG ?_;have hS:=Jr c pj (vT g) q p aL1.z aJ1 2 v.a v.c v.bs aA M4 (VG g 1 1 x::L) hvo hvc (hT.mono hl04) (hB.mono hl04) hvl (by rw[hv];exact J6 awA.1 awA.2) zd zd wn1.g.b (by rw[aw2];exact jHV) (by rw[aw2,cy.2.2.2];exact xn ⟨zF awP.1 awP.2,awP.2⟩) (by rw[aw2,cy.2.2.2];decide);rw[aw2,cy.1,cy.2.1,cy.2.2.1,cy.2.2.2] at hS;refine S.cr rfl hS ?_;clear hS;rintro _ _ ⟨a5,c5,ls,M5,rfl,hls,hlo,hl5,rfl⟩;rw[ja zd,YW awP.1] at hls;obtain ⟨l5,rfl,hl5e⟩:=dQ hls;have hl5b:l5.y.bs=qz aP:=jj Prod.snd hl5e;have hl05:=hl04.trans hl5;obtain ⟨b5,o5,rfl,cr5⟩:=qI.cm (k:=0) (g:=mC.cells) (λ_=>rfl) hlo.1 rfl rfl;have hl5o:=(hlo.2 l5 (ji.2 rfl));have hl5l:l5.y.bs.length≤1000000:=by have:=(wC awP.1 awP.2).2;rw[hl5b];omega
 refine Q.r ?_;refine S.cq (A:=qp M5) (args:=[l5.y.val]) rfl (xK l5.y.a l5.y.c l5.y.bs M5 _ hl5o.1 hl5o.2 hl5l) ?_;rintro _ _ ⟨n6,M6,rfl,hn6,hn6o,hn6b,hl6,rfl⟩;obtain ⟨hr6,hr6n⟩:=YD awP.1 awP.2;rw[hl5b,hr6n] at hn6;have htx:n6.txn=1048577:=jj NA.txn hn6;have hl06:=hl05.trans hl6;refine Q.r ?_;(repeat (intro b1;refine Q.r ?_));rw[htx];have hf7:aV.nv.abs.few=aV:=rfl;refine S.cq (A:=qp M6) (args:=[aV.nv.val]) rfl (Q2 aV.nv M6 _ (xN.nv _) (sL _) (by rw[hf7];exact zF awV.1 awV.2) (by rw[hf7];exact awV.2)) ?_;rintro _ _ ⟨w,M7,rfl,hw,hwo,hwc,hl7,rfl⟩;have hl07:=hl06.trans hl7;rw[hf7,show jDi aV=qz aV from jb awV.1] at hw;have hwl:w.bs.length≤10000000:=by have:=(wC awV.1 awV.2).2;rw[hw];omega
 refine vH pj (hl6.trans hl7) ?_;refine qo (L':=yU p q aL1.z M7 (wM c pj (vT g) q false::qD M7 pj mX::VG g 1 1 x::L)) eG ?_;have hS:=Jr c pj (vT g) q p aL1.z mX 1 w.a w.c w.bs aV M7 (VG g 1 1 x::L) hwo hwc (hT.mono hl07) (hB.mono hl07) hwl (by rw[hw];exact J6 awV.1 awV.2) zd zd wn2.g.b (by rw[aw4];exact jHU) (by rw[aw4,sU.2];intro m hm;rcases j9.1 hm with rfl|hm;exact ⟨zF awD.1 awD.2,awD.2⟩;rw[ji.1 hm];exact ⟨zF awR.1 awR.2,awR.2⟩) (by rw[aw4,sU.2];decide);rw[aw4,sU.1,sU.2] at hS;refine S.cr rfl hS ?_;clear hS;rintro _ _ ⟨a8,c8,ms,M8,rfl,hms,hmo,hl8,rfl⟩;have hl08:=hl07.trans hl8;generalize lL aL1.z mX ⟨[aC],[],[(1,aD),(2,aR)],[aG],[(1,aX),(2,aY)]⟩=jx;generalize cb aL1.z mX false ⟨[aC],[],[(1,aD),(2,aR)],[aG],[(1,aX),(2,aY)]⟩=dx;refine Q.r ?_;refine S.ckm p (args:=[qK p,.slice none 0 0]) rfl (p9 p aL2.d none 0 [] M8 _ qI.nil zd) ?_;rintro _ _ ⟨kf,M9,rfl,hl9,hkf,_,rfl⟩;have hl09:=hl08.trans hl9;rw[jEN aL2 hkf];refine Q.r ?_;refine S.ckm p rfl (JO p 1 1 aL2.d aL2 (wy 1 1) [qv 1,aC] aJ5 M9 _ zd zd zd zd (hT.mono hl09) (hB.mono hl09) (hE.mono hl09) (jHS 1 1 aL2) jHT zd) ?_;rintro _ _ ⟨M10,hl10,⟨hne,_⟩|⟨_,hw5,c2,pj2,q2,g2,x2,rfl,rfl⟩⟩
 ·exact absurd jFC.1 hne
 rw[jFC.2,show ve aJ5 (qv (aJ5.epoch+1))=aJ6 from aw7];have hl010:=hl09.trans hl10;refine Q.r ?_;refine qo (L':=wM c2 pj2 (vT g2) q2 false::qD M10 pj2 aJ6::VG g2 1 1 x2::qp M10::L) eG ?_;refine S.cr rfl (ZA c2 pj2 (vT g2) q2 false M10 aJ6 5 _) ?_;rintro _ _ ⟨rfl,rfl⟩;rw[show (qE aJ6.done 5).getD 0=1 from rfl,show (qE aJ6.done 5).isSome=true from rfl];refine Q.r ?_;refine S.cr rfl (JP c2 pj2 (vT g2) q2 false M10 aJ6 _) ?_;rintro _ _ ⟨rfl,rfl⟩;refine Q.r ?_;have hwk:Ym aJ6=[(1,aD)]:=by kernel_rfl
 refine S.cr rfl (rf c2 pj2 g2 q2 1 1 x2 aJ6 M10 L (hT.mono hl010) (hB.mono hl010) wn6.g zd (by rw[hwk];exact xn ⟨zF awD.1 awD.2,awD.2⟩) (by rw[hwk];decide)) ?_;rintro _ _ ⟨a11,c11,us,M11,rfl,hus,huo,hl11,rfl⟩;have hul:us.length=1:=by
  have:=WI hus;rw[aw8] at this;exact this
 rw[hul];refine Q.r ?_;exact N.t rfl (L':=qp M11::L) eG ⟨rfl,M11,hl010.trans hl11,rfl⟩
end Go.Proofs.YtlnfjhiphlfkjaaGreatDoor
namespace Go.Proofs.YtlnfjhiphlfkjaaGreatDoor
open Go Go.SX
def UB (j:JG):Prop:=∀u∈j.tr,∀v∈j.tr,u.2.stamp=0→v.2.stamp=0→u.2.batch=v.2.batch→u.1=v.1
theorem UB.sub {j j':JG}(h:UB j)(hs:∀u∈j'.tr,u∈j.tr):UB j':=λu hu v hv=>h u (hs u hu) v (hs v hv)
theorem Jb {α:Type}{m:List (Int×α)}(hk:qm m){k:Int}{a:α}{x:Int×α}(h:x∈qN m k a):(x∈m∧x.1≠k)∨x=(k,a):=by
 have h1:=(vp (vy hk k a)).2 h;rw[wa hk] at h1
 by_cases hx:x.1=k
 ·rw[jb hx] at h1
  right
  have:=Option.some.inj h1;rw[this,←hx]
 ·rw[ja hx] at h1
  exact .inl ⟨(vp hk).1 h1,hx⟩
theorem UB.app {j:JG}(h:UB j)(hw:WN j){n:NA}(u:xW n)(hk:n.kind≠19):UB (ve j n):=by
 by_cases hE:¬qW j n=0
 ·rw[xo hE];exact h
 have hE:qW j n=0:=kv.1 hE;have hr:=KF hE
 by_cases h16:n.kind=16
 ·rw[WV hE h16];exact h.sub λu hu=>(jB.1 hu).1
 by_cases h17:n.kind=17
 ·rw[J3 hE h17]
  have hne:n.stamp≠0:=by
   rw[Wm hr h17] at hE;unfold py at hE;intro e;rw[jb e] at hE;cases hE
  intro v hv w hw' hs1 hs2 hb
  rcases Jb hw.g.kt hv with ⟨hv,_⟩|rfl
  ·rcases Jb hw.g.kt hw' with ⟨hw',_⟩|rfl
   ·exact h v hv w hw' hs1 hs2 hb
   ·exact absurd hs2 hne
  ·exact absurd hs1 hne
 by_cases hww:n.kind=20∨n.kind=21
 ·have hE2:=hE
  rw[WS hr hww] at hE2
  cases hz:qE j.tr n.txn with
  |none=>rw[hz] at hE2;cases hE2
  |some t=>
   rw[cF hE hww hz];have hm:=(vp hw.g.kt).1 hz;have e1:(xX t n).stamp=t.stamp:=by unfold xX;split<;>rfl
   have e2:(xX t n).batch=t.batch:=by unfold xX;split<;>rfl
   intro v hv w hw' hs1 hs2 hb
   rcases Jb hw.g.kt hv with ⟨hv,hvn⟩|rfl
   ·rcases Jb hw.g.kt hw' with ⟨hw',_⟩|rfl
    ·exact h v hv w hw' hs1 hs2 hb
    ·exact h v hv (n.txn,t) hm hs1 (e1▸hs2) (hb.trans e2)
   ·rcases Jb hw.g.kt hw' with ⟨hw',_⟩|rfl
    ·exact h (n.txn,t) hm w hw' (e1▸hs1) hs2 (e2.symm.trans hb)
    ·rfl
 ·by_cases he:n.kind=18∨n.kind=22
  ·rw[Xr hE he];exact h.sub λu hu=>(jB.1 hu).1
  ·unfold qW at hE
   rw[ja (by rw[hr];decide),ja h16,ja hk,ja h17,ja zo] at hE
   cases hE
theorem UB.appL {l:List NA}:∀{j:JG},UB j→WN j→(∀r∈l,xW r∧r.kind≠19)→UB (appL j l):=by
 induction l with
 |nil=>exact λh _ _=>h
 |cons r l ih=>exact λh hw hl=>ih (h.app hw (hl r kg).1 (hl r kg).2) (hw.app (hl r kg).1) λx hx=>hl x (jV _ hx)
theorem UB.zero :UB (wy 3 2):=λ_ h=>by cases h
structure RT (j:JG)(x:Int)(t:TR):Prop where
 n:t.parts≠[]
 b:∀q∈t.parts,1≤q∧q≤j.shards
 s:t.stamp≤j.last
 x:x<(j.epoch+1)*1048576
structure RV (j:JG):Prop where
 tl:j.tr.length≤8
 tr:∀u∈j.tr,RT j u.1 u.2
 dn:∀d∈j.done,d.2≤j.last
theorem RV.zero (s d:Int):RV (wy s d):=⟨jw _,λ_ h=>(by cases h),λ_ h=>(by cases h)⟩
structure GN (j:JG)(n:NA):Prop where
 c:n.kind=17→∃t,qE j.tr n.txn=some t
 g:n.kind=19→j.tr.length<8∧n.parts≠[]∧(∀q∈n.parts,1≤q∧q≤j.shards)∧n.txn<(j.epoch+1)*1048576
theorem RT.up {j j':JG}{x:Int}{t:TR}(h:RT j x t)(hs:j'.shards=j.shards)(hl:j.last≤j'.last)(he:j.epoch≤j'.epoch):RT j' x t:=
 ⟨h.n,by rw[hs];exact h.b,by have:=h.s;omega,by have:=h.x;omega⟩
theorem Xf {α:Type}{m:List (Int×α)}(hk:qm m){x:Int}{a b:α}(h:qE m x=some a):(qN m x b).length=m.length:=by
 rcases wJ m hk x with ⟨p,c,q,rfl,hp,hq⟩|hn
 ·rw[wv hp hq];simp
 ·exact absurd rfl (hn _ ((vp hk).1 h))
theorem RV.app {j:JG}(h:RV j)(hw:WN j){n:NA}(hn:GN j n):RV (ve j n):=by
 by_cases hE:¬qW j n=0
 ·rw[xo hE];exact h
 have hE:qW j n=0:=kv.1 hE;have hr:=KF hE
 by_cases h16:n.kind=16
 ·have hm:j.epoch<n.mark:=by
   rw[fu hr h16] at hE
   by_cases hm:n.mark≤j.epoch
   ·rw[jb hm] at hE;cases hE
   ·omega
  rw[WV hE h16];exact ⟨ke (kw _ _) h.tl,λu hu=>(h.tr u (jB.1 hu).1).up rfl (ki _) (by show j.epoch≤n.mark;omega),h.dn⟩
 by_cases h19:n.kind=19
 ·obtain ⟨a,b,c,d⟩:=hn.g h19
  rw[WU hE h19];refine ⟨?_,λu hu=> ?_,h.dn⟩
  ·have:=yf j.tr n.txn (fq n)
   show (qN j.tr n.txn (fq n)).length≤8
   omega
  ·have hq:=λu hu=>(h.tr u hu).up (j':={j with tr:=qN j.tr n.txn (fq n),seq:=if n.txn / 1048576=j.epoch then max j.seq (n.txn % 1048576) else j.seq}) rfl (ki _) (ki _)
   rcases vC hu with hu|rfl
   ·exact hq u hu
   ·exact ⟨b,c,hw.g.b.l0,d⟩
 by_cases h17:n.kind=17
 ·obtain ⟨t,ht⟩:=hn.c h17
  have hm:=(vp hw.g.kt).1 ht;have hT:=h.tr _ hm;rw[J3 hE h17];have hl:j.last≤max j.last n.stamp:=Int.le_max_left _ _;refine ⟨?_,λu hu=> ?_,λu hu=> ?_⟩
  ·exact (Xf hw.g.kt ht)▸h.tl
  ·rcases vC hu with hu|rfl
   ·exact (h.tr u hu).up rfl hl (ki _)
   ·rw[ht]
    exact ⟨hT.n,hT.b,Int.le_max_right _ _,hT.x⟩
  ·rcases vC hu with hu|rfl
   ·exact Int.le_trans (h.dn u hu) hl
   ·exact Int.le_max_right _ _
 by_cases hww:n.kind=20∨n.kind=21
 ·have hE2:=hE
  rw[WS hr hww] at hE2
  cases hz:qE j.tr n.txn with
  |none=>rw[hz] at hE2;cases hE2
  |some t=>
   rw[cF hE hww hz];have hm:=(vp hw.g.kt).1 hz;have hT:=h.tr _ hm;have e1:(xX t n).stamp=t.stamp:=by unfold xX;split<;>rfl
   have e2:(xX t n).parts=t.parts:=by unfold xX;split<;>rfl
   refine ⟨(Xf hw.g.kt hz)▸h.tl,λu hu=> ?_,h.dn⟩
   rcases vC hu with hu|rfl
   ·exact (h.tr u hu).up rfl (ki _) (ki _)
   ·exact ⟨by rw[e2];exact hT.n,by rw[e2];exact hT.b,by rw[e1];exact hT.s,hT.x⟩
 ·by_cases he:n.kind=18∨n.kind=22
  ·rw[Xr hE he]
   exact ⟨ke (kw _ _) h.tl,λu hu=>(h.tr u (jB.1 hu).1).up rfl (ki _) (ki _),h.dn⟩
  ·unfold qW at hE
   rw[ja (by rw[hr];decide),ja h16,ja h19,ja h17,ja zo] at hE
   cases hE
theorem GN.of {j:JG}{n:NA}(h1:n.kind≠17)(h2:n.kind≠19):GN j n:=⟨λh=>absurd h h1,λh=>absurd h h2⟩
theorem RV.appL {l:List NA}:∀{j:JG},RV j→WN j→(∀r∈l,xW r∧r.kind≠17∧r.kind≠19)→RV (appL j l):=by
 induction l with
 |nil=>exact λh _ _=>h
 |cons r l ih=>exact λh hw hl=>ih (h.app hw (GN.of (hl r kg).2.1 (hl r kg).2.2)) (hw.app (hl r kg).1) λx hx=>hl x (jV _ hx)
abbrev fA (i:Int):NA:={NA.zero with kind:=1,batch:=i,ops:=[(i,[1])]}
abbrev fP (t a i:Int):NA:={NA.zero with kind:=3,txn:=t,after:=a,parts:=[1],ops:=[(i,[1])]}
abbrev fV (t:Int):NA:={NA.zero with kind:=4,txn:=t}
abbrev fC (t i s:Int):NA:={NA.zero with kind:=17,txn:=t,batch:=i,stamp:=s,parts:=[1]}
abbrev fD (t s c:Int):NA:={NA.zero with kind:=5,txn:=t,stamp:=s,code:=c}
abbrev fR (i s c:Int):NA:={NA.zero with kind:=2,batch:=i,stamp:=s,code:=c}
theorem pA {i:Int}(h:0≤i∧i≤20):xv (i,[1])=false:=by
 unfold xv;have:ws [1]=true:=by kernel_rfl
 rw[jv (by show ¬1099511627776<i;omega)]
 show (false|| !ws [1])=false
 rw[this];rfl
theorem rA {i:Int}(h:0≤i∧i≤20):qn (fA i)=true:=by
 unfold qn vV NA.bits fA NA.zero ws;dsimp only;simp only[kX,pA h]
 by_cases h0:0<i<;>simp[h0,List.zipIdx,fldN,vX]
 all_goals (repeat' apply And.intro)
 all_goals first|decide|omega
theorem rPn {t a i:Int}(ht:0<t)(ha:0≤a∧a≤1099511627776)(h:0≤i∧i≤20):qn (fP t a i)=true:=by
 unfold qn vV NA.bits fP NA.zero ws;have hm:¬(1099511627776<max (max 0 a) 0):=by omega
 have hp:vX [1]=true:=by kernel_rfl
 dsimp only;simp only[kX,pA h,hm,hp]
 by_cases h0:0<a<;>simp[h0,ht,List.zipIdx,fldN]
 all_goals (repeat' apply And.intro)
 all_goals first|decide|omega
theorem rV {t:Int}(ht:0<t):qn (fV t)=true:=by
 unfold qn vV NA.bits fV NA.zero ws
 simp[ht,List.zipIdx,fldN,vX]
theorem rD {t s c:Int}(ht:0<t)(hs:0≤s∧s≤1099511627776)(hc:0≤c∧c≤13):qn (fD t s c)=true:=by
 unfold qn vV NA.bits fD NA.zero ws;have hm:¬(1099511627776<max (max s 0) 0):=by omega
 have h1:¬c<0:=by omega
 have h2:¬13<c:=by omega
 dsimp only;simp only[hm]
 by_cases h0:0<s<;>by_cases h3:c=0<;>simp[h0,h3,ht,h2,List.zipIdx,fldN,vX]
 all_goals (repeat' apply And.intro)
 all_goals first|decide|omega
theorem rR {i s c:Int}(hi:0≤i)(hs:0≤s∧s≤1099511627776)(hc:0≤c∧c≤13):qn (fR i s c)=true:=by
 unfold qn vV NA.bits fR NA.zero ws;have hm:¬(1099511627776<max (max s 0) 0):=by omega
 have h2:¬13<c:=by omega
 dsimp only;simp only[hm]
 by_cases h4:0<i<;>by_cases h0:0<s<;>by_cases h3:c=0<;>simp[h4,h0,h3,h2,List.zipIdx,fldN,vX]
 all_goals (repeat' apply And.intro)
 all_goals first|decide|omega
theorem JF {n:NA}(h1:0≤n.kind∧n.kind≤255)(h2:0≤n.txn∧n.txn≤18446744073709551615)(h3:0≤n.batch∧n.batch≤18446744073709551615)(h4:0≤n.stamp∧n.stamp≤18446744073709551615)(h5:0≤n.after∧n.after≤18446744073709551615)(h6:n.mark=0)(h7:n.query=0)(h8:n.id=0)(h9:n.k=0)(h10:n.ef=0)(h11:n.code≤13)(h12:n.who≤13):xW n:=
 ⟨h1,h2,h3,h4,h5,by omega,by omega,by omega,by omega,by omega,by omega,by omega⟩
theorem JE {n:NA}(a:xW n){i:Int}(hi:0≤i)(ho:n.ops=[]∨n.ops=[(i,[1])])(hh:n.hits=[]):wg n:=⟨a,λo h=>by
 rcases ho with e|e
 ·rw[e] at h;cases h
 ·rw[e] at h;rw[ji.1 h];exact hi,λo h=>by rw[hh] at h;cases h⟩
theorem xA {i:Int}(h:0≤i∧i≤20):wg (fA i):=JE (JF (by show (0:Int)≤1∧(1:Int)≤255;decide) (by show (0:Int)≤0∧(0:Int)≤_;decide) (by show 0≤i∧i≤_;omega) (by show (0:Int)≤0∧(0:Int)≤_;decide) (by show (0:Int)≤0∧(0:Int)≤_;decide) rfl rfl rfl rfl rfl (by show (0:Int)≤13;decide) (by show (0:Int)≤13;decide)) h.1 (.inr rfl) rfl
theorem xP {t a i:Int}(ht:0<t∧t≤18446744073709551615)(ha:0≤a∧a≤1099511627776)(h:0≤i∧i≤20):wg (fP t a i):=JE (JF (by show (0:Int)≤3∧(3:Int)≤255;decide) (by show 0≤t∧t≤_;omega) (by show (0:Int)≤0∧(0:Int)≤_;decide) (by show (0:Int)≤0∧(0:Int)≤_;decide) (by show 0≤a∧a≤_;omega) rfl rfl rfl rfl rfl (by show (0:Int)≤13;decide) (by show (0:Int)≤13;decide)) h.1 (.inr rfl) rfl
theorem xV {t:Int}(ht:0<t∧t≤18446744073709551615):wg (fV t):=JE (JF (by show (0:Int)≤4∧(4:Int)≤255;decide) (by show 0≤t∧t≤_;omega) (by show (0:Int)≤0∧(0:Int)≤_;decide) (by show (0:Int)≤0∧(0:Int)≤_;decide) (by show (0:Int)≤0∧(0:Int)≤_;decide) rfl rfl rfl rfl rfl (by show (0:Int)≤13;decide) (by show (0:Int)≤13;decide)) (ki 0) (.inl rfl) rfl
theorem xC {t i s:Int}(ht:0<t∧t≤18446744073709551615)(h:0≤i∧i≤20)(hs:0≤s∧s≤1099511627776):wg (fC t i s):=JE (JF (by show (0:Int)≤17∧(17:Int)≤255;decide) (by show 0≤t∧t≤_;omega) (by show 0≤i∧i≤_;omega) (by show 0≤s∧s≤_;omega) (by show (0:Int)≤0∧(0:Int)≤_;decide) rfl rfl rfl rfl rfl (by show (0:Int)≤13;decide) (by show (0:Int)≤13;decide)) (ki 0) (.inl rfl) rfl
theorem xD {t s c:Int}(ht:0<t∧t≤18446744073709551615)(hs:0≤s∧s≤1099511627776)(hc:c≤13):wg (fD t s c):=JE (JF (by show (0:Int)≤5∧(5:Int)≤255;decide) (by show 0≤t∧t≤_;omega) (by show (0:Int)≤0∧(0:Int)≤_;decide) (by show 0≤s∧s≤_;omega) (by show (0:Int)≤0∧(0:Int)≤_;decide) rfl rfl rfl rfl rfl hc (by show (0:Int)≤13;decide)) (ki 0) (.inl rfl) rfl
theorem xR {i s c:Int}(h:0≤i∧i≤20)(hs:0≤s∧s≤1099511627776)(hc:c≤13):wg (fR i s c):=JE (JF (by show (0:Int)≤2∧(2:Int)≤255;decide) (by show (0:Int)≤0∧(0:Int)≤_;decide) (by show 0≤i∧i≤_;omega) (by show 0≤s∧s≤_;omega) (by show (0:Int)≤0∧(0:Int)≤_;decide) rfl rfl rfl rfl rfl hc (by show (0:Int)≤13;decide)) (ki 0) (.inl rfl) rfl
theorem xG {t:Int}(ht:0<t∧t≤18446744073709551615):qn (wK t)=true∧wg (wK t):=⟨tC 22 (.inr rfl) zo,JE (JF (by show (0:Int)≤22∧(22:Int)≤255;decide) (by show 0≤t∧t≤_;omega) (by show (0:Int)≤0∧(0:Int)≤_;decide) (by show (0:Int)≤0∧(0:Int)≤_;decide) (by show (0:Int)≤0∧(0:Int)≤_;decide) rfl rfl rfl rfl rfl (by show (0:Int)≤13;decide) (by show (0:Int)≤13;decide)) (ki 0) (.inl rfl) rfl⟩
theorem jFr (i:Int):v8 1 i=1:=by
 have:=Wf (s:=1) zd i
 show Vj 1 i+1=1
 omega
abbrev fT (j:JG)(i:Int):TR:=⟨j.epoch*1048576+j.seq+1,i,0,j.last,5,[1],[],[],[(i,[1])]⟩
theorem jHz {j:JG}(hs:j.shards=1)(i:Int):gU j 5 (fA i)=fT j i:=by
 have h:xF 1 [(i,[1])]=[1]:=by
  show (if v8 1 i∈([]:List Int) then [] else y8 [] (v8 1 i))=[1]
  rw[jFr];rfl
 show (⟨_,_,_,_,_,xF j.shards [(i,[1])],_,_,_⟩:TR)=_
 rw[hs,h]
theorem jHr {j:JG}(i:Int)(q:Int)(hq:q=1):Xg 1 (fT j i) q=(1,fP (j.epoch*1048576+j.seq+1) j.last i):=by
 subst hq
 show ((1:Int),_)=_
 congr 1
 show NA.mk _ _ _ _ _ _ _ _ _ _ _ _ _ (([(i,[1])]:VL).filter λo=>decide (v8 1 o.1=1)) _ _=_
 rw[kI,jb (jo (jFr i)),List.filter_nil]
theorem jGA {i:Int}(h:0≤i∧i≤20):vP 1 [(i,[1])]=0:=by
 unfold vP;have hb:Jm 1 (i,[1])=false:=by
  unfold Jm;have hr:wQ [1]=true:=by kernel_rfl
  rw[jv (by show ¬1099511627776<i;omega)]
  show (false||(decide (0<1)&&(!wQ [1]||decide ((1:Int)≠1))))=false
  rw[hr];rfl
 simp[hb]
theorem jEV {j:JG}{n:NA}(h:n.kind≠16):(ve j n).epoch=j.epoch:=by
 unfold ve
 split
 ·rfl
 split
 ·rfl
 split
 ·rfl
 split
 ·split<;>rfl
 ·rfl
theorem UO.of {j:JG}(hw:WN j)(hv:RV j)(s1:1≤j.shards)(s2:j.shards≤4)(hd:j.done.length≤1048576):UO j:=by
 refine ⟨hw.pb,s1,s2,?_,hd,λd hd=>⟨(hw.d d hd).1,hw.g.dp d hd,hv.dn d hd⟩,λt ht=> ?_⟩
 ·have h1:(xi j).length≤(ZG j).length:=kw _ _
  have h2:=(QL hw.g.kt).length_eq;rw[jf] at h2;have:=hv.tl;omega
 ·have hm:=jB.1 ht
  have hl:=X1 hw hm.1;have hW:=hw.g.lk hl;have hN:=hw.lk hl;have hR:=hv.tr _ ((vp hw.g.kt).1 hl);have h0:0<t.stamp:=by simpa[fj] using hm.2
  have hl0:=hw.g.b.l0;have hsn:((j.shards.toNat:Nat):Int)=j.shards:=Int.toNat_of_nonneg zo;have hln:((j.last.toNat:Nat):Int)=j.last:=Int.toNat_of_nonneg hl0;exact ⟨hW.x0,hN.x1,hN.b0,hN.b1,h0,by rw[hln];exact hR.s,hW.r,hW.pl,hR.n,λq hq=>by rw[hsn];exact hR.b q hq⟩
theorem sQ {j:JG}(hw:WN j){x:Int}{u:TR}(h:qE (xu j).tr x=some u):∃t,qE j.tr x=some t∧0<t.stamp∧u=t.bare:=by
 have hm:=vM h;obtain ⟨t,ht,e⟩:=jM.1 hm;have e1:t.txn=x:=jj Prod.fst e;have e2:t.bare=u:=jj Prod.snd e;have hc:=jB.1 ht;have hl:=X1 hw hc.1;rw[e1] at hl;exact ⟨t,hl,by simpa[fj] using hc.2,e2.symm⟩
theorem WN.bare {j:JG}(h:WN j):WN (xu j):=by
 have hb:=h.g.b;have key:∀u∈(xu j).tr,∃t,qE j.tr u.1=some t∧u.2=t.bare:=λu hu=>by
  obtain ⟨t,ht,e⟩:=jM.1 hu;have hl:=X1 h (jB.1 ht).1;exact ⟨t,by rw[←e];exact hl,by rw[←e]⟩
 have kd:∀u∈(xu j).done,u∈j.done:=λu hu=>by
  obtain ⟨b,hb,e⟩:=jM.1 hu;obtain ⟨s,hs⟩:=lM hb h.g.kd;rw[hs] at e;rw[←e];exact vM hs
 refine ⟨⟨⟨hb.e0,hb.e1,ki _,by show (0:Int)<1048576;decide,hb.l0,hb.l1,hb.d1,hb.d2⟩,?_,pw h.g.kd,λu hu=> ?_,λu hu=>h.g.dp u (kd u hu)⟩,λu hu=> ?_,λu hu=>h.d u (kd u hu)⟩
 ·unfold qm
  show ((xi j).map λt=>(t.txn,t.bare)).map (·.1)|>.Nodup
  rw[kE];exact VJ h.pb
 ·obtain ⟨t,ht,e⟩:=key u hu
  have:=h.g.lk ht;rw[e];exact ⟨this.xx,this.x0,this.st,this.r,this.pl,this.pb,List.Pairwise.nil,(λ_ h=>by cases h),List.Pairwise.nil,(λ_ h=>by cases h),jw _⟩
 ·obtain ⟨t,ht,e⟩:=key u hu
  have:=h.lk ht;rw[e];exact ⟨this.x1,this.b0,this.b1,this.s1,ki _,by show (0:Int)≤1099511627776;decide,ki _,by show (0:Int)<16;decide,λ_ h=>by cases h⟩
theorem cw (j:JG)(hw:WN j):(xu j).tr.length≤j.tr.length∧(xu j).done.length=j.done.length:=by
 refine ⟨?_,?_⟩
 ·show ((xi j).map _).length≤_
  rw[jf];unfold xi;refine ke (kw _ _) ?_;rw[(QL hw.g.kt).length_eq,jf];exact jz _
 ·show (Jv j).length=_
  unfold Jv;rw[jf,wV,jf]
theorem fO.save {s dim room:Int}{n:Nat}{j:JG}(hw:WN j)(hv:RV j)(es:j.shards=s)(ed:j.dim=dim)(s1:1≤s)(s2:s≤4)(hn:n+2<100)(ht:j.tr.length≤500)(hd:j.done.length≤2000)(he:j.epoch+1≤1099511627776):fO s dim ⟨room,n,qu j,[]⟩ j [] (xu j):=by
 have hb:=cw j hw;have h1:=xQ hw zo zo;have h2:=xQ hw.bare zo zo;exact ⟨hn,rfl,UO.of hw hv zo zo zo,es,ed,hw.bare,rfl,(λ_ h=>by cases h),jw _,rfl,he,by omega,by omega,by omega,by omega,λ_ h=>by cases h⟩
theorem fO.snoc {s dim:Int}{l:LJ}{j0:JG}{ns:List NA}{jl:JG}(h:fO s dim l j0 ns jl)(hw:WN jl){n:NA}(hr:qn n=true)(hx:wg n)(hk:n.kind=16∨n.kind=17∨n.kind=18)(hE:qW jl n=0)(hl:(qz n).length≤4096)(hns:ns.length<1000)(ht:(ve jl n).tr.length≤500)(hd:(ve jl n).done.length≤2000)(he:(ve jl n).epoch+1≤1099511627776):
  fO s dim {l with R:=l.R++[qz n]} j0 (ns++[n]) (ve jl n):=by
 have hp:=wC hr hx;have h2:=xQ (hw.app hx.a) zo zo;refine ⟨h.n,h.st,h.u,h.es,h.ed,h.w,?_,λm hm=> ?_,by rw[jc];simp;omega,?_,he,by omega,by omega,by omega,h.sp,λx hx=> ?_⟩
 ·show l.R++[qz n]=vO (ns++[n])
  rw[h.R];unfold vO;rw[jq];rfl
 ·rcases jy.1 hm with hm|hm
  ·exact h.nk m hm
  ·rw[ji.1 hm];exact ⟨hr,hx⟩
 ·rw[r8,h.ld]
  show (if _ then ldN (ve jl n) [] else none)=_
  rw[jb ⟨hk,hE⟩];rfl
 ·rcases jy.1 hx with hx|hx
  ·exact h.okR x hx
  ·rw[ji.1 hx];exact ⟨hl,by omega⟩
structure FI (i:Nat)(l:LJ)(j j0 jl:JG)(ns:List NA):Prop where
 K:fO 1 1 l j0 ns jl
 n:l.n≤i+1
 Rl:ns.length≤i+1
 w:WN j
 v:RV j
 wl:WN jl
 sh:j.shards=1
 dm:j.dim=1
 ep:j.epoch=1
 epl:jl.epoch=1
 la:jl.last=j.last
 sq:0≤j.seq∧j.seq≤i
 ll:j.last≤i
 dk:∀u∈j.done,u.1<i
 tb:∀u∈j.tr,u.2.batch<i∧u.1≤1048576+j.seq
 sub:∀x,qE j.tr x=none→qE jl.tr x=none
 tl:jl.tr.length≤8+i
 dl:jl.done.length≤i
 jd:j.done.length≤i
theorem FI.up {i:Nat}{l:LJ}{j j0 jl:JG}{ns:List NA}(h:FI i l j j0 jl ns):FI (i+1) l j j0 jl ns:=
 ⟨h.K,by have:=h.n;omega,by have:=h.Rl;omega,h.w,h.v,h.wl,h.sh,h.dm,h.ep,h.epl,h.la,by have:=h.sq;omega,by have:=h.ll;omega,λu hu=>by have:=h.dk u hu;omega,λu hu=>by have:=h.tb u hu;omega,h.sub,by have:=h.tl;omega,by have:=h.dl;omega,by have:=h.jd;omega⟩
abbrev tX (j:JG):Int:=1048576+j.seq+1
theorem FI.tx {i:Nat}{l:LJ}{j j0 jl:JG}{ns:List NA}(h:FI i l j j0 jl ns):j.epoch*1048576+j.seq+1=tX j:=by
 rw[h.ep];show 1*1048576+j.seq+1=1048576+j.seq+1;omega
theorem FI.fresh {i:Nat}{l:LJ}{j j0 jl:JG}{ns:List NA}(h:FI i l j j0 jl ns):qE j.tr (tX j)=none:=wX λu hu e=>by
 have h1:=(h.tb u hu).2;have h2:u.1=1048576+j.seq+1:=e;omega
theorem FI.ask {i:Nat}{l:LJ}{j j0 jl:JG}{ns:List NA}(h:FI i l j j0 jl ns)(hi:i≤20):
  (8≤j.tr.length→w8 j 5 (fA i)=⟨[],[],[(5,fR i 0 8)],[],[]⟩)∧(¬8≤j.tr.length→w8 j 5 (fA i)=⟨[],[vY (fT j i)],[(1,fP (tX j) j.last i)],[],[]⟩):=by
 have hi2:(0:Int)≤(i:Int)∧(i:Int)≤20:=by omega
 have h1:w8 j 5 (fA i)=jAJ j 5 (fA i):=by
  unfold w8;rw[ja (by rw[rA hi2];decide),jb rfl]
 have h2:qE j.done (i:Int)=none:=wX λu hu e=>by have:=h.dk u hu;omega
 have h3:¬(j.tr.any λu=>decide (u.2.batch=(fA i).batch))=true:=by
  intro hc;obtain ⟨u,hu,e⟩:=ku.1 hc;have e:u.2.batch=(i:Int):=kV e;have:=(h.tb u hu).1;omega
 have hsq:=h.sq;have hll:=h.ll;have h4:XV j (fA i)=if 8≤j.tr.length then 8 else 0:=by
  unfold XV;rw[h.dm,show (fA i).ops=[((i:Int),[1])] from rfl,jGA hi2,ja zd]
  by_cases h8:8≤j.tr.length
  ·rw[jb (.inl h8),jb h8]
  ·rw[ja zo,ja h8]
 have h5:jAJ j 5 (fA i)=if XV j (fA i)≠0 then ⟨[],[],[YA 5 (fA i).batch 0 (XV j (fA i))],[],[]⟩ else ⟨[],[vY (gU j 5 (fA i))],(gU j 5 (fA i)).parts.map (Xg j.shards (gU j 5 (fA i))),[],[]⟩:=by
  unfold jAJ;rw[show (fA i).batch=(i:Int) from rfl,h2];dsimp only;rw[ja h3]
 rw[h1,h5,h4];refine ⟨λh8=> ?_,λh8=> ?_⟩
 ·rw[jb h8,jb zd]
 ·rw[ja h8,ja zd,jHz h.sh,h.sh]
  show (⟨[],[vY (fT j i)],[Xg 1 (fT j i) 1],[],[]⟩:PG)=_
  rw[jHr (j:=j) i 1 rfl,h.tx]
abbrev gJ1 (j:JG)(i:Int):JG:=ve j (vY (fT j i))
theorem bN {j:JG}{i:Int}(hs:0≤j.epoch∧j.epoch≤1∧0≤j.seq∧j.seq≤21∧0≤j.last∧j.last≤21)(hi:0≤i∧i≤20):qn (vY (fT j i))=true∧wg (vY (fT j i)):=by
 refine ⟨tF (by show j.last≤_;omega) (by show (0:Int)≤5∧(5:Int)<16;decide) zk (by show 1≤4;decide) ?_ (by show 1≤16;decide),JE (JF (by show (0:Int)≤19∧(19:Int)≤255;decide) (by show 0≤j.epoch*1048576+j.seq+1∧j.epoch*1048576+j.seq+1≤18446744073709551615;omega) (by show 0≤i∧i≤18446744073709551615;omega) (by show (0:Int)≤0∧(0:Int)≤_;decide) (by show 0≤j.last∧j.last≤18446744073709551615;omega) rfl rfl rfl rfl rfl (by show (0:Int)≤13;decide) (by show (5:Int)≤13;decide)) hi.1 (.inr rfl) rfl⟩
 show ([((i:Int),[1])]:VL).any xv=false
 rw[kX,pA hi];rfl
structure FJ (i:Nat)(j j1:JG):Prop where
 w:WN j1
 v:RV j1
 E:qW j (vY (fT j i))=0
 b:qn (vY (fT j i))=true∧wg (vY (fT j i))
 tr:j1.tr=qN j.tr (tX j) (fT j i)
 tl:qE j1.tr (tX j)=some (fT j i)
 sq:j1.seq=j.seq+1
 sh:j1.shards=1
 dm:j1.dim=1
 ep:j1.epoch=1
 la:j1.last=j.last
 dn:j1.done=j.done
theorem FI.j1 {i:Nat}{l:LJ}{j j0 jl:JG}{ns:List NA}(h:FI i l j j0 jl ns)(hi:i≤20)(ht:¬8≤j.tr.length):FJ i j (gJ1 j i):=by
 have hsq:=h.sq;have hll:=h.ll;have hl0:=h.w.g.b.l0;have hep:=h.ep;have hb:=bN (j:=j) (i:=i) zo zo;have htx:=h.tx;have hE:qW j (vY (fT j i))=0:=by
  rw[ft hb.1 rfl]
  show (if (qE j.tr (j.epoch*1048576+j.seq+1)).isSome=true then (7:Int) else 0)=0
  rw[htx,h.fresh];rfl
 have hA:gJ1 j i={j with tr:=qN j.tr (tX j) (fT j i),seq:=j.seq+1}:=by
  show ve j (vY (fT j i))=_
  rw[WU hE rfl]
  show ({j with tr:=qN j.tr (j.epoch*1048576+j.seq+1) (fT j i),seq:=if (j.epoch*1048576+j.seq+1) / 1048576=j.epoch then max j.seq ((j.epoch*1048576+j.seq+1) % 1048576) else j.seq}:JG)=_
  rw[htx,jb (by rw[hep];show (1048576+j.seq+1) / 1048576=1;omega),show max j.seq (tX j % 1048576)=j.seq+1 by show max j.seq ((1048576+j.seq+1) % 1048576)=_;omega]
 have hw1:=h.w.app hb.2.a;have hv1:=h.v.app h.w (n:=vY (fT j i)) ⟨λhk=>absurd hk (by show ¬(19:Int)=17;decide),λ_=>⟨by omega,by show [1]≠[];simp,λq hq=>by rw[ji.1 hq,h.sh];decide,by show j.epoch*1048576+j.seq+1<(j.epoch+1)*1048576;omega⟩⟩;have hw1:WN (gJ1 j i):=hw1;have hv1:RV (gJ1 j i):=hv1;refine ⟨hw1,hv1,hE,hb,by rw[hA],?_,by rw[hA],by rw[hA];exact h.sh,by rw[hA];exact h.dm,by rw[hA];exact h.ep,by rw[hA],by rw[hA]⟩;rw[hA]
 show qE (qN j.tr (tX j) (fT j i)) (tX j)=_
 rw[wa h.w.g.kt,jb rfl]
theorem FI.vote {i:Nat}{j j1:JG}(h:FJ i j j1)(hj:0≤j.seq)(hx:(fT j i).txn=tX j):w8 j1 1 (fV (tX j))=⟨[fC (tX j) i (j.last+1)],[],[(1,fD (tX j) (j.last+1) 0),(5,fR i (j.last+1) 0)],[wK (tX j)],[(1,fD (tX j) 0 8),(5,fR i 0 8)]⟩:=by
 have ht:0<tX j:=by show 0<1048576+j.seq+1;omega
 have h1:w8 j1 1 (fV (tX j))=fW j1 1 (fV (tX j)):=by
  unfold w8;rw[ja (by rw[rV ht];decide),ja (by show ¬(4:Int)=1;decide),jb rfl]
 have hm:(1:Int)∈(fT j i).parts:=ji.2 rfl;rw[h1];unfold fW;rw[show (fV (tX j)).txn=tX j from rfl,h.tl];dsimp only;have hx:j.epoch*1048576+j.seq+1=tX j:=hx;rw[ja (by rintro (h|h);exact absurd h zd;exact h hm),ja (by show ¬(0:Int)≠0;decide),ja (by simp),ja (by show ¬(0+1≠1);decide),h.la,hx];have e:∀s c:Int,zY (fT j i) s c=[(1,fD (tX j) s c),(5,fR i s c)]:=λs c=>by
  show [((1:Int),fD (j.epoch*1048576+j.seq+1) s c),(5,fR i s c)]=_
  rw[hx]
 rw[e,e]
abbrev gC (j:JG)(i:Nat):NA:=fC (tX j) i (j.last+1)
structure FP (i:Nat)(j j1:JG)(l:LJ)(j0 jl:JG)(ns:List NA):Prop where
 K:fO 1 1 l j0 ns jl
 n:l.n≤i+2
 Rl:ns.length≤i+1
 w:WN jl
 ep:jl.epoch=1
 la:jl.last=j.last
 sub:∀x,qE j1.tr x=none→qE jl.tr x=none
 fr:qE jl.tr (tX j)=none
 tl:jl.tr.length≤8+i
 dl:jl.done.length≤i
theorem FI.fp {i:Nat}{l:LJ}{j j0 jl:JG}{ns:List NA}(h:FI i l j j0 jl ns){j1:JG}(f:FJ i j j1):FP i j j1 l j0 jl ns:=
 ⟨h.K,by have := h.n;omega,h.Rl,h.wl,h.epl,h.la,fun x hx => h.sub x (by
  rw[f.tr,wa h.w.g.kt] at hx
  by_cases e:x=tX j
  ·rw[jb e] at hx;cases hx
  ·rwa [ja e] at hx),h.sub _ h.fresh,h.tl,h.dl⟩
theorem FI.fps {i:Nat}{l:LJ}{j j0 jl:JG}{ns:List NA}(h:FI i l j j0 jl ns)(hi:i≤20){j1:JG}(f:FJ i j j1):FP i j j1 ⟨l.room,l.n+1,qu j1,[]⟩ j1 (xu j1) []:=by
 have hb:=cw j1 f.w;have hn:=h.n;have htl:=f.v.tl;have hdl:j1.done.length≤i:=by rw[f.dn];exact h.jd
 refine ⟨fO.save f.w f.v f.sh f.dm zd zd zo zo zo (by rw[f.ep];decide),by show l.n+1≤i+2;omega,jw _,f.w.bare,f.ep,f.la,λx hx=> ?_,?_,by omega,by omega⟩
 ·cases hu:qE (xu j1).tr x with
  |none=>rfl
  |some u=>
   obtain ⟨t,ht,_⟩:=sQ f.w hu;rw[hx] at ht;cases ht
 ·cases hu:qE (xu j1).tr (tX j) with
  |none=>rfl
  |some u=>
   obtain ⟨t,ht,h0,_⟩:=sQ f.w hu;rw[f.tl] at ht;have:=Option.some.inj ht;subst this;exact absurd h0 (by show ¬(0:Int)<0;decide)
theorem ly {i:Nat}{l:LJ}{j j0 jl:JG}{ns:List NA}(h:FI i l j j0 jl ns)(hi:i≤20):qn (gC j i)=true∧wg (gC j i)∧(qz (gC j i)).length≤100∧(qz (gC j i)).length≠0:=by
 have hsq:=h.sq;have hll:=h.ll;have hl0:=h.w.g.b.l0;have hx:0<tX j∧tX j≤18446744073709551615:=by show 0<1048576+j.seq+1∧1048576+j.seq+1≤_;omega
 have hl:=jC3 (t:=tX j) (b:=(i:Int)) (z:=j.last+1) (ps:=[1]) hx.2 zo zo zd (λq hq=>by rw[ji.1 hq];decide);exact ⟨tE zo zk zd,xC hx zo zo,hl.1,hl.2⟩
theorem FP.cE {i:Nat}{l l0:LJ}{j j0 jl j1 j0' jl':JG}{ns ns':List NA}(h:FI i l j j0 jl ns)(hi:i≤20)(p:FP i j j1 l0 j0' jl' ns'):qW jl' (gC j i)=0:=by
 rw[Wm (ly h hi).1 rfl];have hl0:=h.w.g.b.l0;unfold py;rw[ja (by show ¬j.last+1=0;omega),show (gC j i).txn=tX j from rfl,p.fr]
theorem FI.comE1 {i:Nat}{l:LJ}{j j0 jl:JG}{ns:List NA}(h:FI i l j j0 jl ns)(hi:i≤20){j1:JG}(f:FJ i j j1):qW j1 (gC j i)=0∧ve j1 (gC j i)={j1 with tr:=qN j1.tr (tX j) {fT j i with stamp:=j.last+1},done:=qN j1.done i (j.last+1),last:=j.last+1}:=by
 have hl0:=h.w.g.b.l0;have hE:qW j1 (gC j i)=0:=by
  rw[Wm (ly h hi).1 rfl];unfold py;rw[ja (by show ¬j.last+1=0;omega),show (gC j i).txn=tX j from rfl,f.tl];exact ja (by show ¬(0:Int)<0;decide)
 refine ⟨hE,?_⟩;rw[J3 hE rfl,show (gC j i).txn=tX j from rfl,f.tl];dsimp only[Option.getD_some];rw[show max j1.last (gC j i).stamp=j.last+1 by rw[f.la];show max j.last (j.last+1)=_;omega]
theorem FI.com {i:Nat}{l l0:LJ}{j j0 jl j1 j0' jl':JG}{ns ns':List NA}(h:FI i l j j0 jl ns)(hi:i≤20)(f:FJ i j j1)(p:FP i j j1 l0 j0' jl' ns'):
  FI (i+1) {l0 with R:=l0.R++[qz (gC j i)]} (ve j1 (gC j i)) j0' (ve jl' (gC j i)) (ns'++[gC j i]):=by
 obtain ⟨cr,cx,cl,cz⟩:=ly h hi;have hE:=FP.cE h hi p;obtain ⟨hE1,hA1⟩:=h.comE1 hi f;have hl0:=h.w.g.b.l0;have hll:=h.ll;have hsq:=h.sq;have htl:=p.tl;have hdl:=p.dl;have happ:=jDp (j:=jl') (n:=gC j i);have hep:(ve jl' (gC j i)).epoch=1:=(jEV (by show ¬(17:Int)=16;decide)).trans p.ep;have hla:(ve jl' (gC j i)).last=j.last+1:=by
  rw[J3 hE rfl]
  show max jl'.last (j.last+1)=_
  rw[p.la];omega
 have hw2:=f.w.app cx.a;have hv2:=f.v.app f.w (n:=gC j i) ⟨λ_=>⟨_,f.tl⟩,λhk=>absurd hk (by show ¬(17:Int)=19;decide)⟩;have hRl:=p.Rl;refine ⟨p.K.snoc p.w cr cx (.inr (.inl rfl)) hE zo zo zo zo (by rw[hep];decide),p.n,by rw[jc];simp;omega,hw2,hv2,p.w.app cx.a,by rw[hA1];exact f.sh,by rw[hA1];exact f.dm,by rw[hA1];exact f.ep,hep,by rw[hla,hA1],by rw[hA1];show 0≤j1.seq∧j1.seq≤_;rw[f.sq];omega,by rw[hA1];show j.last+1≤_;omega,?_,?_,λx hx=> ?_,by omega,by omega,?_⟩
 ·rw[hA1]
  intro u hu
  rcases vC hu with hu|rfl
  ·rw[f.dn] at hu
   have:=h.dk u hu;omega
  ·show (i:Int)<_;omega
 ·rw[hA1]
  intro u hu
  show u.2.batch<_∧u.1≤1048576+j1.seq
  rw[f.sq]
  rcases vC hu with hu|rfl
  ·rw[f.tr] at hu
   rcases vC hu with hu|rfl
   ·have:=h.tb u hu
    omega
   ·exact ⟨by show (i:Int)<_;omega,by show 1048576+j.seq+1≤_;omega⟩
  ·exact ⟨by show (i:Int)<_;omega,by show 1048576+j.seq+1≤_;omega⟩
 ·rw[hA1] at hx
  have hx:qE (qN j1.tr (tX j) {fT j i with stamp:=j.last+1}) x=none:=hx;rw[wa f.w.g.kt] at hx
  by_cases e:x=tX j
  ·rw[jb e] at hx;cases hx
  ·rw[ja e] at hx
   rw[J3 hE rfl]
   show qE (qN jl'.tr (tX j) _) x=none
   rw[wa p.w.g.kt,ja e];exact p.sub x hx
 ·rw[hA1]
  show (qN j1.done (i:Int) (j.last+1)).length≤i+1
  have h1:=yf j1.done (i:Int) (j.last+1);have h2:j1.done.length≤i:=by rw[f.dn];exact h.jd
  omega
theorem FI.gone1 {i:Nat}{l:LJ}{j j0 jl:JG}{ns:List NA}(h:FI i l j j0 jl ns)(hi:i≤20){j1:JG}(f:FJ i j j1):ve j1 (wK (tX j))={j1 with tr:=qO j1.tr (tX j)}:=by
 have hsq:=h.sq;have hx:0<tX j∧tX j≤18446744073709551615:=by show 0<1048576+j.seq+1∧1048576+j.seq+1≤_;omega
 refine Xr ?_ (.inr rfl);rw[jDq (xG hx).1 (.inr rfl),show (wK (tX j)).txn=tX j from rfl,f.tl];exact ja (by simp)
theorem FI.rej {i:Nat}{l l0:LJ}{j j0 jl j1 j0' jl':JG}{ns ns':List NA}(h:FI i l j j0 jl ns)(hi:i≤20)(f:FJ i j j1)(p:FP i j j1 l0 j0' jl' ns'):FI (i+1) l0 (ve j1 (wK (tX j))) j0' jl' ns':=by
 have hA:=h.gone1 hi f;have hsq:=h.sq;have hll:=h.ll;have hx:0<tX j∧tX j≤18446744073709551615:=by show 0<1048576+j.seq+1∧1048576+j.seq+1≤_;omega
 have hw2:=f.w.app (xG hx).2.a;have hv2:=f.v.app f.w (n:=wK (tX j)) ⟨λhk=>absurd hk (by show ¬(22:Int)=17;decide),λhk=>absurd hk (by show ¬(22:Int)=19;decide)⟩;have htl:=p.tl;have hdl:=p.dl;refine ⟨p.K,p.n,by have:=p.Rl;omega,hw2,hv2,p.w,by rw[hA];exact f.sh,by rw[hA];exact f.dm,by rw[hA];exact f.ep,p.ep,by rw[hA];exact p.la.trans f.la.symm,by rw[hA];show 0≤j1.seq∧j1.seq≤_;rw[f.sq];omega,by rw[hA];show j1.last≤_;rw[f.la];omega,?_,?_,λx hx=> ?_,by omega,by omega,?_⟩
 ·rw[hA]
  intro u hu;have hu:u∈j1.done:=hu;rw[f.dn] at hu;have:=h.dk u hu;omega
 ·rw[hA]
  intro u hu
  show u.2.batch<_∧u.1≤1048576+j1.seq
  rw[f.sq];have hu:=(jB.1 (show u∈qO j1.tr (tX j) from hu)).1;rw[f.tr] at hu
  rcases vC hu with hu|rfl
  ·have:=h.tb u hu
   omega
  ·exact ⟨by show (i:Int)<_;omega,by show 1048576+j.seq+1≤_;omega⟩
 ·rw[hA] at hx
  have hx:qE (qO j1.tr (tX j)) x=none:=hx
  by_cases e:x=tX j
  ·rw[e];exact p.fr
  ·rw[Kk,ja e] at hx
   exact p.sub x hx
 ·rw[hA]
  show j1.done.length≤i+1
  rw[f.dn];have:=h.jd;omega
abbrev pl1 (j:JG)(i:Nat):PG:=⟨[],[vY (fT j i)],[(1,fP (tX j) j.last i)],[],[]⟩
abbrev pl0 (i:Nat):PG:=⟨[],[],[(5,fR i 0 8)],[],[]⟩
abbrev pl2 (j:JG)(i:Nat):PG:=⟨[gC j i],[],[(1,fD (tX j) (j.last+1) 0),(5,fR i (j.last+1) 0)],[wK (tX j)],[(1,fD (tX j) 0 8),(5,fR i 0 8)]⟩
theorem FI.Rn {i:Nat}{l:LJ}{j j0 jl:JG}{ns:List NA}(h:FI i l j j0 jl ns):l.R.length≤i+1:=by
 rw[h.K.R];unfold vO;rw[jf];exact h.Rl
theorem jFw {T:JZ}{j:JG}{pl:PG}(hr:pl.rec_=[])(hk:T.k<24)(dn:Bool):ZO T j pl=T∧lL T j pl=appL j pl.notes∧cb T j dn pl=dn∧doM T j pl=pl.mail:=by
 have hF:¬doF T j pl:=λh=>h.1 hr
 have h1:zP T j pl=T:=jb hr;have h2:ff T j dn pl=dn:=jb hr;refine ⟨?_,?_,?_,ja hF⟩
 ·unfold ZO;rw[ja hF,h1,ja zo]
 ·unfold lL XN;rw[ja hF,hr];rfl
 ·unfold cb;rw[ja hF,h1,ja zo,h2]
theorem FI.k0 {i:Nat}{l:LJ}{j j0 jl:JG}{ns:List NA}(h:FI i l j j0 jl ns)(hi:i≤20):DoK l.z j (pl0 i):=by
 have hR:=h.Rn;have htl:=h.v.tl;have hdl:=h.jd;have hg:=xQ h.w zo zo;exact ⟨h.w,by omega,by omega,zO,zO,zO,by show 0≤1000;decide,by show 0≤1000;decide,by show 0≤1000;decide,λh=>absurd rfl h,by omega,λ_ hk=>absurd hk (by show ¬24≤l.R.length;omega)⟩
theorem FI.k1 {i:Nat}{l:LJ}{j j0 jl:JG}{ns:List NA}(h:FI i l j j0 jl ns)(hi:i≤20)(f:FJ i j (gJ1 j i)):DoK l.z j (pl1 j i):=by
 have hR:=h.Rn;have htl:=h.v.tl;have hdl:=h.jd;have hg:=xQ h.w zo zo;exact ⟨h.w,by omega,by omega,zO,xn f.b,zO,by show 0≤1000;decide,by show 1≤1000;decide,by show 0≤1000;decide,λh=>absurd rfl h,by omega,λ_ hk=>absurd hk (by show ¬24≤l.R.length;omega)⟩
theorem FI.wr {i:Nat}{l:LJ}{j j0 jl:JG}{ns:List NA}(h:FI i l j j0 jl ns)(hi:i≤20){j1:JG}(f:FJ i j j1):
  ∃(c:Int) (l':LJ) (j' j0' jl':JG) (ns':List NA),Qw l.z (qu j1) (vO [gC j i])=c∧JW l.z (qu j1) (vO [gC j i])=l'.z∧((c=0∧j'=ve j1 (gC j i))∨(c=8∧j'=ve j1 (wK (tX j))))∧FI (i+1) l' j' j0' jl' ns':=by
 obtain ⟨cr,cx,cl,cz⟩:=ly h hi;have hn:=h.n;obtain ⟨l',e1,e2,h2⟩:=jFL l (qu j1) (ps:=vO [gC j i]) (zM zo cz) (List.cons_ne_nil _ _) zo
 rcases h2 with ⟨e3,rfl|rfl⟩|⟨e3,rfl|rfl⟩
 ·exact ⟨0,_,_,_,_,_,e3,e1,.inl ⟨rfl,rfl⟩,h.com hi f (h.fp f)⟩
 ·exact ⟨0,_,_,_,_,_,e3,e1,.inl ⟨rfl,rfl⟩,h.com hi f (h.fps hi f)⟩
 ·exact ⟨8,_,_,_,_,_,e3,e1,.inr ⟨rfl,rfl⟩,h.rej hi f (h.fp f)⟩
 ·exact ⟨8,_,_,_,_,_,e3,e1,.inr ⟨rfl,rfl⟩,h.rej hi f (h.fps hi f)⟩
theorem FI.k2 {i:Nat}{l:LJ}{j j0 jl:JG}{ns:List NA}(h:FI i l j j0 jl ns)(hi:i≤20){j1:JG}(f:FJ i j j1):DoK l.z j1 (pl2 j i):=by
 obtain ⟨cr,cx,cl,cz⟩:=ly h hi;have hsq:=h.sq;have hx:0<tX j∧tX j≤18446744073709551615:=by show 0<1048576+j.seq+1∧1048576+j.seq+1≤_;omega
 have hR:=h.Rn;have hn:=h.n;have htl:=f.v.tl;have hdl:j1.done.length≤i:=by rw[f.dn];exact h.jd
 have hg:=xQ f.w zo zo;obtain ⟨c,l',j',j0',jl',ns',e1,e2,e3,h'⟩:=h.wr hi f;have hR':=h'.Rn;refine ⟨f.w,by omega,by omega,xn ⟨cr,cx⟩,zO,xn (xG hx),by show 1≤1000;decide,by show 0≤1000;decide,by show 1≤1000;decide,λ_=>l.wr _ (ps:=vO [gC j i]) (zM zo cz) (List.cons_ne_nil _ _) zo zo,by omega,λ_ hk=>absurd hk ?_⟩;unfold zP;rw[ja (by simp),e2]
 show ¬24≤l'.R.length
 omega
theorem FI.do2 {i:Nat}{l:LJ}{j j0 jl:JG}{ns:List NA}(h:FI i l j j0 jl ns)(hi:i≤20){j1:JG}(f:FJ i j j1):
  ∃(c:Int) (l':LJ) (j0' jl':JG) (ns':List NA) (j':JG),(c=0∨c=8)∧ZO l.z j1 (pl2 j i)=l'.z∧lL l.z j1 (pl2 j i)=j'∧cb l.z j1 false (pl2 j i)=false∧doM l.z j1 (pl2 j i)=[(1,fD (tX j) (if c=0 then j.last+1 else 0) c),(5,fR i (if c=0 then j.last+1 else 0) c)]∧
   FI (i+1) l' j' j0' jl' ns'∧(qE j'.done i).isSome=decide (c=0)∧j'.last=(if c=0 then j.last+1 else j.last):=by
 obtain ⟨c,l',j',j0',jl',ns',e1,e2,e3,h'⟩:=h.wr hi f;have hR':=h'.Rn;have hk:¬24≤l'.z.k:=by show ¬24≤l'.R.length;omega
 have hne:¬(pl2 j i).rec_=[]:=by simp
 rcases e3 with ⟨rfl,rfl⟩|⟨rfl,rfl⟩
 ·have hF:¬doF l.z j1 (pl2 j i):=λhh=>hh.2 e1
  have h1:zP l.z j1 (pl2 j i)=l'.z:=by unfold zP;rw[ja hne,e2]
  have h2:ff l.z j1 false (pl2 j i)=false:=by unfold ff;rw[ja hne,e2];rfl
  obtain ⟨hE1,hA1⟩:=h.comE1 hi f;refine ⟨0,l',j0',jl',ns',ve j1 (gC j i),.inl rfl,?_,?_,?_,ja hF,h',?_,by rw[hA1,jb rfl]⟩
  ·unfold ZO;rw[ja hF,h1,ja hk]
  ·unfold lL XN;rw[ja hF];rfl
  ·unfold cb;rw[ja hF,h1,ja hk,h2]
  ·rw[hA1]
   show (qE (qN j1.done (i:Int) (j.last+1)) (i:Int)).isSome=_
   rw[wa f.w.g.kd,jb rfl];rfl
 ·have hF:doF l.z j1 (pl2 j i):=⟨hne,by rw[e1];decide⟩
  have hA:=h.gone1 hi f;refine ⟨8,l',j0',jl',ns',ve j1 (wK (tX j)),.inr rfl,?_,?_,?_,jb hF,h',?_,by rw[hA,ja zd];exact f.la⟩
  ·unfold ZO;rw[jb hF];exact e2
  ·unfold lL;rw[jb hF];rfl
  ·unfold cb;rw[jb hF,e2];rfl
  ·rw[hA]
   have:qE j1.done (i:Int)=none:=wX λu hu e=>by
    rw[f.dn] at hu;have:=h.dk u hu;omega
   show (qE j1.done (i:Int)).isSome=_
   rw[this];rfl
abbrev fL0 (room:Int):LJ:=⟨room,0,qu (wy 1 1),[]⟩
theorem fm0 {room:Int}(h:40≤room):KM 1 1 (D0 room)=0∧sA 1 1 (D0 room)=(fL0 room).d:=jHK (by
 have h:=X3 (qu (wy 1 1));rw[YH] at h ⊢;have:([0,0,0,0]:List UInt8).length=4:=rfl;omega)
theorem fw0 (room:Int):∃(c:Int) (l':LJ),Qw (fL0 room).z (qu (wy 1 1)) (mW (wy 1 1))=c∧JW (fL0 room).z (qu (wy 1 1)) (mW (wy 1 1))=l'.z∧(c=8∨(c=0∧∃j0 jl ns,FI 0 l' aJ1 j0 jl ns)):=by
 have he:=Ye;have hr:=yD (m:=1) zd zd;obtain ⟨l',e1,e2,h2⟩:=jFL (fL0 room) (qu (wy 1 1)) (ps:=mW (wy 1 1)) (zM (p:=qz (qv 1)) zo he.2) (List.cons_ne_nil _ _) (by show 0+1<100;decide);have hv:RV aJ1:=⟨by decide,λ_ h=>(by cases h),λ_ h=>(by cases h)⟩;have hE:qW (wy 1 1) (qv 1)=0:=by kernel_rfl
 have fin:∀n,n≤1→FI 0 ⟨room,n,qu (wy 1 1),[]++[qz (qv 1)]⟩ aJ1 (wy 1 1) aJ1 [qv 1]:=λn hn=>by
  have K0:fO 1 1 ⟨room,n,qu (wy 1 1),[]⟩ (wy 1 1) [] (xu (wy 1 1)):=fO.save (WN0 zd zd) (RV.zero 1 1) rfl rfl zd zd zo zd zd zd;rw[l8] at K0;have K1:=K0.snoc (WN0 zd zd) hr.1 hr.2 (.inl rfl) hE zo (by show 0<1000;decide) (by rw[aw1];decide) (by rw[aw1];decide) (by rw[aw1];decide);rw[aw1] at K1;exact ⟨K1,hn,by decide,wn1,hv,wn1,rfl,rfl,rfl,rfl,rfl,by decide,by decide,(λ_ h=>by cases h),(λ_ h=>by cases h),λ_ h=>h,by decide,by decide,by decide⟩
 rcases h2 with ⟨e3,rfl|rfl⟩|⟨e3,h4⟩
 ·exact ⟨0,_,e3,e1,.inr ⟨rfl,_,_,_,fin 0 zd⟩⟩
 ·exact ⟨0,_,e3,e1,.inr ⟨rfl,_,_,_,fin 1 zd⟩⟩
 ·exact ⟨8,l',e3,e1,.inl rfl⟩
end Go.Proofs.YtlnfjhiphlfkjaaGreatDoor
