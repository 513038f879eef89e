/- Walks of functions, and plain laws, that the last text rests on. No condition. -/
import Derived.Test.YtlnfjhiphlfkjaaGreatDoorPk13
set_option linter.unusedVariables false
set_option linter.unusedSimpArgs false
set_option linter.unusedSectionVars false
set_option maxHeartbeats 32000000
namespace Go.Proofs.YtlnfjhiphlfkjaaGreatDoor
open Go Go.SX
attribute [local irreducible] swp qq qL qJ vZ qh St qi qk vu qH
abbrev fNV (i b1 b2:Nat):NV:=⟨1,0,i,0,0,0,0,0,0,0,0,0,none,0,[],some ⟨b2,0,none⟩,1,[⟨i,some ⟨b1,0,none⟩,1,[1]⟩],none,0,[],none,0,[]⟩
theorem jCr {a b:Int}{m n:NA}(h:qn m=true)(h2:qn n=true):KY [(a,m),(b,n)]=[(a,qz m),(b,qz n)]:=by
 unfold KY;rw[kI,jb h,kI,jb h2,List.filter_nil];rfl
section
variable {n : Nat} {ops rest : List Oper} {Q : vm} {f : vL} {L L0 L1 : HL}
theorem S.cg2 {c pj q:Nat}{gv:Value}{dn:Bool}{M:OM}{j:JG}{d:Tmp}{ty:TypeId}{pos:String}{af:Array Edge}{g:FuncId}{xs:Array Operand}{ats:Array TypeId}{args:List Value}{R:Value→HL→Prop}[hp:KV pj L M j L0][h1:xp (wM c pj gv q dn) L0 L1][he:Go.SX.qj kY g]
  (hx:xJ f xs.toList=some args) (hc:qh kY g args (wM c pj gv q dn::qD M pj j::L1) R) (hk:∀v L',R v L'→qq kY n ops rest Q (upd f d v) L'):
  qq kY n ops (⟨some d,.call ⟨.value (.func g),xs,ats⟩,ty,pos,af,none⟩::rest) Q f L:=qo (hp.ent.trans ((qi.cons h1.ent).trans (qi.perm (List.Perm.swap _ _ _)))) (S.cr hx hc hk)
end
theorem jED (j:JG)(m:Int):(ve j (qv m)).last=j.last:=by
 unfold ve
 split
 ·rfl
 ·rw[jb rfl]
theorem jHQ (l:LJ)(s:List UInt8){ps:List (List UInt8)}(h1:mS ps=0)(h2:ps≠[])(hn:l.n+1<100):Qw l.z s ps=0∨Qw l.z s ps=8:=by
 obtain ⟨_,_,_,h⟩:=jFL l s h1 h2 hn
 rcases h with ⟨h,_⟩|⟨h,_⟩
 ·exact .inl h
 ·exact .inr h
set_option maxRecDepth 100000 in
theorem Zx (room batches:Nat)(M:OM)(L:HL)(hr16:room<65536)(hb8:batches<256)(hT:zB M)(hB:xL M)(hE:VT M):
  qh kY 3 [.int .u16 room,.int .u8 batches] (qp M::L) (λv _=>v=.bool true):=by
 refine qg Tryz.func3 rfl rfl rfl ?_;refine Q.r ?_;refine S.cr rfl (mP M _ hT hB hE) ?_;rintro _ _ ⟨rfl,M0,hl0,rfl⟩;refine Q.r ?_;refine S.y (Y.cvi rfl) ?_;rw[vl zo zo];refine Q.r ?_;refine S.y (Y.rem rfl rfl zd) ?_;rw[Int.tmod_eq_emod_of_nonneg zo];obtain ⟨rm,hrm⟩:∃rm:Nat,rm=40+room % 300:=⟨_,rfl⟩;have hrm2:(40:Int)+(room:Int) % 300=(rm:Int):=by omega
 refine Q.r ?_;rw[hrm2];refine S.cr rfl (cP rm _ zo) ?_;rintro _ _ ⟨p,rfl,rfl⟩;refine Q.r ?_;refine S.ckm p rfl (JO p 1 1 (D0 rm) (fL0 rm) (wy 1 1) [] (wy 1 1) M0 _ zd zd zd zd (hT.mono hl0) (hB.mono hl0) (hE.mono hl0) (fm0 zo) (fO.zero zd zd zd zd) zd) ?_;obtain ⟨c0,l0,e1,e2,h3⟩:=fw0 rm;rw[show jGx p 1 1 (fL0 rm) (wy 1 1) M0 L=λr L'=>jGx p 1 1 (fL0 rm) (wy 1 1) M0 L r L' from rfl];rintro _ _ ⟨M1,hl1,⟨hne,rfl,rfl⟩|⟨hz,_,c,pj,q,g,x,rfl,rfl⟩⟩
 ·have h8:c0=8:=by
   rcases h3 with h|⟨h,_⟩
   ·exact h
   ·rw[e1] at hne;exact absurd h hne
  rw[e1,h8];refine Q.r ?_;exact N.t rfl (kZ _) rfl
 have h30:c0=0:=by rw[←e1];exact hz
 obtain ⟨j0,jl,ns,hF0⟩:∃j0 jl ns,FI 0 l0 aJ1 j0 jl ns:=by
  rcases h3 with h|⟨_,h⟩
  ·rw[h30] at h;cases h
  ·exact h
 rw[e2,show ve (wy 1 1) (qv ((wy 1 1).epoch+1))=aJ1 from aw1];have hl01:=hl0.trans hl1;clear e1 e2 h3 hz;refine Q.r ?_;refine S.y (Y.rem rfl rfl zd) ?_;rw[Int.tmod_eq_emod_of_nonneg zo];refine Q.r ?_;refine S.y (Y.cvi rfl) ?_;rw[wrap_u64 zo zo];refine Q.r ?_;refine S.y (Y.add rfl rfl) ?_;rw[wrap_u64 zo zo];obtain ⟨nb,hN⟩:∃nb:Nat,nb=1+batches % 20:=⟨_,rfl⟩;have hN2:(1:Int)+(batches:Int) % 20=(nb:Int):=by omega
 have hN20:nb≤20:=by omega
 rw[hN2];clear hN hN2 hrm hrm2;refine Q.r ?_;refine qw (σ:=LJ×JG×JG×JG×List NA×(OM)) (λs=> [(5,qK p),(7,Js c),(9,.int .i64 s.2.1.last)])
  (λs=>yU p q s.1.z s.2.2.2.2.2 (wM c pj (vT g) q false::qD s.2.2.2.2.2 pj s.2.1::VG g 1 1 x::L)) (λs=>FI nb s.1 s.2.1 s.2.2.1 s.2.2.2.1 s.2.2.2.2.1∧qV M s.2.2.2.2.2) ?_ ?_
 ·refine ql (σ:=Nat×LJ×JG×JG×JG×List NA×(OM)) (λs=> [(5,qK p),(7,Js c),(45,.int .u64 nb),(9,.int .i64 s.2.2.1.last),(46,.int .u64 s.1)])
   (λs=>yU p q s.2.1.z s.2.2.2.2.2.2 (wM c pj (vT g) q false::qD s.2.2.2.2.2.2 pj s.2.2.1::VG g 1 1 x::L)) (λs=>s.1≤nb∧FI s.1 s.2.1 s.2.2.1 s.2.2.2.1 s.2.2.2.2.1 s.2.2.2.2.2.1∧qV M s.2.2.2.2.2.2) (λs=>nb - s.1) (0,l0,aJ1,j0,jl,ns,M1) zt eG ⟨jw _,hF0,hl01⟩ ?_
  clear hF0 hl01 hl1 hl0;rintro ⟨i,l,j,j0,jl,ns,M1⟩ ⟨hiN,hF,hl01⟩;dsimp only at hiN hF hl01 ⊢
  by_cases hlt:i<nb
  ·have hlt':(i:Int)<nb:=by omega
   have hi20:i≤20:=by omega
   have hi2:(0:Int)≤(i:Int)∧(i:Int)≤20:=by omega
   have hrA:=rA hi2;have hxA:=xA hi2;refine Q.r ?_;(repeat (intro b1;refine Q.r ?_));rename_i bi;revert b1;intro bo;refine qo (vg (b:=bo) (t:=38) (sz:=2) (m:=1) rfl) ?_;refine y9 bi (t:=21) (l:=[.int .i32 1]) (m:=1) (cs:=[.int .i32 1]) (jz _) rfl (λM2 hl2 hs2=> ?_);refine qR (some ⟨bo,0,none⟩) (λM3 hl3 hs3=> ?_);have hl03:=hl01.trans (hl2.trans hl3);have hn1:xN M3 (fNV i bi bo):=⟨qI.nil0,⟨hs3,λo ho=>by rw[ji.1 ho];exact hs2.mono hl3⟩,qI.nil0,qI.nil0,λo ho=>by cases ho⟩;have hc1:mO (fNV i bi bo):=⟨jw _,λo ho=>by rw[ji.1 ho];exact jz _,jw _,(λo ho=>by cases ho),jw _,by show 1≤_;decide,jw _,jw _⟩;have hf1:(fNV i bi bo).abs.few=fA i:=rfl;refine S.cq (A:=qp M3) (args:=[(fNV i bi bo).val]) rfl (Q2 (fNV i bi bo) M3 _ hn1 hc1 (by rw[hf1];exact zF hrA hxA) (by rw[hf1];exact hxA)) ?_;rintro _ _ ⟨v,M4,rfl,hv,hvo,hvc,hl4,rfl⟩;have hl04:=hl03.trans hl4;rw[hf1,show jDi (fA i)=qz (fA i) from jb hrA] at hv;have hvl:v.bs.length≤10000000:=by have:=(wC hrA hxA).2;rw[hv];omega
   refine vH pj (hl2.trans (hl3.trans hl4)) ?_;refine qo (L':=yU p q l.z M4 (wM c pj (vT g) q false::qD M4 pj j::VG g 1 1 x::L)) eG ?_;have hRn:=hF.Rn;have hk24:l.z.k<24:=by show l.R.length<24;omega
   have hsq:=hF.sq;have hll:=hF.ll;have hlo:=hF.w.g.b.l0;have hxj:0<tX j∧tX j≤18446744073709551615:=by show 0<1048576+j.seq+1∧1048576+j.seq+1≤_;omega
   obtain ⟨hask1,hask2⟩:=hF.ask hi20
   by_cases h8:8≤j.tr.length
   ·have hpl:=hask1 h8
    have hrR:qn (fR i 0 8)=true:=rR hi2.1 zd zd;have hxR:wg (fR i 0 8):=xR hi2 zd zd;obtain ⟨d1,d2,d3,d4⟩:=jFw (T:=l.z) (j:=j) (pl:=pl0 i) rfl hk24 false;have hS:=Jr c pj (vT g) q p l.z j 5 v.a v.c v.bs (fA i) M4 (VG g 1 1 x::L) hvo hvc (hT.mono hl04) (hB.mono hl04) hvl (by rw[hv];exact J6 hrA hxA) (by show ¬(1:Int)=8;decide) (by show ¬(1:Int)=10;decide) hF.w.g.b (by rw[hpl];exact hF.k0 hi20) (by rw[hpl,d4];exact xn ⟨zF hrR hxR,hxR⟩) (by rw[hpl,d4];show 1≤1000000;decide);have d2:lL l.z j (pl0 i)=j:=d2;rw[hpl,d1,d2,d3,d4] at hS;refine S.cr rfl hS ?_;clear hS;rintro _ _ ⟨a5,c5,ls,M5,rfl,hls,hlo5,hl5,rfl⟩;rw[ja zd,YW hrR] at hls;obtain ⟨l5,rfl,hl5e⟩:=dQ hls;have hl5b:l5.y.bs=qz (fR i 0 8):=jj Prod.snd hl5e;have hl05:=hl04.trans hl5;obtain ⟨b5,o5,rfl,cr5⟩:=qI.cm (k:=0) (g:=mC.cells) (λ_=>rfl) hlo5.1 rfl rfl;have hl5o:=(hlo5.2 l5 (ji.2 rfl));have hl5l:l5.y.bs.length≤1000000:=by have:=(wC hrR hxR).2;rw[hl5b];omega
    refine Q.r ?_;refine S.cq (A:=qp M5) (args:=[l5.y.val]) rfl (xK l5.y.a l5.y.c l5.y.bs M5 _ hl5o.1 hl5o.2 hl5l) ?_;rintro _ _ ⟨n6,M6,rfl,hn6,hn6o,hn6b,hl6,rfl⟩;obtain ⟨hr6,hr6n⟩:=YD hrR hxR;rw[hl5b,hr6n] at hn6;have hkd:n6.kind=2:=jj NA.kind hn6;have hcd:n6.code=8:=jj NA.code hn6;refine vH pj hl6 ?_;refine Q.r ?_;(repeat (intro b1;refine Q.r ?_));refine S.y (Y.add rfl rfl) ?_;rw[wrap_u64 zo zo];refine Q.r ?_;exact ⟨(i+1,l,j,j0,jl,ns,M6),⟨rfl,rfl,rfl,rfl,jj some (by simp[jU]),trivial⟩,by exact eG,⟨hlt,hF.up,hl05.trans hl6⟩,jr nb i hlt⟩
   ·have hpl:=hask2 h8
    have f:=hF.j1 hi20 h8;have hrP:qn (fP (tX j) j.last i)=true:=rPn hxj.1 zo hi2;have hxP:wg (fP (tX j) j.last i):=xP hxj zo hi2;obtain ⟨d1,d2,d3,d4⟩:=jFw (T:=l.z) (j:=j) (pl:=pl1 j i) rfl hk24 false;have d2:lL l.z j (pl1 j i)=gJ1 j i:=d2;have hS:=Jr c pj (vT g) q p l.z j 5 v.a v.c v.bs (fA i) M4 (VG g 1 1 x::L) hvo hvc (hT.mono hl04) (hB.mono hl04) hvl (by rw[hv];exact J6 hrA hxA) (by show ¬(1:Int)=8;decide) (by show ¬(1:Int)=10;decide) hF.w.g.b (by rw[hpl];exact hF.k1 hi20 f) (by rw[hpl,d4];exact xn ⟨zF hrP hxP,hxP⟩) (by rw[hpl,d4];show 1≤1000000;decide);rw[hpl,d1,d2,d3,d4] at hS;refine S.cr rfl hS ?_;clear hS;rintro _ _ ⟨a5,c5,ls,M5,rfl,hls,hlo5,hl5,rfl⟩;rw[ja zd,YW hrP] at hls;obtain ⟨l5,rfl,hl5e⟩:=dQ hls;have hl5b:l5.y.bs=qz (fP (tX j) j.last i):=jj Prod.snd hl5e;have hl05:=hl04.trans hl5;obtain ⟨b5,o5,rfl,cr5⟩:=qI.cm (k:=0) (g:=mC.cells) (λ_=>rfl) hlo5.1 rfl rfl;have hl5o:=(hlo5.2 l5 (ji.2 rfl));have hl5l:l5.y.bs.length≤1000000:=by have:=(wC hrP hxP).2;rw[hl5b];omega
    refine Q.r ?_;refine S.cq (A:=qp M5) (args:=[l5.y.val]) rfl (xK l5.y.a l5.y.c l5.y.bs M5 _ hl5o.1 hl5o.2 hl5l) ?_;rintro _ _ ⟨n6,M6,rfl,hn6,hn6o,hn6b,hl6,rfl⟩;obtain ⟨hr6,hr6n⟩:=YD hrP hxP;rw[hl5b,hr6n] at hn6;have hkd:n6.kind=3:=jj NA.kind hn6;have htx:n6.txn=tX j:=jj NA.txn hn6;have hl06:=hl05.trans hl6;generalize gJ1 j i=j1 at*;refine Q.r ?_;(repeat (intro b1;refine Q.r ?_));rw[htx];have hrV:qn (fV (tX j))=true:=rV hxj.1;have hxV:wg (fV (tX j)):=xV hxj;have hf7:(fV (tX j)).nv.abs.few=fV (tX j):=rfl;refine S.cq (A:=qp M6) (args:=[(fV (tX j)).nv.val]) rfl (Q2 (fV (tX j)).nv M6 _ (xN.nv _) (sL _) (by rw[hf7];exact zF hrV hxV) (by rw[hf7];exact hxV)) ?_;rintro _ _ ⟨w,M7,rfl,hw,hwo,hwc,hl7,rfl⟩;have hl07:=hl06.trans hl7;rw[hf7,show jDi (fV (tX j))=qz (fV (tX j)) from jb hrV] at hw;have hwl:w.bs.length≤10000000:=by have:=(wC hrV hxV).2;rw[hw];omega
    refine vH pj (hl6.trans hl7) ?_;refine qo (L':=yU p q l.z M7 (wM c pj (vT g) q false::qD M7 pj j1::VG g 1 1 x::L)) eG ?_;have hvt:=FI.vote f hsq.1 hF.tx;obtain ⟨cd,l',j0',jl',ns',j',hcd,t1,t2,t3,t4,hF',hdn,hla⟩:=hF.do2 hi20 f;obtain ⟨sx,hsx⟩:∃s,s=(if cd=0 then j.last+1 else 0):=⟨_,rfl⟩;rw[←hsx] at t4;have hsx2:0≤sx∧sx≤1099511627776:=by rcases hcd with h|h<;>subst h<;>simp at hsx<;>omega
    have hcb:0≤cd∧cd≤13:=by omega
    have hrD:qn (fD (tX j) sx cd)=true:=rD hxj.1 hsx2 hcb;have hxD:wg (fD (tX j) sx cd):=xD hxj hsx2 hcb.2;have hrR:qn (fR i sx cd)=true:=rR hi2.1 hsx2 hcb;have hxR:wg (fR i sx cd):=xR hi2 hsx2 hcb.2;have hS:=Jr c pj (vT g) q p l.z j1 1 w.a w.c w.bs (fV (tX j)) M7 (VG g 1 1 x::L) hwo hwc (hT.mono hl07) (hB.mono hl07) hwl (by rw[hw];exact J6 hrV hxV) (by show ¬(4:Int)=8;decide) (by show ¬(4:Int)=10;decide) f.w.g.b (by rw[hvt];exact hF.k2 hi20 f) (by rw[hvt,t4];intro m hm;rcases j9.1 hm with rfl|hm;exact ⟨zF hrD hxD,hxD⟩;rw[ji.1 hm];exact ⟨zF hrR hxR,hxR⟩) (by rw[hvt,t4];show 2≤1000000;decide);rw[hvt,t1,t2,t3,t4] at hS;refine S.cr rfl hS ?_;clear hS;rintro _ _ ⟨a8,c8,ms,M8,rfl,hms,hmo,hl8,rfl⟩;have hl08:=hl07.trans hl8;rw[ja zd,jCr hrD hrR] at hms;obtain ⟨m1,m2,rfl,hm1,hm2⟩:=jEl hms;have hm1b:m1.y.bs=qz (fD (tX j) sx cd):=jj Prod.snd hm1;have hm2b:m2.y.bs=qz (fR i sx cd):=jj Prod.snd hm2;have hm1t:m1.to=1:=jj Prod.fst hm1;have hm2t:m2.to=5:=jj Prod.fst hm2;obtain ⟨b8,o8,rfl,cr8⟩:=qI.cm (k:=0) (g:=mC.cells) (λ_=>rfl) hmo.1 rfl rfl;obtain ⟨b9,o9,e9,cr9⟩:=qI.cm (k:=1) (g:=mC.cells) (λ_=>rfl) hmo.1 rfl rfl;obtain ⟨rfl,rfl⟩:b9=b8∧o9=o8:=by
     have:=Option.some.inj e9;exact ⟨(jj Addr.block this).symm,(jj Addr.off this).symm⟩
    have hm1o:=hmo.2 m1 kg;have hm2o:=hmo.2 m2 (jV _ (ji.2 rfl));have hm1l:m1.y.bs.length≤1000000:=by have:=(wC hrD hxD).2;rw[hm1b];omega
    have hm2l:m2.y.bs.length≤1000000:=by have:=(wC hrR hxR).2;rw[hm2b];omega
    refine Q.r ?_;refine S.cq (A:=qp M8) (args:=[m1.y.val]) rfl (xK m1.y.a m1.y.c m1.y.bs M8 _ hm1o.1 hm1o.2 hm1l) ?_;rintro _ _ ⟨n9,M9,rfl,hn9,hn9o,hn9b,hl9,rfl⟩;obtain ⟨hr9,hr9n⟩:=YD hrD hxD;rw[hm1b,hr9n] at hn9;have cr9b:=cr9.mono hl9;refine Q.r ?_;(repeat (intro b1;refine Q.r ?_));refine S.cq (A:=qp M9) (args:=[m2.y.val]) rfl (xK m2.y.a m2.y.c m2.y.bs M9 _ (hm2o.1.mono hl9) hm2o.2 hm2l) ?_;rintro _ _ ⟨n10,M10,rfl,hn10,hn10o,hn10b,hl10,rfl⟩;obtain ⟨hr10,hr10n⟩:=YD hrR hxR;rw[hm2b,hr10n] at hn10;have hl810:=hl9.trans hl10;have cr8:=cr8.mono hl810;have cr9:=cr9.mono hl810;have hl010:=hl08.trans hl810;have k9:n9.kind=5:=jj NA.kind hn9;have k10:n10.kind=2:=jj NA.kind hn10;have c9:n9.code=cd:=jj NA.code hn9;have c10:n10.code=cd:=jj NA.code hn10;refine vH pj hl810 ?_;have hdq:∀L2:HL,qh kY 11 [Js c,.int .u64 (i:Int)] (wM c pj (vT g) q false::qD M10 pj j'::L2) (λr L'=>∃v:Int,r=.tuple #[.int .u64 v,.bool (decide (cd=0))]∧L'=wM c pj (vT g) q false::qD M10 pj j'::L2):=λL2=>qh.mono (ZA c pj (vT g) q false M10 j' i L2) λv L' ⟨e1,e2⟩=>⟨(qE j'.done (i:Int)).getD 0,by rw[e1,hdn],e2⟩
    rcases hcd with rfl|rfl
    ·rw[jb rfl] at hla
     refine Q.r ?_;(repeat (intro b1;refine Q.r ?_));refine S.cg2 (c:=c) (pj:=pj) rfl (hdq _) ?_;rintro _ _ ⟨v0,rfl,rfl⟩;rw[show decide ((0:Int)=0)=true from rfl];refine Q.r ?_;refine S.y (Y.add rfl rfl) ?_;rw[wrap_u64 zo zo];refine Q.r ?_;exact ⟨(i+1,l',j',j0',jl',ns',M10),⟨rfl,rfl,rfl,by rw[hla];rfl,jj some (by simp[jU]),trivial⟩,by exact eG,⟨hlt,hF',hl010⟩,jr nb i hlt⟩
    ·rw[ja zd] at hla
     refine Q.r ?_;(repeat (intro b1;refine Q.r ?_));refine S.cg2 (c:=c) (pj:=pj) rfl (hdq _) ?_;rintro _ _ ⟨v0,rfl,rfl⟩;rw[show decide ((8:Int)=0)=false from rfl];refine Q.r ?_;refine S.y (Y.add rfl rfl) ?_;rw[wrap_u64 zo zo];refine Q.r ?_;exact ⟨(i+1,l',j',j0',jl',ns',M10),⟨rfl,rfl,rfl,by rw[hla];rfl,jj some (by simp[jU]),trivial⟩,by exact eG,⟨hlt,hF',hl010⟩,jr nb i hlt⟩
  ·have hie:i=nb:=by omega
   subst hie;have hlt':¬(i:Int)<i:=by omega
   refine Q.r ?_;exact ⟨(l,j,j0,jl,ns,M1),zt,by exact eG,hF,hl01⟩
 ·clear hF0 hl01 hl1 hl0
  rintro ⟨l,j,j0,jl,ns,M1⟩ ⟨hF,hl01⟩;dsimp only at hF hl01 ⊢;have hlo:=hF.w.g.b.l0;have hll:=hF.ll;have hn:=hF.n;have hep:=hF.epl;obtain ⟨el1,el2⟩:=fd (m:=jl.epoch+1) zo zo;have h08:=jHQ l (qu jl) (ps:=mW jl) (zM (p:=qz (qv (jl.epoch+1))) zo el2) (List.cons_ne_nil _ _) zo;refine Q.r ?_;refine S.ckm p rfl (JO p 1 1 l.d l j0 ns jl M1 _ zd zd zd zd (hT.mono hl01) (hB.mono hl01) (hE.mono hl01) (jHS 1 1 l) hF.K zo) ?_;rintro _ _ ⟨M2,hl2,⟨hne,rfl,rfl⟩|⟨hz,_,c2,pj2,q2,g2,x2,rfl,rfl⟩⟩
  ·have h8:Qw l.z (qu jl) (mW jl)=8:=by
    rcases h08 with h|h
    ·exact absurd h hne
    ·exact h
   rw[h8];refine Q.r ?_;refine S.cg2 (c:=c) (pj:=pj) rfl (VV c pj (vT g) q false M1 j _) ?_;rintro _ _ ⟨rfl,rfl⟩;refine Q.r ?_;refine S.y (Y.cvi rfl) ?_;rw[wrap_u64 (a:=j.last) zo zo];refine Q.r ?_;exact N.t rfl (kZ _) rfl
  ·have hl2:(ve jl (qv (jl.epoch+1))).last=j.last:=(jED _ _).trans hF.la
   generalize ve jl (qv (jl.epoch+1))=j2 at*;generalize JW l.z (qu jl) (mW jl)=T2 at*;refine Q.r ?_;refine S.cg2 (c:=c) (pj:=pj) rfl (VV c pj (vT g) q false M1 j _) ?_;rintro _ _ ⟨rfl,rfl⟩;refine Q.r ?_;refine S.y (Y.cvi rfl) ?_;rw[wrap_u64 (a:=j.last) zo zo];refine Q.r ?_;refine S.cg2 (c:=c2) (pj:=pj2) rfl (VV c2 pj2 (vT g2) q2 T2.br M2 j2 _) ?_;rintro _ _ ⟨rfl,rfl⟩;rw[hl2];refine Q.r ?_;refine S.y (Y.cvi rfl) ?_;rw[wrap_u64 (a:=j.last) zo zo];refine Q.r ?_;exact N.t rfl (kZ _) (jj Value.bool (jo rfl))
end Go.Proofs.YtlnfjhiphlfkjaaGreatDoor
