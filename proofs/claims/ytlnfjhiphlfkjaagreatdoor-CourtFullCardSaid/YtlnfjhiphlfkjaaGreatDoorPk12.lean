/- Walks of functions, and plain laws, that the last text rests on. No condition. -/
import Derived.Test.YtlnfjhiphlfkjaaGreatDoorPk11
set_option linter.unusedVariables false
set_option linter.unusedSimpArgs false
set_option linter.unusedSectionVars false
set_option maxHeartbeats 16000000
namespace Go.Proofs.YtlnfjhiphlfkjaaGreatDoor
open Go Go.SX
attribute [local irreducible] swp qq qL qJ vZ qh St qi qk vu qH
theorem fL (c pj:Nat)(gv:Value)(q:Nat)(dn:Bool)(L:HL):qh kY 47 [Js c] (wM c pj gv q dn::L) (λr L'=>r=vQ pj∧L'=wM c pj gv q dn::L):=by
 refine qg Tryz.func47 rfl rfl rfl ?_;refine Q.r ?_;exact N.t rfl (kZ _) ⟨rfl,rfl⟩
theorem JP (c pj:Nat)(gv:Value)(q:Nat)(dn:Bool)(M:OM)(j:JG)(L:HL):qh kY 19 [Js c] (wM c pj gv q dn::qD M pj j::L) (λr L'=>r=.int .u64 j.epoch∧L'=wM c pj gv q dn::qD M pj j::L):=by
 refine qg Tryz.func19 rfl rfl rfl ?_;refine Q.r ?_;refine S.c1 (A:=wM c pj gv q dn) rfl (fL c pj gv q dn _) ?_;rintro _ _ ⟨rfl,rfl⟩;refine S.cgn pj rfl (QF M pj j _) ?_;rintro _ _ ⟨rfl,rfl⟩;refine Q.r ?_;exact N.t rfl eG ⟨rfl,rfl⟩
theorem VV (c pj:Nat)(gv:Value)(q:Nat)(dn:Bool)(M:OM)(j:JG)(L:HL):qh kY 12 [Js c] (wM c pj gv q dn::qD M pj j::L) (λr L'=>r=.int .u64 j.last∧L'=wM c pj gv q dn::qD M pj j::L):=by
 refine qg Tryz.func12 rfl rfl rfl ?_;refine Q.r ?_;refine S.c1 (A:=wM c pj gv q dn) rfl (fL c pj gv q dn _) ?_;rintro _ _ ⟨rfl,rfl⟩;refine S.cgn pj rfl (pY M pj j _) ?_;rintro _ _ ⟨rfl,rfl⟩;refine Q.r ?_;exact N.t rfl eG ⟨rfl,rfl⟩
theorem ZA (c pj:Nat)(gv:Value)(q:Nat)(dn:Bool)(M:OM)(j:JG)(t:Int)(L:HL):qh kY 11 [Js c,.int .u64 t] (wM c pj gv q dn::qD M pj j::L) (λr L'=>r=.tuple #[.int .u64 ((qE j.done t).getD 0),.bool (qE j.done t).isSome]∧L'=wM c pj gv q dn::qD M pj j::L):=by
 refine qg Tryz.func11 rfl rfl rfl ?_;refine Q.r ?_;refine S.c1 (A:=wM c pj gv q dn) rfl (fL c pj gv q dn _) ?_;rintro _ _ ⟨rfl,rfl⟩;refine Q.r ?_;refine S.cgn pj rfl (pZ M pj j t _) ?_;rintro _ _ ⟨rfl,rfl⟩;refine Q.r ?_;exact N.u rfl rfl eG ⟨rfl,rfl⟩
theorem WN0 {s d:Int}(h1:1≤d)(h2:d≤8):WN (wy s d):=⟨WG.zero h1 h2,λ_ h=>(by cases h),λ_ h=>(by cases h)⟩
theorem YH (s d:Int):qu (wy s d)=[0,0,0,0]:=by kernel_rfl
def sA (s dim:Int)(d:DK):DK:=if d.fs.length=0 then foS d (qu (wy s dim)) else d
def KM (s dim:Int)(d:DK):Int:=if d.fs.length=0 then foE d (qu (wy s dim)) else 0
def Xo (d:DK):List UInt8:=(rP d).getD []
noncomputable def coJ (s dim:Int)(d:DK):Option JG:=VY (XD (wy s dim) (Xo d)) (VW d)
abbrev VK (d:DK):JZ:=⟨zn d,gK d,(VW d).length,false⟩
structure OpK (s dim:Int)(d:DK):Prop where
 bl:(Xo d).length≤100000
 rl:∀r∈VW d,r.length≤10000000
 rn:(VW d).length≤1000000
 wn:Z7 (wy s dim) (Xo d)=0→WN (XD (wy s dim) (Xo d))
 j:∀j,Wt (wy s dim) (Xo d) (VW d)=0→coJ s dim d=some j→j.epoch+1≤1099511627776∧j.tr.length≤1000∧j.done.length≤50000∧(qu j).length≤1048575∧jE0 (VK d) (qu j) [qz (qv (j.epoch+1))]
structure OpH (s dim:Int)(d:DK):Prop where
 g:∀n∈qM d,lw n
 r:yR d=0→OpK s dim d
def jIP (s dim:Int)(d0 d:DK)(e:Int)(d':DK):Prop:=
 (KM s dim d0≠0∧e=KM s dim d0∧d'=d)∨(KM s dim d0=0∧yR d≠0∧e=yR d∧d'=zn d)∨(KM s dim d0=0∧yR d=0∧Wt (wy s dim) (Xo d) (VW d)≠0∧e=4∧d'=zn d)∨
 (KM s dim d0=0∧yR d=0∧Wt (wy s dim) (Xo d) (VW d)=0∧∃j,coJ s dim d=some j∧Qw (VK d) (qu j) [qz (qv (j.epoch+1))]≠0∧e=Qw (VK d) (qu j) [qz (qv (j.epoch+1))]∧d'=(JW (VK d) (qu j) [qz (qv (j.epoch+1))]).d)
def ZS (p:Nat)(s dim:Int)(d0 d:DK)(M:OM)(L:HL)(r:Value)(L':HL):Prop:=
 ∃ M',qV M M' ∧ ((∃ e d',e ≠ 0 ∧ jIP s dim d0 d e d' ∧ r = .tuple #[Kj,.int .i64 e] ∧ L' = qt p d' :: qp M' :: L) ∨
  (∃ j c pj q g x,KM s dim d0 = 0 ∧ yR d = 0 ∧ Wt (wy s dim) (Xo d) (VW d) = 0 ∧ coJ s dim d = some j ∧ WN j ∧ j.shards = s ∧ j.dim = dim ∧ Qw (VK d) (qu j) [qz (qv (j.epoch + 1))] = 0 ∧ r = .tuple #[Js c,.int .i64 0] ∧
   L'=yU p q (JW (VK d) (qu j) [qz (qv (j.epoch+1))]) M' (wM c pj (vT g) q (JW (VK d) (qu j) [qz (qv (j.epoch+1))]).br::qD M' pj (ve j (qv (j.epoch+1)))::VG g s dim x::L)))
theorem jBv (s dim:Int)(b:List UInt8):(XD (wy s dim) b).shards=s∧(XD (wy s dim) b).dim=dim:=by
 unfold XD
 split
 ·exact ⟨rfl,rfl⟩
 ·exact ⟨rfl,rfl⟩
theorem yD {m:Int}(h0:0≤m)(h1:m≤1099511627776):qn (qv m)=true∧wg (qv m):=by
 have z:(0:Int)≤18446744073709551615:=by decide
 have z9:(0:Int)≤9223372036854775807:=by decide
 refine ⟨?_,⟨⟨⟨by show (0:Int)≤16;decide,by show (16:Int)≤255;decide⟩,⟨ki _,z⟩,⟨ki _,z⟩,⟨ki _,z⟩,⟨ki _,z⟩,⟨h0,by show m≤_;omega⟩,⟨ki _,z⟩,⟨ki _,z⟩,z9,z9,z9,z9⟩,(λ_ h=>by cases h),(λ_ h=>by cases h)⟩⟩;unfold qn vV NA.bits qv NA.zero ws;have hm:¬(1099511627776<max (max 0 0) m):=by omega
 dsimp only;simp only[hm]
 by_cases h0:0<m<;>simp[h0,List.zipIdx,fldN,vX]<;>decide
theorem rh (p:Nat)(s dim:Int)(d:DK)(M:OM)(L:HL)(s1:1≤s)(s2:s≤4)(h1:1≤dim)(h2:dim≤8)(hT:zB M)(hB:xL M)(hE:VT M)(hH:KM s dim d=0→OpH s dim (sA s dim d)):
  qh kY 7 [qK p,.int .i64 s,.int .i64 dim] (qt p d::qp M::L) (ZS p s dim d (sA s dim d) M L):=by
 have hw0:WN (wy s dim):=WN0 h1 h2;have hp0:=YH s dim;have hpl:(qu (wy s dim)).length≤1048575:=by rw[hp0];decide
 refine qg Tryz.func7 rfl rfl rfl ?_;refine Q.r ?_;refine S.cr rfl (W3 M s dim _ s1 s2 h1 h2) ?_;rintro _ _ ⟨pj,rfl,rfl⟩;refine Q.r ?_;refine S.ckm p rfl (Jo p d M _) ?_;rintro _ _ ⟨a1,c1,M1,rfl,hs1,hc1,hl1,rfl⟩;refine vH pj hl1 ?_
 by_cases h0:d.fs.length=0
 ·have e1:KM s dim d=foE d (qu (wy s dim)):=jb h0
  have e2:sA s dim d=foS d (qu (wy s dim)):=jb h0;rw[h0];refine Q.r ?_;refine S.cg pj rfl (zD M1 pj (wy s dim) _ hw0.pb (jw _) (jw _)) ?_;rintro _ _ ⟨a2,c2,M2,rfl,hl2,rfl⟩;refine zm a2 (λhc2=> ?_);refine qR a2 (λM3 hl3 hs3=> ?_);refine vH pj hl3 ?_;refine S.ckm p rfl (mK p d a2 c2 (qu (wy s dim)) M3 _ hs3 (hB.mono (hl1.trans (hl2.trans hl3))) hc2 hpl) ?_;rintro _ _ ⟨rfl,M4,hl4,rfl⟩;refine vH pj hl4 ?_;have hl04:=hl1.trans (hl2.trans (hl3.trans hl4));rw[←e1,←e2]
  by_cases hce:KM s dim d=0
  case neg=>
   have hce':decide (¬KM s dim d=0)=true:=jo hce;have fin:∀L',L'=qt p (sA s dim d)::qp M4::L→ZS p s dim d (sA s dim d) M L (.tuple #[Kj,.int .i64 (KM s dim d)]) L':=λL' e=>⟨M4,hl04,.inl ⟨_,_,hce,.inl ⟨hce,rfl,rfl⟩,rfl,e⟩⟩
   generalize KM s dim d=E at*;refine Q.r ?_;exact N.u rfl rfl (L':=qt p (sA s dim d)::qp M4::L) eG (fin _ rfl)
  have hO:=hH hce;clear hH;generalize sA s dim d=d1 at*;rw[hce];refine Q.r ?_;refine S.ckm p rfl (cM p d1 M4 _ (hE.mono hl04) (hB.mono hl04) hO.g) ?_;rintro _ _ ⟨M5,hl5,hop⟩;have hl05:=hl04.trans hl5
  rcases hop with ⟨he,rfl,rfl⟩|⟨he,q,sv,a,c,vs,rfl,hsv,hsvo,hsvc,hvs,hvo,hsl,hvc,rfl⟩
  ·have fin:∀L',L'=qt p (zn d1)::qp M5::L→ZS p s dim d d1 M L (.tuple #[Kj,.int .i64 (yR d1)]) L':=λL' e=>⟨M5,hl05,.inl ⟨_,_,he,.inr (.inl ⟨hce,he,rfl,rfl⟩),rfl,e⟩⟩
   have he':decide (¬yR d1=0)=true:=jo he;generalize yR d1=E at*;refine Q.r ?_;(repeat (intro b1;refine Q.r ?_));exact N.u rfl rfl (L':=qt p (zn d1)::qp M5::L) eG (fin _ rfl)
  refine vH pj hl5 ?_;have hcb:Xo d1=sv.bs:=by unfold Xo;rw[←hsv];rfl
  have hbl:=(hO.r he).bl;have hrl:=(hO.r he).rl;have hrn:=(hO.r he).rn;have hwn:=(hO.r he).wn;rw[hcb] at hbl hwn;rw[←hvs] at hrl hrn;rw[jf] at hrn;refine Q.r ?_;(repeat (intro b1;refine Q.r ?_));refine S.cg pj (args:=[vQ pj,.agg #[sv.val,.slice a vs.length c]]) rfl (Zz pj (wy s dim) sv a c vs M5 _ hsvo hsl hvo (hT.mono hl05) (hB.mono hl05) h1 h2 hbl (jw _) (jw _) hwn (λv hv=>hrl v.bs (jA hv)) hrn) ?_;rintro _ _ ⟨rfl,M6,j1,hl6,hld,rfl⟩;have hl06:=hl05.trans hl6;rw[hvs,←hcb] at hld ⊢
  by_cases hlo:Wt (wy s dim) (Xo d1) (VW d1)=0
  case neg=>
   have h4:Wt (wy s dim) (Xo d1) (VW d1)=4:=by
    unfold Wt at hlo ⊢
    by_cases h:Z7 (wy s dim) (Xo d1)≠0
    ·rw[jb h]
    ·rw[ja h] at hlo ⊢
     by_cases h3:VY (XD (wy s dim) (Xo d1)) (VW d1)=none
     ·rw[jb h3]
     ·rw[ja h3] at hlo;exact absurd rfl hlo
   have fin:∀L',L'=qt p (zn d1)::qp M6::L→ZS p s dim d d1 M L (.tuple #[Kj,.int .i64 4]) L':=λL' e=>⟨M6,hl06,.inl ⟨_,_,by decide,.inr (.inr (.inl ⟨hce,he,hlo,rfl,rfl⟩)),rfl,e⟩⟩
   rw[h4];refine Q.r ?_;exact N.u rfl rfl (L':=qt p (zn d1)::qp M6::L) eG (fin _ rfl)
  obtain ⟨hld,hw1,hsd1,hsd2⟩:=hld hlo;obtain ⟨u1,u2⟩:=jBv s dim (Xo d1);rw[u1] at hsd1;rw[u2] at hsd2;obtain ⟨hj1,hj2,hj3,hj4,hj5⟩:=(hO.r he).j j1 hlo hld;have he0:=hw1.g.b.e0;obtain ⟨hrt,hnx⟩:=yD (m:=j1.epoch+1) zo hj1;rw[hlo];refine Q.r ?_;(repeat (intro b1;refine Q.r ?_));revert b1;intro bc;refine S.cgn pj rfl (QF M6 pj j1 _) ?_;rintro _ _ ⟨rfl,rfl⟩;refine Q.r ?_;refine S.y (Y.add rfl rfl) ?_;rw[wrap_u64 zo zo];refine Q.r ?_;(repeat (intro b1;refine Q.r ?_));revert b1;intro bn;refine qo (vg (sz:=16) (m:=1) rfl) ?_;refine qR (some ⟨bn,0,none⟩) (λM7 hl7 hs7=> ?_);have hl07:=hl06.trans hl7;have hvl:vs.length=(VW d1).length:=by rw[←hvs,jf]
  refine vH pj hl7 ?_;refine Q.r ?_;refine qo (L':=yU p q (VK d1) M7 (wM bc pj Kj q false::qD M7 pj j1::L)) (by rw[show zl q p (gK d1) vs.length false=zl q p (gK d1) (VW d1).length false from by rw[hvl]];exact eG) ?_;have hns:zp M7 (some ⟨bn,0,none⟩) [(qv (j1.epoch+1)).nv]:=⟨hs7,λn hn=>by rw[ji.1 hn];exact xN.nv _⟩;refine S.cr rfl (QH bc pj Kj q p false (VK d1) j1 (some ⟨bn,0,none⟩) 1 [(qv (j1.epoch+1)).nv] M7 _ hns (λn hn=>by rw[ji.1 hn];exact ⟨hrt,hnx⟩) (hT.mono hl07) (hB.mono hl07) hj5 hw1.pb zo zo hj4 (by show 1≤1000;decide)) ?_;rintro _ _ ⟨rfl,M8,hl8,rfl⟩;have hl08:=hl07.trans hl8;rw[jR,show vO ([(qv (j1.epoch+1)).nv].map NV.abs)=[qz (qv (j1.epoch+1))] from rfl]
  by_cases hcw:Qw (VK d1) (qu j1) [qz (qv (j1.epoch+1))]=0
  case neg=>
   have fin:∀L',L'=qt p (JW (VK d1) (qu j1) [qz (qv (j1.epoch+1))]).d::qp M8::L→ZS p s dim d d1 M L (.tuple #[Kj,.int .i64 (Qw (VK d1) (qu j1) [qz (qv (j1.epoch+1))])]) L':=λL' e=>⟨M8,hl08,.inl ⟨_,_,hcw,.inr (.inr (.inr ⟨hce,he,hlo,j1,hld,hcw,rfl,rfl⟩)),rfl,e⟩⟩
   have hcw':decide (¬Qw (VK d1) (qu j1) [qz (qv (j1.epoch+1))]=0)=true:=jo hcw;generalize Qw (VK d1) (qu j1) [qz (qv (j1.epoch+1))]=E at*;generalize JW (VK d1) (qu j1) [qz (qv (j1.epoch+1))]=T1 at*;refine Q.r ?_;exact N.u rfl rfl (L':=qt p T1.d::qp M8::L) eG (fin _ rfl)
  have fin:∀M' c g x L',qV M M'→L'=yU p q (JW (VK d1) (qu j1) [qz (qv (j1.epoch+1))]) M' (wM c pj (vT g) q (JW (VK d1) (qu j1) [qz (qv (j1.epoch+1))]).br::qD M' pj (ve j1 (qv (j1.epoch+1)))::VG g s dim x::L)→ZS p s dim d d1 M L (.tuple #[Js c,.int .i64 0]) L':=λM' c g x L' hl e=>⟨M',hl,.inr ⟨j1,c,pj,q,g,x,hce,he,hlo,hld,hw1,hsd1,hsd2,hcw,rfl,e⟩⟩
  rw[hcw];generalize JW (VK d1) (qu j1) [qz (qv (j1.epoch+1))]=T1 at*;refine Q.r ?_;refine qo (L':=wM bc pj Kj q T1.br::qD M8 pj j1::qp M8::zl q p T1.n T1.k T1.br::qt p T1.d::L) eG ?_;refine S.cr rfl (yG bc pj Kj q T1.br j1 (some ⟨bn,0,none⟩) 1 [(qv (j1.epoch+1)).nv] M8 _ (hns.mono hl8) (λn hn=>by rw[ji.1 hn];exact ⟨hnx.a,OkN.nv _⟩) hw1 (hT.mono hl08) (by show 1≤1000000;decide)) ?_;rintro _ _ ⟨M9,hl9,rfl⟩;have hl09:=hl08.trans hl9;rw[show appL j1 ([(qv (j1.epoch+1)).nv].map NV.abs)=ve j1 (qv (j1.epoch+1)) from rfl];generalize ve j1 (qv (j1.epoch+1))=j2 at*;refine Q.r ?_;refine S.cr rfl (JP bc pj Kj q T1.br M9 j2 _) ?_;rintro _ _ ⟨rfl,rfl⟩;refine S.y (Y.shlI (b:=24) rfl rfl zd) ?_;generalize IntKind.u64.wrap (j2.epoch*2^24)=x;refine Q.r ?_;refine S.cr rfl (Zt s dim x _ s1 s2 h1 h2) ?_;rintro _ _ ⟨g,rfl,rfl⟩;refine Q.r ?_;exact N.u rfl rfl (L':=yU p q T1 M9 (wM bc pj (vT g) q T1.br::qD M9 pj j2::VG g s dim x::L)) eG (fin M9 bc g x _ hl09 rfl)
 ·have e1:KM s dim d=0:=ja h0
  have e2:sA s dim d=d:=ja h0;have hO:=hH e1;clear hH;have hce:=e1;have hn0:(d.fs.length:Int)≠0:=by omega
  have hl01:=hl1;rw[e2] at hO ⊢;refine Q.r ?_;refine S.ckm p rfl (cM p d M1 _ (hE.mono hl01) (hB.mono hl01) hO.g) ?_;rintro _ _ ⟨M5,hl5,hop⟩;have hl05:=hl01.trans hl5
  rcases hop with ⟨he,rfl,rfl⟩|⟨he,q,sv,a,c,vs,rfl,hsv,hsvo,hsvc,hvs,hvo,hsl,hvc,rfl⟩
  ·have fin:∀L',L'=qt p (zn d)::qp M5::L→ZS p s dim d d M L (.tuple #[Kj,.int .i64 (yR d)]) L':=λL' e=>⟨M5,hl05,.inl ⟨_,_,he,.inr (.inl ⟨hce,he,rfl,rfl⟩),rfl,e⟩⟩
   have he':decide (¬yR d=0)=true:=jo he;generalize yR d=E at*;refine Q.r ?_;(repeat (intro b1;refine Q.r ?_));exact N.u rfl rfl (L':=qt p (zn d)::qp M5::L) eG (fin _ rfl)
  refine vH pj hl5 ?_;have hcb:Xo d=sv.bs:=by unfold Xo;rw[←hsv];rfl
  have hbl:=(hO.r he).bl;have hrl:=(hO.r he).rl;have hrn:=(hO.r he).rn;have hwn:=(hO.r he).wn;rw[hcb] at hbl hwn;rw[←hvs] at hrl hrn;rw[jf] at hrn;refine Q.r ?_;(repeat (intro b1;refine Q.r ?_));refine S.cg pj (args:=[vQ pj,.agg #[sv.val,.slice a vs.length c]]) rfl (Zz pj (wy s dim) sv a c vs M5 _ hsvo hsl hvo (hT.mono hl05) (hB.mono hl05) h1 h2 hbl (jw _) (jw _) hwn (λv hv=>hrl v.bs (jA hv)) hrn) ?_;rintro _ _ ⟨rfl,M6,j1,hl6,hld,rfl⟩;have hl06:=hl05.trans hl6;rw[hvs,←hcb] at hld ⊢
  by_cases hlo:Wt (wy s dim) (Xo d) (VW d)=0
  case neg=>
   have h4:Wt (wy s dim) (Xo d) (VW d)=4:=by
    unfold Wt at hlo ⊢
    by_cases h:Z7 (wy s dim) (Xo d)≠0
    ·rw[jb h]
    ·rw[ja h] at hlo ⊢
     by_cases h3:VY (XD (wy s dim) (Xo d)) (VW d)=none
     ·rw[jb h3]
     ·rw[ja h3] at hlo;exact absurd rfl hlo
   have fin:∀L',L'=qt p (zn d)::qp M6::L→ZS p s dim d d M L (.tuple #[Kj,.int .i64 4]) L':=λL' e=>⟨M6,hl06,.inl ⟨_,_,by decide,.inr (.inr (.inl ⟨hce,he,hlo,rfl,rfl⟩)),rfl,e⟩⟩
   rw[h4];refine Q.r ?_;exact N.u rfl rfl (L':=qt p (zn d)::qp M6::L) eG (fin _ rfl)
  obtain ⟨hld,hw1,hsd1,hsd2⟩:=hld hlo;obtain ⟨u1,u2⟩:=jBv s dim (Xo d);rw[u1] at hsd1;rw[u2] at hsd2;obtain ⟨hj1,hj2,hj3,hj4,hj5⟩:=(hO.r he).j j1 hlo hld;have he0:=hw1.g.b.e0;obtain ⟨hrt,hnx⟩:=yD (m:=j1.epoch+1) zo hj1;rw[hlo];refine Q.r ?_;(repeat (intro b1;refine Q.r ?_));revert b1;intro bc;refine S.cgn pj rfl (QF M6 pj j1 _) ?_;rintro _ _ ⟨rfl,rfl⟩;refine Q.r ?_;refine S.y (Y.add rfl rfl) ?_;rw[wrap_u64 zo zo];refine Q.r ?_;(repeat (intro b1;refine Q.r ?_));revert b1;intro bn;refine qo (vg (sz:=16) (m:=1) rfl) ?_;refine qR (some ⟨bn,0,none⟩) (λM7 hl7 hs7=> ?_);have hl07:=hl06.trans hl7;have hvl:vs.length=(VW d).length:=by rw[←hvs,jf]
  refine vH pj hl7 ?_;refine Q.r ?_;refine qo (L':=yU p q (VK d) M7 (wM bc pj Kj q false::qD M7 pj j1::L)) (by rw[show zl q p (gK d) vs.length false=zl q p (gK d) (VW d).length false from by rw[hvl]];exact eG) ?_;have hns:zp M7 (some ⟨bn,0,none⟩) [(qv (j1.epoch+1)).nv]:=⟨hs7,λn hn=>by rw[ji.1 hn];exact xN.nv _⟩;refine S.cr rfl (QH bc pj Kj q p false (VK d) j1 (some ⟨bn,0,none⟩) 1 [(qv (j1.epoch+1)).nv] M7 _ hns (λn hn=>by rw[ji.1 hn];exact ⟨hrt,hnx⟩) (hT.mono hl07) (hB.mono hl07) hj5 hw1.pb zo zo hj4 (by show 1≤1000;decide)) ?_;rintro _ _ ⟨rfl,M8,hl8,rfl⟩;have hl08:=hl07.trans hl8;rw[jR,show vO ([(qv (j1.epoch+1)).nv].map NV.abs)=[qz (qv (j1.epoch+1))] from rfl]
  by_cases hcw:Qw (VK d) (qu j1) [qz (qv (j1.epoch+1))]=0
  case neg=>
   have fin:∀L',L'=qt p (JW (VK d) (qu j1) [qz (qv (j1.epoch+1))]).d::qp M8::L→ZS p s dim d d M L (.tuple #[Kj,.int .i64 (Qw (VK d) (qu j1) [qz (qv (j1.epoch+1))])]) L':=λL' e=>⟨M8,hl08,.inl ⟨_,_,hcw,.inr (.inr (.inr ⟨hce,he,hlo,j1,hld,hcw,rfl,rfl⟩)),rfl,e⟩⟩
   have hcw':decide (¬Qw (VK d) (qu j1) [qz (qv (j1.epoch+1))]=0)=true:=jo hcw;generalize Qw (VK d) (qu j1) [qz (qv (j1.epoch+1))]=E at*;generalize JW (VK d) (qu j1) [qz (qv (j1.epoch+1))]=T1 at*;refine Q.r ?_;exact N.u rfl rfl (L':=qt p T1.d::qp M8::L) eG (fin _ rfl)
  have fin:∀M' c g x L',qV M M'→L'=yU p q (JW (VK d) (qu j1) [qz (qv (j1.epoch+1))]) M' (wM c pj (vT g) q (JW (VK d) (qu j1) [qz (qv (j1.epoch+1))]).br::qD M' pj (ve j1 (qv (j1.epoch+1)))::VG g s dim x::L)→ZS p s dim d d M L (.tuple #[Js c,.int .i64 0]) L':=λM' c g x L' hl e=>⟨M',hl,.inr ⟨j1,c,pj,q,g,x,hce,he,hlo,hld,hw1,hsd1,hsd2,hcw,rfl,e⟩⟩
  rw[hcw];generalize JW (VK d) (qu j1) [qz (qv (j1.epoch+1))]=T1 at*;refine Q.r ?_;refine qo (L':=wM bc pj Kj q T1.br::qD M8 pj j1::qp M8::zl q p T1.n T1.k T1.br::qt p T1.d::L) eG ?_;refine S.cr rfl (yG bc pj Kj q T1.br j1 (some ⟨bn,0,none⟩) 1 [(qv (j1.epoch+1)).nv] M8 _ (hns.mono hl8) (λn hn=>by rw[ji.1 hn];exact ⟨hnx.a,OkN.nv _⟩) hw1 (hT.mono hl08) (by show 1≤1000000;decide)) ?_;rintro _ _ ⟨M9,hl9,rfl⟩;have hl09:=hl08.trans hl9;rw[show appL j1 ([(qv (j1.epoch+1)).nv].map NV.abs)=ve j1 (qv (j1.epoch+1)) from rfl];generalize ve j1 (qv (j1.epoch+1))=j2 at*;refine Q.r ?_;refine S.cr rfl (JP bc pj Kj q T1.br M9 j2 _) ?_;rintro _ _ ⟨rfl,rfl⟩;refine S.y (Y.shlI (b:=24) rfl rfl zd) ?_;generalize IntKind.u64.wrap (j2.epoch*2^24)=x;refine Q.r ?_;refine S.cr rfl (Zt s dim x _ s1 s2 h1 h2) ?_;rintro _ _ ⟨g,rfl,rfl⟩;refine Q.r ?_;exact N.u rfl rfl (L':=yU p q T1 M9 (wM bc pj (vT g) q T1.br::qD M9 pj j2::VG g s dim x::L)) eG (fin M9 bc g x _ hl09 rfl)
def jIH (c pj:Nat)(gv:Value)(q p:Nat)(T:JZ)(j:JG)(dn:Bool)(ms:List (Int×NA))(M:OM)(L:HL)(r:Value)(L':HL):Prop:=
 ∃(a:OA) (cc:Nat) (ls:List mC) (M':OM),r=.slice a ls.length cc∧ls.map jCw=(if dn=true then [] else KY ms)∧jF7 M' a ls∧qV M M'∧L'=yU p q T M' (wM c pj gv q dn::qD M' pj j::L)
theorem Jr (c pj:Nat)(gv:Value)(q p:Nat)(T:JZ)(j:JG)(fr:Int)(a:OA)(cc:Nat)(bs:List UInt8)(n:NA)(M:OM)(L:HL)(h:qI M a bs.length 1 (bs.map B))(hc:bs.length≤cc)(hT:zB M)(hB:xL M)(hb:bs.length≤10000000)
  (hn:ZF bs=some n) (hk8:n.kind≠8) (hk10:n.kind≠10) (hJ:JB j) (hD:DoK T j (w8 j fr n)) (hM:∀m∈doM T j (w8 j fr n),OkA m.2∧wg m.2) (hMl:(doM T j (w8 j fr n)).length≤1000000):
  qh kY 8 [Js c,.int .i64 fr,.slice a bs.length cc] (yU p q T M (wM c pj gv q false::qD M pj j::L))
   (jIH c pj gv q p (ZO T j (w8 j fr n)) (lL T j (w8 j fr n)) (cb T j false (w8 j fr n)) (doM T j (w8 j fr n)) M L):=by
 refine qg Tryz.func8 rfl rfl rfl ?_;refine Q.r ?_;refine S.cq (A:=qp M) rfl (Wq a cc bs M _ h hc hT hB hb) ?_;rintro _ _ ⟨nv,M1,rfl,hna,hno,hON,hl1,rfl⟩;rw[hn] at hna;have hna:nv.abs=n:=hna;subst hna;have hk8':nv.kind≠8:=hk8;have hk10':nv.kind≠10:=hk10;obtain ⟨hR,hX⟩:=jFa hn;rw[jBx hn];refine vH pj hl1 ?_;refine Q.r ?_;(repeat (intro b1;refine Q.r ?_));revert b1;intro bn;refine S.c1 (A:=wM c pj gv q false) rfl (fy c pj gv q false _) ?_;rintro _ _ ⟨rfl,rfl⟩;refine Q.r ?_;refine vh (L':=pt bn (cl nv.cells 82)::yU p q T M1 (wM c pj gv q false::qD M1 pj j::L)) eG ?_;refine Q.dgo [true,false,false,false,false,false] [5,8,9,10] [] [0,1,2,3,4,6,7,5,8,9,10,11] ?_;refine Q.rd ?_;refine D.e rfl rfl rfl ?_;refine Q.r ?_;refine Q.rd ?_;refine D.e rfl rfl rfl ?_;refine S.cg pj (args:=[vQ pj,.int .i64 fr,nv.val]) rfl (pX nv M1 pj j fr _ hJ hno hON (hT.mono hl1) hX.a.kind) ?_;rintro _ _ ⟨a1,c1,rs,a2,c2,ns,a3,c3,ms,a4,c4,is,a5,c5,es,M2,rfl,hl2,⟨o1,o2,o3,o4,o5⟩,⟨e1,e2,e3,e4,e5⟩,rfl⟩;have hl02:=hl1.trans hl2;refine Q.r ?_;refine Q.rd ?_;refine D.e rfl rfl rfl ?_;refine qo (L':=yU p q T M2 (wM c pj gv q false::qD M2 pj j::L)) eG ?_;refine S.cr rfl (jDF c pj gv q p false T j (w8 j fr nv.abs) M2 _ a1 c1 rs a2 c2 ns a3 c3 ms a4 c4 is a5 c5 es o1 o2 o3 o4 o5 e1 e2 e3 e4 e5 (hT.mono hl02) (hB.mono hl02) hD) ?_;rintro _ _ ⟨a6,c6,ns6,M3,rfl,h6,o6,hl3,rfl⟩;have hl03:=hl02.trans hl3;generalize ZO T j (w8 j fr nv.abs)=T1 at*;generalize lL T j (w8 j fr nv.abs)=j1 at*;generalize cb T j false (w8 j fr nv.abs)=d1 at*;refine Q.r ?_;refine Q.rd ?_;refine D.e rfl rfl rfl ?_;refine qo (L':=wM c pj gv q d1::qp M3::zl q p T1.n T1.k T1.br::qt p T1.d::qD M3 pj j1::L) eG ?_;have hu6:∀m∈ns6,OkN m.2∧wg m.2.abs:=λm hm=>by
  have:=hM (KR m) (by rw[←h6];exact jA hm);exact ⟨OkN.of this.1,this.2⟩
 refine S.cr rfl (Vp c pj gv q d1 a6 c6 ns6 M3 _ o6 hu6 (hT.mono hl03) (hB.mono hl03) (by rw[WI h6];exact hMl)) ?_;rintro _ _ ⟨a7,c7,ls,M4,rfl,hls,hlo,hl4,rfl⟩;refine vH pj hl4 ?_;rw[h6] at hls;refine Q.r ?_;refine Q.rd ?_;refine Q.r ?_;exact N.t rfl (L':=yU p q T1 M4 (wM c pj gv q d1::qD M4 pj j1::L)) eG ⟨a7,c7,ls,M4,rfl,hls,hlo,hl03.trans hl4,rfl⟩
def hv :List UInt8→Nat
 | []=>0
 |b::l=>b.toNat % 128+128*hv l
theorem r9 :∀(l:List UInt8) (b:UInt8),hv (l++[b])=hv l+b.toNat % 128*2^(7*l.length)
 | [],b=>by simp[hv]
 |x::l,b=>by
  have hp2:2^(7*(l.length+1))=128*2^(7*l.length):=by rw[Nat.mul_add,Nat.pow_add,Nat.mul_comm]
  show x.toNat % 128+128*hv (l++[b])=x.toNat % 128+128*hv l+b.toNat % 128*2^(7*(l.length+1))
  rw[r9 l b,hp2,Nat.mul_add,Nat.mul_left_comm 128];omega
theorem sa :∀(m:Nat) (l:List UInt8),hv (l.drop m)≤hv l
 |0,l=>by simp
 |m+1,[]=>by simp
 |m+1,b::l=>by
  rw[List.drop_succ_cons];have:=sa m l
  show _≤b.toNat % 128+128*hv l
  omega
set_option maxRecDepth 100000 in
theorem VR (a:OA)(c:Nat)(bs:List UInt8)(most:Nat)(L:HL)(h:qY L a bs.length 1 (bs.map B))(hb:bs.length≤1000000000000):
  qh kY 112 [.slice a bs.length c,.int .u64 most] L (λv L'=>v=.tuple #[.int .u64 (qB bs most).1,Vg a c bs (qB bs most),.int .i64 (qB bs most).2.2]∧L'=L):=by
 have hat:=qY.atA h;have hrs:qY L a bs.length 1 (bs.flatMap cB):=by rw[jCQ];exact h
 unfold qB;refine qg Tryz.func112 rfl rfl rfl ?_;refine Q.r ?_;refine ql (σ:=Nat) (λi=> [(0,.slice a bs.length c),(1,.int .u64 most),(7,.int .i64 (i+1:Nat))]) (λ_=>L)
  (λi=>i≤bs.length∧i≤9∧hv (bs.take i)<2^(7*i)∧vW (bs.drop i) i (hv (bs.take i))=vW bs 0 0) (λi=>bs.length - i) 0 zt (kZ _) ⟨jw _,jw _,by simp[hv],rfl⟩ ?_
 rintro i ⟨hi,h9,hn,hp⟩
 by_cases hlt:i<bs.length
 ·obtain ⟨x,hx⟩:=qx hlt
  have hd:bs.drop i=x::bs.drop (i+1):=by
   rw[List.drop_eq_getElem_cons hlt]
   congr 1
   exact (jm.1 hx).2
  have htk:hv (bs.take (i+1))=hv (bs.take i)+x.toNat % 128*2^(7*i):=by
   rw[qA hx,r9,jP,Nat.min_eq_left hi]
  rw[hd,yv,←htk] at hp;have hx8:x.toNat<256:=x.toNat_lt;obtain ⟨b,o,hia,hr⟩:=qY.elem (g:=cB) (λ_=>rfl) hrs hx rfl;have hgo:∀{R:Prop},(i=9→1<x.toNat→R)→(i=9→x.toNat≤1→x.toNat<128→R)→(i≠9→128≤x.toNat→R)→(i≠9→x.toNat<128→R)→R:=λh1 h2 h3 h4=>by
   by_cases e:i=9
   ·by_cases e2:1<x.toNat
    ·exact h1 e e2
    ·exact h2 e zo zo
   ·by_cases e2:128≤x.toNat
    ·exact h3 e e2
    ·exact h4 e zo
  have hm9:(i=9→x.toNat % 128≤1)→hv (bs.take (i+1))<18446744073709551616:=λe=>by
   rw[htk];exact (pE (b:=x.toNat % 128) hn h9 zo e).1
  have hm2:hv (bs.take (i+1))<2^(7*(i+1)):=by
   rw[htk];exact fw (b:=x.toNat % 128) hn zo
  have hle:∀(m:Nat),hv ((bs.take (i+1)).drop m)≤hv (bs.take (i+1)):=λm=>sa m _
  have hcn:∀(m:Nat),m≤i→∃y,bs[m]? =some y∧(bs.take (i+1)).drop m=y::(bs.take (i+1)).drop (m+1):=λm hm=>by
   have h1:m<(bs.take (i+1)).length:=by rw[jP];omega
   refine ⟨(bs.take (i+1))[m],?_,List.drop_eq_getElem_cons h1⟩;have h2:=jY h1;rw[List.getElem?_take,jb zo] at h2;exact h2
  have hi9:((i+1:Nat):Int) - 1=(i:Int):=by omega
  rw[hia]
  by_cases c9:i=9∧1<x.toNat
  ·obtain ⟨c91,c92⟩:=c9
   rw[jb ⟨c91,c92⟩] at hp;rw[←hp];subst c91;refine Q.r ?_;exact N.r3 (RV.tmp rfl (RV.tmp rfl (RV.tmp rfl RV.nil))) (kZ _) ⟨rfl,rfl⟩
  rw[ja c9] at hp
  by_cases c8:128≤x.toNat
  ·have c91:¬i=9:=by omega
   rw[ja zo] at hp;refine Q.r ?_;rw[hi9];refine Q.r ?_;exact ⟨i+1,zt,kZ _,⟨by omega,by omega,hm2,hp⟩,by omega⟩
  have c7:x.toNat<128:=by omega
  rw[jb c7] at hp;have hm:=hm9 λ_=>by omega
  have hgo:∀{R:Prop},(i=9→R)→(i≠9→R)→R:=λh1 h2=>by
   by_cases e:i=9
   ·exact h1 e
   ·exact h2 e
  have hgk:∀{R:Prop},(0<i→R)→(i=0→R)→R:=λh1 h2=>by
   by_cases e:i=0
   ·exact h2 e
   ·exact h1 zo
  have h9r:i=9→vi L b (o+9*1) [B x]:=λe=>by have:=hr;rw[e] at this;exact this
  refine hgo (λc91=> ?_) (λc91=> ?_)
  ·have hr9:=h9r c91
   have c6:x.toNat≤1:=by omega
   have h9l:9<bs.length:=by omega
   refine Q.r ?_;rw[hi9];refine Q.r ?_;rw[hi9];refine qw (σ:=Unit) (λ_=> [(0,.slice (some ⟨b,o,none⟩) bs.length c),(1,.int .u64 most),(7,.int .i64 (i+1:Nat)),(8,.int .u64 (hv (bs.take (i+1))))]) (λ_=>L) (λ_=>True) ?_ ?_
   ·refine ql (σ:=Nat) (λm=> [(0,.slice (some ⟨b,o,none⟩) bs.length c),(1,.int .u64 most),(7,.int .i64 (i+1:Nat)),(8,.int .u64 (hv ((bs.take (i+1)).drop m))),(9,.int .i64 ((m:Int) - 1))]) (λ_=>L)
     (λm=>m≤i+1) (λm=>m) (i+1) ⟨rfl,rfl,rfl,jj some (jj (Value.int .u64) (by rw[List.drop_eq_nil_of_le (by rw[jP];omega)];rfl)),jj some (jj (Value.int .i64) zo),trivial⟩ (kZ _) (jz _) ?_
    intro m hmi
    cases m with
    |zero=>
     refine Q.r ?_;exact ⟨(),zt,kZ _,trivial⟩
    |succ m=>
     have hm1:((m+1:Nat):Int) - 1=(m:Int):=by omega
     obtain ⟨y,hy,hdr⟩:=hcn m zo;obtain ⟨b',o',hia',hry⟩:=qY.elem (g:=cB) (λ_=>rfl) hrs hy rfl;rw[hia] at hia';obtain ⟨rfl,rfl⟩:b=b'∧o=o':=by
      injection hia' with e
      injection e with e1 e2
      exact ⟨e1,e2⟩
     clear hia';have hl:=hle m;have hl2:=hle (m+1);rw[hdr] at hl;have hv1:hv (y::(bs.take (i+1)).drop (m+1))=y.toNat % 128+128*hv ((bs.take (i+1)).drop (m+1)):=rfl;rw[hv1] at hl;have hy8:y.toNat<256:=y.toNat_lt;rw[hm1];refine Q.r ?_;refine S.y (Y.mul rfl rfl) ?_;rw[wrap_u64 zo zo];refine Q.r ?_;refine S.y (Y.rem rfl rfl zd) ?_;rw[Int.tmod_eq_emod_of_nonneg zo];refine Q.r ?_;refine S.y (Y.cvi rfl) ?_;rw[wrap_u64 zo zo];refine Q.r ?_;refine S.y (Y.add rfl rfl) ?_;rw[wrap_u64 zo zo];refine Q.r ?_;exact ⟨m,⟨rfl,rfl,rfl,jj some (jj (Value.int .u64) (by rw[hdr,hv1];push_cast;omega)),rfl,trivial⟩,kZ _,by omega,by omega⟩
   rintro _ _;refine hgk (λck=> ?_) (λck=> ?_)
   ·refine Q.r ?_
    rw[hi9];refine Q.r ?_
    by_cases c0:x.toNat=0
    ·rw[jb ⟨c0,ck⟩] at hp
     rw[←hp];refine Q.r ?_;exact N.r3 (RV.tmp rfl (RV.tmp rfl (RV.tmp rfl RV.nil))) (kZ _) ⟨rfl,rfl⟩
    ·rw[ja (λh=>c0 h.1)] at hp
     rw[←hp];dsimp only
     by_cases cm:most<hv (bs.take (i+1))
     ·rw[ja zd,jb cm]
      refine Q.r ?_;exact N.r3 (RV.tmp rfl (RV.tmp rfl (RV.tmp rfl RV.nil))) (kZ _) ⟨rfl,rfl⟩
     ·rw[ja zd,ja cm]
      refine Q.r ?_;refine Q.dgo [] [] [] [0,1,2,3,4,5,6] ?_;refine Q.rd ?_;refine D.y rfl rfl rfl zk (Y.slFa rfl rfl rfl zo (.inr ⟨b,o,rfl⟩)) ?_;refine Q.rd ?_;refine Q.r ?_;exact N.r3 (RV.tmp rfl (RV.tmp rfl (RV.tmp rfl RV.nil))) (kZ _) ⟨rfl,rfl⟩
   ·exact absurd ck zo
  ·refine Q.r ?_
   rw[hi9];refine Q.r ?_;rw[hi9];refine qw (σ:=Unit) (λ_=> [(0,.slice (some ⟨b,o,none⟩) bs.length c),(1,.int .u64 most),(7,.int .i64 (i+1:Nat)),(8,.int .u64 (hv (bs.take (i+1))))]) (λ_=>L) (λ_=>True) ?_ ?_
   ·refine ql (σ:=Nat) (λm=> [(0,.slice (some ⟨b,o,none⟩) bs.length c),(1,.int .u64 most),(7,.int .i64 (i+1:Nat)),(8,.int .u64 (hv ((bs.take (i+1)).drop m))),(9,.int .i64 ((m:Int) - 1))]) (λ_=>L)
     (λm=>m≤i+1) (λm=>m) (i+1) ⟨rfl,rfl,rfl,jj some (jj (Value.int .u64) (by rw[List.drop_eq_nil_of_le (by rw[jP];omega)];rfl)),jj some (jj (Value.int .i64) zo),trivial⟩ (kZ _) (jz _) ?_
    intro m hmi
    cases m with
    |zero=>
     refine Q.r ?_;exact ⟨(),zt,kZ _,trivial⟩
    |succ m=>
     have hm1:((m+1:Nat):Int) - 1=(m:Int):=by omega
     obtain ⟨y,hy,hdr⟩:=hcn m zo;obtain ⟨b',o',hia',hry⟩:=qY.elem (g:=cB) (λ_=>rfl) hrs hy rfl;rw[hia] at hia';obtain ⟨rfl,rfl⟩:b=b'∧o=o':=by
      injection hia' with e
      injection e with e1 e2
      exact ⟨e1,e2⟩
     clear hia';have hl:=hle m;have hl2:=hle (m+1);rw[hdr] at hl;have hv1:hv (y::(bs.take (i+1)).drop (m+1))=y.toNat % 128+128*hv ((bs.take (i+1)).drop (m+1)):=rfl;rw[hv1] at hl;have hy8:y.toNat<256:=y.toNat_lt;rw[hm1];refine Q.r ?_;refine S.y (Y.mul rfl rfl) ?_;rw[wrap_u64 zo zo];refine Q.r ?_;refine S.y (Y.rem rfl rfl zd) ?_;rw[Int.tmod_eq_emod_of_nonneg zo];refine Q.r ?_;refine S.y (Y.cvi rfl) ?_;rw[wrap_u64 zo zo];refine Q.r ?_;refine S.y (Y.add rfl rfl) ?_;rw[wrap_u64 zo zo];refine Q.r ?_;exact ⟨m,⟨rfl,rfl,rfl,jj some (jj (Value.int .u64) (by rw[hdr,hv1];push_cast;omega)),rfl,trivial⟩,kZ _,by omega,by omega⟩
   rintro _ _;refine hgk (λck=> ?_) (λck=> ?_)
   ·refine Q.r ?_
    rw[hi9];refine Q.r ?_
    by_cases c0:x.toNat=0
    ·rw[jb ⟨c0,ck⟩] at hp
     rw[←hp];refine Q.r ?_;exact N.r3 (RV.tmp rfl (RV.tmp rfl (RV.tmp rfl RV.nil))) (kZ _) ⟨rfl,rfl⟩
    ·rw[ja (λh=>c0 h.1)] at hp
     rw[←hp];dsimp only
     by_cases cm:most<hv (bs.take (i+1))
     ·rw[ja zd,jb cm]
      refine Q.r ?_;exact N.r3 (RV.tmp rfl (RV.tmp rfl (RV.tmp rfl RV.nil))) (kZ _) ⟨rfl,rfl⟩
     ·rw[ja zd,ja cm]
      refine Q.r ?_;refine Q.dgo [] [] [] [0,1,2,3,4,5,6] ?_;refine Q.rd ?_;refine D.y rfl rfl rfl zk (Y.slFa rfl rfl rfl zo (.inr ⟨b,o,rfl⟩)) ?_;refine Q.rd ?_;refine Q.r ?_;exact N.r3 (RV.tmp rfl (RV.tmp rfl (RV.tmp rfl RV.nil))) (kZ _) ⟨rfl,rfl⟩
   ·rw[ja (λh=>by omega)] at hp
    rw[←hp];dsimp only
    by_cases cm:most<hv (bs.take (i+1))
    ·rw[ja zd,jb cm]
     refine Q.r ?_;exact N.r3 (RV.tmp rfl (RV.tmp rfl (RV.tmp rfl RV.nil))) (kZ _) ⟨rfl,rfl⟩
    ·rw[ja zd,ja cm]
     refine Q.r ?_;refine Q.dgo [] [] [] [0,1,2,3,4,5,6] ?_;refine Q.rd ?_;refine D.y rfl rfl rfl zk (Y.slFa rfl rfl rfl zo (.inr ⟨b,o,rfl⟩)) ?_;refine Q.rd ?_;refine Q.r ?_;exact N.r3 (RV.tmp rfl (RV.tmp rfl (RV.tmp rfl RV.nil))) (kZ _) ⟨rfl,rfl⟩
 ·have hke:i=bs.length:=by omega
  subst hke;rw[kM] at hp;rw[←hp];refine Q.r ?_;exact N.r3 (RV.tmp rfl (RV.tmp rfl (RV.tmp rfl RV.nil))) (kZ _) ⟨rfl,rfl⟩
end Go.Proofs.YtlnfjhiphlfkjaaGreatDoor
namespace Go.Proofs.YtlnfjhiphlfkjaaGreatDoor
open Go Go.SX
theorem jDs {vs:VL}{t s:Int}{x:List Int}(h:s<t):yk (vs++[(t,x)]) s=yk vs s:=by
 unfold yk;rw[jU,jc];have:¬t≤s:=by omega
 simp[this]
theorem jEU {vs:VL}{t s:Int}{x:List Int}(h:s<t):atV (vs++[(t,x)]) s=atV vs s:=by
 unfold atV;rw[jDs h]
 by_cases h0:yk vs s=0
 ·rw[jb h0,jb h0]
 ·rw[ja h0,ja h0,ko (by have:=jGJ vs s;omega)]
theorem mj :∀(vs:VL) {m s:Int},m≤s→yk vs m≤yk vs s
 | [],_,_,_=>jz _
 |v::vs,m,s,h=>by
  have:=mj vs h;unfold yk at*;rw[kI,kI]
  by_cases h1:v.1≤m
  ·have h2:v.1≤s:=by omega
   simp[h1,h2];omega
  ·by_cases h2:v.1≤s
   ·simp[h1,h2];omega
   ·simp[h1,h2];omega
theorem ml :∀{vs:VL} {s:Int} {k:Nat},vS vs→k≤yk vs s→yk (vs.drop k) s=yk vs s - k
 | [],_,_,_,hk=>by simp[yk] at*
 |v::vs,s,0,_,_=>rfl
 |v::vs,s,k+1,hs,hk=>by
  have hs2:vS vs:=by
   unfold vS at hs ⊢;rw[jL,kH] at hs;exact hs.2
  have hv:v.1≤s:=jDt hs 0 v zo rfl;have h1:yk (v::vs) s=yk vs s+1:=by unfold yk;simp[hv]
  rw[h1] at hk ⊢;rw[List.drop_succ_cons,ml hs2 zo];omega
theorem jGE {vs:VL}{m s:Int}(hs:vS vs)(h:m≤s):atV (vs.drop (KK vs m)) s=atV vs s:=by
 have hm:=mj vs h;have hc:KK vs m≤yk vs m:=by
  unfold KK
  split
  ·omega
  ·split<;>omega
 unfold atV;rw[ml hs zo]
 by_cases h0:yk vs s=0
 ·rw[jb h0,jb zo]
 rw[ja h0]
 by_cases h1:yk vs s - KK vs m=0
 ·rw[jb h1]
  have h2:yk vs s=yk vs m:=by omega
  have h3:KK vs m=yk vs m:=by omega
  unfold KK at h3;rw[ja zo] at h3
  by_cases h4:0<(((vs[yk vs m - 1]?).map (·.2)).getD []).length
  ·rw[jb h4] at h3;omega
  ·rw[h2]
   exact (List.length_eq_zero_iff.1 zo).symm
 ·rw[ja h1,List.getElem?_drop,show KK vs m+(yk vs s - KK vs m - 1)=yk vs s - 1 by omega]
theorem jCo {κ α:Type}[DecidableEq κ](m:List (κ×α))(x:κ):qE (qO m x) x=none:=wX λu hu=>by
 have:=(jB.1 hu).2
 simpa using this
theorem jGB {m:Int}{u:List (Int×VL)×GL}(h:qm u.1)(x id:Int):xe (W9 m u x).1 id=if id=x then (xe u.1 id).drop (KK (xe u.1 id) m) else xe u.1 id:=by
 by_cases he:id=x
 ·subst he
  rw[jb rfl];unfold W9;dsimp only
  by_cases h0:((xe u.1 id).drop (KK (xe u.1 id) m)).length=0
  ·rw[jb h0,List.length_eq_zero_iff.1 h0]
   show (qE (qO u.1 id) id).getD []=[]
   rw[jCo];rfl
  ·rw[ja h0]
   generalize (xe u.1 id).drop (KK (xe u.1 id) m)=w;unfold xe;rw[wa h,jb rfl];rfl
 ·rw[ja he]
  unfold xe;rw[jFT h he]
theorem jC5 {m:Int}{id:Int}:∀{ks:List Int} {u:List (Int×VL)×GL},qm u.1→ks.Nodup→xe (ks.foldl (W9 m) u).1 id=if id∈ks then (xe u.1 id).drop (KK (xe u.1 id) m) else xe u.1 id
 | [],_,_,_=>by simp
 |k::ks,u,h,hn=>by
  simp only[List.nodup_cons] at hn
  show xe (ks.foldl (W9 m) (W9 m u k)).1 id=_
  rw[jC5 (ks:=ks) (Yr h k) hn.2,jGB h]
  by_cases he:id=k
  ·subst he
   simp[hn.1]
  ·simp[he]
theorem lW {m:Int}{ch:List (Int×VL)}(h:qm ch)(id:Int):xe (swF m (Vc ch) ch).1 id=(xe ch id).drop (KK (xe ch id) m):=by
 unfold swF;rw[jC5 (u:=(ch,[])) h (gb h)]
 by_cases hi:id∈Vc ch
 ·rw[jb hi]
 ·rw[ja hi]
  have:xe ch id=[]:=by
   unfold xe
   cases hz:qE ch id with
   |none=>rfl
   |some vs=>
    exfalso
    apply hi;unfold Vc;exact (vE _).mem_iff.2 (jA (f:=(·.1)) (vM hz))
  show xe ch id=_
  rw[this]
  simp
theorem lX {s:Int}{id:Int}:∀{ops:VL} {ch:List (Int×VL)},qm ch→(ops.map (·.1)).Nodup→xe (yz s ch ops) id=xe ch id∨(yx ops id=true∧∃x,xe (yz s ch ops) id=xe ch id++[(s,x)])
 | [],_,_,_=>.inl rfl
 |o::ops,ch,h,hn=>by
  simp only[jL,List.nodup_cons] at hn
  by_cases he:id=o.1
  ·refine .inr ⟨by simp[yx,he],o.2,?_⟩
   show xe (yz s (Vx s ch o) ops) id=_
   rw[he]
   conv=>lhs;unfold xe
   rw[lc (Ka h s o) hn.1];unfold Vx;rw[wa h,jb rfl];rfl
  ·have h2:xe (Vx s ch o) id=xe ch id:=by
    unfold xe Vx;rw[wa h,ja he]
   rcases lX (s:=s) (id:=id) (ops:=ops) (Ka h s o) hn.2 with h1|⟨h1,x,h3⟩
   ·exact .inl (h1.trans h2)
   ·exact .inr ⟨by simp[yx] at h1 ⊢;exact .inr h1,x,h3.trans (by rw[h2])⟩
structure jGP (st:VS)(s id:Int)(w:List Int):Prop where
 b:∀i∈st.its,i.2.1<s→yx i.2.2 id=false
 a:st.mark≤s→atV (xe st.ch id) s=w
theorem jGP.do_ {st:VS}{n:Nat}{s id:Int}{w:List Int}(hw:ZE st n)(h:jGP st s id w)(o:DV)(ho:s≤o.after):jGP (doS st o) s id w:=by
 unfold doS
 split
 ·exact ⟨λi hi=>h.b i (jB.1 hi).1,h.a⟩
 split
 ·unfold xf
  split
  ·exact h
  ·rename_i i hi
   split
   ·rename_i hE
    refine ⟨λj hj=>h.b j (jB.1 hj).1,λhm=> ?_⟩;have hmi:=vM hi;unfold yy at hE;rw[hi] at hE;dsimp only at hE;have hlt:i.1<o.stamp:=by
     by_cases hc:o.stamp=0∨1099511627776<o.stamp∨o.stamp≤i.1
     ·rw[jb hc] at hE;cases hE
     ·omega
    dsimp only at hm ⊢
    rcases lX (s:=o.stamp) (id:=id) hw.k1 (hw.wf.io _ hmi).2.1 with h1|⟨h1,x,h2⟩
    ·rw[h1];exact h.a hm
    ·rw[h2,jEU,h.a hm]
     by_cases hs:i.1<s
     ·have:=h.b _ hmi hs
      dsimp only at this;rw[this] at h1;cases h1
     ·omega
   ·exact h
 split
 ·unfold wO
  split
  ·exact h
  ·rename_i hm
   refine ⟨h.b,λhm2=> ?_⟩;dsimp only at hm2 ⊢;rw[lW hw.k1,jGE]
   ·exact h.a zo
   ·unfold xe
    cases hz:qE st.ch id with
    |none=>exact List.Pairwise.nil
    |some vs=>exact (hw.wf.co _ (vM hz)).1
   ·exact hm2
 ·unfold xI
  split
  ·refine ⟨λi hi hs=> ?_,h.a⟩
   rcases jy.1 hi with hi|hi
   ·exact h.b i hi hs
   ·obtain rfl:=ji.1 hi
    dsimp only at hs;omega
  ·exact h
structure nX (vs:VL):Prop where
 s:vS vs
 v:∀v∈vs,0<v.1∧v.1≤1099511627776∧(0<v.2.length→wQ v.2=true)
def jFh :VL→VL→Int
 |_,[]=>0
 |p,v::q=>if jD5 p v.1 v.2≠0 then jD5 p v.1 v.2 else jFh (p++[v]) q
theorem gh {p:VL}{v:Int×List Int}(h:vS p)(hl:Jh p<v.1):vS (p++[v]):=by
 have h2:=Xc h;unfold vS at*;rw[jq,List.pairwise_append];refine ⟨h,by simp,λa ha b hb=> ?_⟩;obtain ⟨u,hu,rfl⟩:=jM.1 ha
 simp at hb
 subst hb;have:=h2 u hu;omega
theorem nX.put {p q:VL}{v:Int×List Int}(h:nX (p++v::q)):jD5 p v.1 v.2=0:=by
 have hv:=h.v v (by simp);have hl:Jh p<v.1:=by
  unfold Jh
  cases hg:p.getLast? with
  |none=>simp;omega
  |some l=>
   have hm:=List.mem_of_getLast? hg;have hs:=h.s;unfold vS at hs;rw[jq,List.pairwise_append] at hs;exact hs.2.2 _ (jA hm) _ (by simp)
 unfold jD5;rw[ja zo,ja (λhh=>by have:=hv.2.2 hh.1;rw[hh.2] at this;cases this),ja zo]
def jIV (dim:Int)(v:Int×List Int):Bool:=decide (0<v.2.length)&&decide ((v.2.length:Int)≠dim)
def jIU (dim:Int)(ch:List (Int×VL))(e:Int×VL):Bool:=decide (1099511627776<e.1)||(qE ch e.1).isSome||decide (e.2.length=0)||decide (jFh [] e.2≠0)||e.2.any (jIV dim)
def ldF (dim:Int):List (Int×VL)→List (Int×VL)→Option (List (Int×VL))
 |ch,[]=>some ch
 |ch,e::l=>if jIU dim ch e then none else ldF dim (ch++[e]) l
def jFn (st:VS)(mark:Int)(l:List (Int×VL)):Int:=if 1099511627776<mark then 1 else if (ldF st.dim [] l).isNone then 4 else if 0<st.ch.length∨0<st.its.length∨0<st.mark then 10 else 0
def jHA (st:VS)(mark:Int)(l:List (Int×VL)):VS:=if jFn st mark l=0 then {st with ch:=l,mark:=mark} else st
structure jHI (dim:Int)(c:Int×VL):Prop where
 i:c.1≤1099511627776
 n:0<c.2.length
 p:nX c.2
 d:∀v∈c.2,0<v.2.length→(v.2.length:Int)=dim
structure GS (st:VS):Prop where
 c:∀c∈st.ch,jHI st.dim c
 i:∀i∈st.its,∀o∈i.2.2,o.1≤1099511627776∧(0<o.2.length→wQ o.2=true∧(o.2.length:Int)=st.dim)
 m:st.mark≤1099511627776
theorem jCt {s:Int}{u:List (Int×VL)×GL}(hk:qm u.1)(h:∀c∈u.1,0<c.2.length)(id:Int):∀c∈(W9 s u id).1,0<c.2.length:=by
 intro c hc;unfold W9 at hc;dsimp only at hc
 by_cases h0:((xe u.1 id).drop (KK (xe u.1 id) s)).length=0
 ·rw[jb h0] at hc
  exact h c (jB.1 hc).1
 ·rw[ja h0] at hc
  have h1:=(vp (vy hk id _)).2 (show (c.1,c.2)∈_ from hc);rw[wa hk] at h1
  by_cases he:c.1=id
  ·rw[jb he] at h1
   rw[←Option.some.inj h1];omega
  ·rw[ja he] at h1
   exact h _ (vM h1)
theorem lh {s:Int}:∀{ks:List Int} {u:List (Int×VL)×GL},qm u.1→(∀c∈u.1,0<c.2.length)→∀c∈(ks.foldl (W9 s) u).1,0<c.2.length
 | [],_,_,h=>h
 |k::ks,u,hk,h=>lh (ks:=ks) (Yr hk k) (jCt hk h k)
theorem nX.drop {vs:VL}(h:nX vs)(k:Nat):nX (vs.drop k):=by
 refine ⟨?_,λv hv=>h.v v (List.mem_of_mem_drop hv)⟩;have:=h.s;unfold vS at this ⊢;rw[List.map_drop];exact this.sublist (List.drop_sublist _ _)
theorem jC6 {ch:List (Int×VL)}{id:Int}{vs:VL}(h:qE ch id=some vs):xe ch id=vs:=by unfold xe;rw[h];rfl
theorem GS.do_ {st:VS}{n:Nat}(hw:ZE st n)(h:GS st)(o:DV)(ho:0≤o.stamp):GS (doS st o):=by
 unfold doS
 split
 ·exact ⟨h.c,λi hi=>h.i i (jB.1 hi).1,h.m⟩
 split
 ·unfold xf
  split
  ·exact h
  ·rename_i i hi
   split
   ·rename_i hE
    have hmi:=vM hi;unfold yy at hE;rw[hi] at hE;dsimp only at hE
    by_cases h1:o.stamp=0∨1099511627776<o.stamp∨o.stamp≤i.1
    ·rw[jb h1] at hE;cases hE
    rw[ja h1] at hE
    by_cases h2:(i.2.any λw=>decide (o.stamp≤Jh (xe st.ch w.1)))=true
    ·rw[jb h2] at hE;cases hE
    refine ⟨λc hc=> ?_,λj hj=>h.i j (jB.1 hj).1,h.m⟩
    rcases zh hw.k1 (hw.wf.io _ hmi).2.1 hc with hc|⟨w,hwm,rfl⟩
    ·exact h.c c hc
    ·have hio:=h.i _ hmi w hwm
     have hlt:Jh (xe st.ch w.1)<o.stamp:=by
      by_cases hh:o.stamp≤Jh (xe st.ch w.1)
      ·exact absurd (ku.2 ⟨w,hwm,jo hh⟩) h2
      ·omega
     have hcv:nX (xe st.ch w.1)∧∀v∈xe st.ch w.1,0<v.2.length→(v.2.length:Int)=st.dim:=by
      unfold xe
      cases hz:qE st.ch w.1 with
      |none=>exact ⟨⟨List.Pairwise.nil,by simp⟩,by simp⟩
      |some vs=>have:=h.c _ (vM hz);exact ⟨this.p,this.d⟩
     refine ⟨hio.1,by simp,⟨gh hcv.1.s hlt,λv hv=> ?_⟩,λv hv hl=> ?_⟩
     ·rcases jy.1 hv with hv|hv
      ·exact hcv.1.v v hv
      ·obtain rfl:=ji.1 hv
       exact ⟨by dsimp only;omega,by dsimp only;omega,λhl=>(hio.2 hl).1⟩
     ·rcases jy.1 hv with hv|hv
      ·exact hcv.2 v hv hl
      ·obtain rfl:=ji.1 hv
       exact (hio.2 hl).2
   ·exact h
 split
 ·unfold wO
  split
  ·exact h
  ·refine ⟨λc hc=> ?_,h.i,by dsimp only;omega⟩
   dsimp only at hc ⊢;have hk':=nH (s:=min o.stamp 1099511627776) (ks:=Vc st.ch) (u:=(st.ch,[])) hw.k1;have h1:=(vp hk').2 (show (c.1,c.2)∈_ from hc);have h2:=lW (m:=min o.stamp 1099511627776) hw.k1 c.1;have h2':xe (swF (min o.stamp 1099511627776) (Vc st.ch) st.ch).1 c.1=c.2:=jC6 h1;rw[h2'] at h2;have hne:=lh (s:=min o.stamp 1099511627776) (ks:=Vc st.ch) (u:=(st.ch,[])) hw.k1 (λc hc=>(h.c c hc).n) c hc
   cases hz:qE st.ch c.1 with
   |none=>
    have:xe st.ch c.1=[]:=by unfold xe;rw[hz];rfl
    rw[this] at h2;rw[h2] at hne
    simp at hne
   |some vs=>
    have hg:=h.c _ (vM hz);rw[jC6 hz] at h2;refine ⟨hg.i,hne,by rw[h2];exact hg.p.drop _,λv hv=> ?_⟩;rw[h2] at hv;exact hg.d v (List.mem_of_mem_drop hv)
 ·unfold xI
  split
  ·rename_i hE
   refine ⟨h.c,λi hi=> ?_,h.m⟩
   rcases jy.1 hi with hi|hi
   ·exact h.i i hi
   ·obtain rfl:=ji.1 hi
    dsimp only;intro w hw2;generalize WL 18 (o.ops.map OV.abs)=ops at hE hw2;unfold zy at hE
    by_cases h1:1099511627776<o.after
    ·rw[jb h1] at hE;cases hE
    rw[ja h1] at hE
    by_cases h2:vP st.dim ops≠0
    ·rw[jb h2] at hE;exact absurd hE h2
    have h3:=Decidable.not_not.1 h2;unfold vP at h3
    by_cases g1:st.dim<1∨8<st.dim
    ·rw[jb g1] at h3;cases h3
    rw[ja g1] at h3
    by_cases g2:ops.length=0
    ·rw[jb g2] at h3;cases h3
    rw[ja g2] at h3
    by_cases g3:16<ops.length
    ·rw[jb g3] at h3;cases h3
    rw[ja g3] at h3
    by_cases g4:ops.any (Jm st.dim)=true
    ·rw[jb g4] at h3;cases h3
    have g5:=List.any_eq_false.1 (by simpa using g4) w hw2;unfold Jm at g5;simp only[kU,jF,jS,kL,not_or,not_and] at g5;refine ⟨by omega,λhl=> ?_⟩;have g6:=g5.2 hl;refine ⟨by simpa using g6.1,?_⟩;have:=g6.2;omega
  ·exact h
abbrev IR :=Int×Int×List Int×VL
abbrev jHu (v:Int×List Int):Prop:=(0≤v.1∧v.1≤(1099511627776:Nat))∧v.2.length≤8∧∀n∈v.2,Km n
abbrev jIA (e:Int×VL):Prop:=(0≤e.1∧e.1≤(1099511627776:Nat))∧e.2.length≤1048576∧∀v∈e.2,jHu v
abbrev jIz (mp mq mo:Nat)(i:IR):Prop:=(0≤i.1∧i.1≤(18446744073709551615:Nat))∧(0≤i.2.1∧i.2.1≤(1099511627776:Nat))∧(i.2.2.1.length≤mp∧∀p∈i.2.2.1,0≤p∧p≤mq)∧(i.2.2.2.length≤mo∧∀v∈i.2.2.2,jHu v)
abbrev jIB (d:Int×Int):Prop:=(0≤d.1∧d.1≤(18446744073709551615:Nat))∧(0≤d.2∧d.2≤(1099511627776:Nat))
structure UR where
 m:Int
 E:List (Int×VL)
 I:List IR
 D:List (Int×Int)
 s:RS
def jFu (dim:Int):List IR→JS→Option JS
 | [],j=>some j
 |h::l,j=>if vX h.2.2.1=true∧vP dim h.2.2.2=0∧zy j.v h.1 h.2.1 h.2.2.2=0 then jFu dim l ⟨xI j.v h.1 h.2.1 h.2.2.2,qN j.parts h.1 h.2.2.1,j.done⟩ else none
def VS0 (dim:Int):VS:=⟨dim,[],[],0⟩
attribute [local irreducible] swp qq qL qJ vZ qh St qi qk vu qH
structure OI where
 id:Int
 af:Int
 oa:OA
 oc:Nat
 vs:List OV
 pa:OA
 pc:Nat
 ps:List Int
abbrev OI.cells (o:OI):List Value:=[.int .u64 o.id,.int .u64 o.af,.slice o.oa o.vs.length o.oc,.slice o.pa o.ps.length o.pc]
abbrev OI.abs (o:OI):IR:=(o.id,o.af,o.ps,o.vs.map OV.abs)
abbrev jIR (z:Int):List Value:=[I64 z]
abbrev okO (M:OM)(o:OI):Prop:=qI M o.oa o.vs.length 2 (o.vs.flatMap OV.cells)∧okR M o.vs∧qI M o.pa o.ps.length 1 (o.ps.flatMap jIR)
theorem okO.mono {M M':OM}{o:OI}(h:okO M o)(hl:qV M M'):okO M' o:=⟨h.1.mono hl,λx hx=>(h.2.1 x hx).mono hl,h.2.2.mono hl⟩
def K3 (bs:List UInt8):List Int×List UInt8×Int:=if (qB bs 8).2.2≠0 then ([],[],(qB bs 8).2.2) else Xz (qB bs 8).1 (bs.drop (qB bs 8).2.1) []
theorem jBo :∀(k:Nat) (bs:List UInt8) (acc:List Int),(Xz k bs acc).2.1.length≤bs.length
 |0,bs,acc=>jz _
 |k+1,bs,acc=>by
  rw[J5]
  split
  ·simp
  ·split
   ·simp
   ·have:=jBo k (bs.drop (qB bs 18446744073709551615).2.1) (acc++[XZ (qB bs 18446744073709551615).1])
    rw[jE] at this;omega
theorem jDR (s:RS):xY 8 s=if s.bad≠0 then ([],s) else if (K3 s.bs).2.2≠0 then ([],{s with bad:=(K3 s.bs).2.2}) else ((K3 s.bs).1,⟨(K3 s.bs).2.1,0,s.good⟩):=by
 unfold xY K3
 by_cases h1:s.bad≠0
 ·rw[jb h1,jb h1]
 ·rw[ja h1,ja h1]
  by_cases h2:(qB s.bs 8).2.2≠0
  ·rw[jb h2,jb h2]
   dsimp only;rw[jb h2]
  ·rw[ja h2,ja h2]
theorem jG2 {u:Nat}(h:¬4294967295<u):IntKind.i32.wrap (XZ u)=XZ u:=by
 unfold XZ
 split<;>exact zW zo zo
theorem n8 (L:HL):qh kY 176 [.int .i64 8] L (λv L'=>v=.int .u64 8∧L'=L):=by
 refine qg Tryz.func176 rfl rfl rfl ?_;refine Q.r ?_;refine S.y (Y.cvi rfl) ?_;rw[show IntKind.u64.wrap 8=8 by decide];refine Q.r ?_;exact N.t rfl (kZ _) ⟨rfl,rfl⟩
set_option maxRecDepth 100000 in
theorem fB (a:OA)(c:Nat)(bs:List UInt8)(M:OM)(L:HL)[hM:xq M L](h:qI M a bs.length 1 (bs.map B))(hc:bs.length≤c)(hb:bs.length≤10000000):
  qh kY 113 [.slice a bs.length c,.int .i64 8] L (λv L'=>∃va vc ra rc,v=.tuple #[.slice va (K3 bs).1.length vc,.slice ra (K3 bs).2.1.length rc,.int .i64 (K3 bs).2.2]∧qI M ra (K3 bs).2.1.length 1 ((K3 bs).2.1.map B)∧(K3 bs).2.1.length≤rc∧L'=slO 21 1 va (K3 bs).1.length vc ((K3 bs).1.map zC)::L):=by
 have hT:=VR a c bs 8 L (h.rd (hm:=hM)) zo;have hsz:=yt bs 8;have hs0:=h.fromA (l:=(qB bs 8).2.1) hsz hc;rw[jX,←List.map_drop] at hs0;have hn8:(qB bs 8).2.2=0→(qB bs 8).1≤8:=λh=>(yX h).2
 have fail:∀q:Int,K3 bs=([],[],q)→∀v:Value,v=.tuple #[.slice none 0 0,.slice none 0 0,.int .i64 q]→∀L',L'=slO 21 1 none 0 0 []::L→∃va vc ra rc,v=.tuple #[.slice va (K3 bs).1.length vc,.slice ra (K3 bs).2.1.length rc,.int .i64 (K3 bs).2.2]∧qI M ra (K3 bs).2.1.length 1 ((K3 bs).2.1.map B)∧(K3 bs).2.1.length≤rc∧L'=slO 21 1 va (K3 bs).1.length vc ((K3 bs).1.map zC)::L:=by
  rintro q e _ rfl _ rfl;rw[e];exact ⟨none,0,none,0,rfl,⟨rfl,.inl rfl⟩,jw _,rfl⟩
 have hv0:(qB bs 8).2.2≠0→K3 bs=([],[],(qB bs 8).2.2):=λh=>by unfold K3;rw[jb h]
 have hv1:(qB bs 8).2.2=0→K3 bs=Xz (qB bs 8).1 (bs.drop (qB bs 8).2.1) []:=λh=>by unfold K3;rw[ja zo]
 refine qg Tryz.func113 rfl rfl rfl ?_;refine Q.r ?_;refine S.cr rfl (n8 _) ?_;rintro _ L2 ⟨rfl,eL⟩;rw[eL];clear eL L2;refine Q.r ?_;refine S.cr rfl hT ?_;rintro _ L2 ⟨rfl,eL⟩;rw[eL];clear eL L2;clear hT;unfold Vg;generalize (qB bs 8).1=n0 at*;generalize (qB bs 8).2.1=z0 at*;generalize (qB bs 8).2.2=q0 at*
 by_cases h0:q0=0
 case neg=>
  rw[jb h0];refine Q.r ?_;exact N.r3 (RV.tmp rfl (RV.tmp rfl (RV.tmp rfl RV.nil))) vj (fail q0 (hv0 h0) _ rfl _ rfl)
 subst h0;rw[ja zo];have hv:=hv1 rfl;have hn:=hn8 rfl;clear hv0 hv1 hn8;obtain ⟨b0,hb0⟩:∃b0,b0=bs.drop z0:=⟨_,rfl⟩;have hb0l:b0.length=bs.length - z0:=by rw[hb0,jE]
 rw[←hb0] at hv hs0;rw[←hb0l] at hs0 ⊢;have hc0:b0.length≤c - z0:=by omega
 have hbl:b0.length≤10000000:=by omega
 refine Q.r ?_;refine qw (σ:=List Int×List UInt8×OA×Nat×OA×Nat) (λw=> [(8,.slice w.2.2.1 w.2.1.length w.2.2.2.1),(10,.slice w.2.2.2.2.1 w.1.length w.2.2.2.2.2)])
  (λw=>slO 21 1 w.2.2.2.2.1 w.1.length w.2.2.2.2.2 (w.1.map zC)::L) (λw=>qI M w.2.2.1 w.2.1.length 1 (w.2.1.map B)∧w.2.1.length≤w.2.2.2.1∧K3 bs=(w.1,w.2.1,0)) ?_ ?_
 ·refine ql (σ:=Nat×List Int×List UInt8×OA×Nat×OA×Nat) (λw=> [(26,.int .u64 n0),(8,.slice w.2.2.2.1 w.2.2.1.length w.2.2.2.2.1),(10,.slice w.2.2.2.2.2.1 w.2.1.length w.2.2.2.2.2.2),(27,.int .u64 w.1)])
   (λw=>slO 21 1 w.2.2.2.2.2.1 w.2.1.length w.2.2.2.2.2.2 (w.2.1.map zC)::L)
   (λw=>w.1≤n0∧w.2.1.length=w.1∧qI M w.2.2.2.1 w.2.2.1.length 1 (w.2.2.1.map B)∧w.2.2.1.length≤w.2.2.2.2.1∧w.2.2.1.length≤10000000∧K3 bs=Xz (n0 - w.1) w.2.2.1 w.2.1)
   (λw=>n0 - w.1) (0,[],b0,Q4 a c z0 1,c - z0,none,0) zt eG ⟨jw _,rfl,hs0,hc0,hbl,hv⟩ ?_
  rintro ⟨i,acc,bs',a',c',oa,oc⟩ ⟨hi,hai,hs',hc',hb',hv⟩;dsimp only at hi hai hs' hc' hb' hv ⊢
  by_cases hlt:i<n0
  ·have hz:=yt bs' 18446744073709551615
   have hT:=VR a' c' bs' 18446744073709551615 (slO 21 1 oa acc.length oc (acc.map zC)::L) (hs'.rd (hm:=xq.there)) zo;rw[show n0 - i=(n0 - (i+1))+1 by omega,J5] at hv;have hs2:=hs'.fromA (l:=(qB bs' 18446744073709551615).2.1) hz hc';rw[jX,←List.map_drop] at hs2;refine Q.r ?_;refine S.cr rfl hT ?_;rintro _ _ ⟨rfl,rfl⟩;clear hT;unfold Vg;generalize (qB bs' 18446744073709551615).1=u at*;generalize (qB bs' 18446744073709551615).2.1=z at*;generalize (qB bs' 18446744073709551615).2.2=q at*;have hdl:(bs'.drop z).length=bs'.length - z:=jE
   by_cases h2:q=0
   case neg=>
    rw[jb h2] at hv;rw[jb h2];refine Q.r ?_;exact N.r3 (RV.tmp rfl (RV.tmp rfl (RV.tmp rfl RV.nil))) (qi.trans (M:=L) eG vj) (fail q hv _ rfl _ rfl)
   subst h2;rw[ja zo] at hv;rw[ja zo,←hdl];rw[←hdl] at hs2
   by_cases h3:4294967295<u
   ·rw[jb h3] at hv
    refine Q.r ?_;exact N.r3 (RV.tmp rfl (RV.tmp rfl (RV.tmp rfl RV.nil))) (qi.trans (M:=L) eG vj) (fail 4 hv _ rfl _ rfl)
   ·rw[ja h3] at hv
    have hzw:=jG2 h3
    by_cases h4:u % 2=1
    ·have hzz:XZ u= -((u / 2:Nat):Int) - 1:=by unfold XZ;rw[jb h4]
     refine Q.r ?_;refine S.y (Y.quo rfl rfl zd) ?_;rw[show IntKind.u64.wrap ((u:Int).tdiv 2)=((u / 2:Nat):Int) by rw[show (u:Int).tdiv 2=((u / 2:Nat):Int) from rfl];exact wrap_u64 zo zo];refine S.y (Y.cvi rfl) ?_;rw[show IntKind.i64.wrap ((u / 2:Nat):Int)=((u / 2:Nat):Int) from vl zo zo];refine Q.r ?_;refine S.y (Y.rem rfl rfl zd) ?_;rw[show (u:Int).tmod 2=((u % 2:Nat):Int) from rfl,h4];refine Q.r ?_;refine S.y (Y.neg rfl) ?_;rw[show IntKind.i64.wrap (-((u / 2:Nat):Int))= -((u / 2:Nat):Int) from vl zo zo];refine S.y (Y.sub rfl rfl) ?_;rw[show IntKind.i64.wrap (-((u / 2:Nat):Int) - 1)=XZ u by rw[hzz];exact vl zo zo];refine Q.r ?_;refine S.y (Y.cvi rfl) ?_;rw[hzw];refine Q.r ?_;(repeat (intro b1;refine Q.r ?_));refine S.app rfl rfl (vG.sl vi.row zr zr) zr zo zo (λoa2 oc2=> ?_);refine Q.r ?_;refine S.y (Y.add rfl rfl) ?_;rw[show IntKind.u64.wrap ((i:Int)+1)=(i:Int)+1 from wrap_u64 zo zo];refine Q.r ?_;refine ⟨(i+1,acc++[XZ u],bs'.drop z,Q4 a' c' z 1,c' - z,oa2,oc2),⟨rfl,rfl,jj some (by simp[jU]),jj some (by simp[jU]),trivial⟩,?_,⟨hlt,by dsimp only;rw[qG,hai],hs2,by dsimp only;omega,by dsimp only;omega,hv⟩,jr n0 i hlt⟩;dsimp only;rw[qG,jq,jL,kC];exact eG
    ·have hzz:XZ u=((u / 2:Nat):Int):=by unfold XZ;rw[ja h4]
     refine Q.r ?_;refine S.y (Y.quo rfl rfl zd) ?_;rw[show IntKind.u64.wrap ((u:Int).tdiv 2)=((u / 2:Nat):Int) by rw[show (u:Int).tdiv 2=((u / 2:Nat):Int) from rfl];exact wrap_u64 zo zo];refine S.y (Y.cvi rfl) ?_;rw[show IntKind.i64.wrap ((u / 2:Nat):Int)=((u / 2:Nat):Int) from vl zo zo];refine Q.r ?_;refine S.y (Y.rem rfl rfl zd) ?_;rw[show (u:Int).tmod 2=((u % 2:Nat):Int) from rfl,show u % 2=0 by omega];refine Q.r ?_;refine S.y (Y.cvi rfl) ?_;rw[←hzz,hzw];refine Q.r ?_;(repeat (intro b1;refine Q.r ?_));refine S.app rfl rfl (vG.sl vi.row zr zr) zr zo zo (λoa2 oc2=> ?_);refine Q.r ?_;refine S.y (Y.add rfl rfl) ?_;rw[show IntKind.u64.wrap ((i:Int)+1)=(i:Int)+1 from wrap_u64 zo zo];refine Q.r ?_;refine ⟨(i+1,acc++[XZ u],bs'.drop z,Q4 a' c' z 1,c' - z,oa2,oc2),⟨rfl,rfl,jj some (by simp[jU]),jj some (by simp[jU]),trivial⟩,?_,⟨hlt,by dsimp only;rw[qG,hai],hs2,by dsimp only;omega,by dsimp only;omega,hv⟩,jr n0 i hlt⟩;dsimp only;rw[qG,jq,jL,kC];exact eG
  ·have hin:i=n0:=by omega
   subst hin;rw[Nat.sub_self] at hv;refine Q.r ?_;exact ⟨(acc,bs',a',c',oa,oc),zt,kZ _,hs',hc',hv⟩
 rintro ⟨acc,bs',a',c',oa,oc⟩ ⟨hs',hc',hv⟩;dsimp only at hs' hc' hv ⊢;refine Q.r ?_;refine N.r3 (RV.tmp rfl (RV.tmp rfl (RV.tmp rfl RV.nil))) (kZ _) ?_;rw[hv];exact ⟨oa,oc,a',c',rfl,hs',hc',rfl⟩
end Go.Proofs.YtlnfjhiphlfkjaaGreatDoor
namespace Go.Proofs.YtlnfjhiphlfkjaaGreatDoor
open Go Go.SX
def XK (n:NA)(f:UInt8):List UInt8:=
 if f=116 then numI n.txn else if f=98 then numI n.batch else if f=115 then numI n.stamp else if f=97 then numI n.after else if f=109 then numI n.mark else if f=113 then numI n.query
 else if f=105 then numI n.id else if f=107 then numI n.k else if f=101 then numI n.ef else if f=99 then numI n.code else if f=119 then numI n.who else if f=112 then wL numI n.parts
 else if f=111 then wL xH n.ops else if f=118 then wh n.vec else wL xU n.hits
set_option maxRecDepth 100000 in
theorem Wd (k:Nat):xd k=abc.filter (vn k):=by
 by_cases h:k<23
 ·exact (by decide:∀k,k<23→xd k=abc.filter (vn k)) k h
 ·have h1:xd k=[]:=by
   unfold xd;rw[List.getElem?_eq_none (by show 23≤k;omega)];rfl
  rw[h1]
  symm
  rw[List.filter_eq_nil_iff];intro f _;unfold vn;rw[h1];simp
theorem lE {α:Type}(p:α→Bool)(e:α→List UInt8)(l:List α):(l.filter p).flatMap e=l.flatMap λf=>if p f=true then e f else []:=by
 induction l with
 |nil=>rfl
 |cons x l ih=>
  rw[kI,jK]
  split
  ·rw[jK,ih]
  ·rw[ih];rfl
theorem Qq (n:NA):yi n=numI n.kind++(xd n.kind.toNat).flatMap (XK n):=by
 rw[Wd,lE];unfold yi
 congr 1
 generalize n.kind.toNat=k;have b0:qC k 0=vn k 116:=vf k 0 zd;have b1:qC k 1=vn k 98:=vf k 1 zd;have b2:qC k 2=vn k 115:=vf k 2 zd;have b3:qC k 3=vn k 97:=vf k 3 zd;have b4:qC k 4=vn k 109:=vf k 4 zd;have b5:qC k 5=vn k 113:=vf k 5 zd;have b6:qC k 6=vn k 105:=vf k 6 zd;have b7:qC k 7=vn k 107:=vf k 7 zd;have b8:qC k 8=vn k 101:=vf k 8 zd;have b9:qC k 9=vn k 99:=vf k 9 zd;have b10:qC k 10=vn k 119:=vf k 10 zd;have b11:qC k 11=vn k 112:=vf k 11 zd;have b12:qC k 12=vn k 111:=vf k 12 zd;have b13:qC k 13=vn k 118:=vf k 13 zd;have b14:qC k 14=vn k 104:=vf k 14 zd;have hc:zH k=[(vn k 116,18446744073709551615),(vn k 98,18446744073709551615),(vn k 115,1099511627776),(vn k 97,1099511627776),(vn k 109,1099511627776),(vn k 113,18446744073709551615),(vn k 105,1099511627776),(vn k 107,16),(vn k 101,256),(vn k 99,13),(vn k 119,16)]:=by
  rw[←b0,←b1,←b2,←b3,←b4,←b5,←b6,←b7,←b8,←b9,←b10];rfl
 have hR:(abc.flatMap λf=>if vn k f=true then XK n f else [])=vr (vn k 116) numI n.txn++(vr (vn k 98) numI n.batch++(vr (vn k 115) numI n.stamp++(vr (vn k 97) numI n.after++(vr (vn k 109) numI n.mark++(vr (vn k 113) numI n.query++(vr (vn k 105) numI n.id++(vr (vn k 107) numI n.k++(vr (vn k 101) numI n.ef++(vr (vn k 99) numI n.code++(vr (vn k 119) numI n.who++(vr (vn k 112) (wL numI) n.parts++(vr (vn k 111) (wL xH) n.ops++(vr (vn k 118) wh n.vec++(vr (vn k 104) (wL xU) n.hits++[])))))))))))))):=rfl;rw[hR,jG]
 show xt (zH k) [n.txn,n.batch,n.stamp,n.after,n.mark,n.query,n.id,n.k,n.ef,n.code,n.who]++(vr (qC k 11) (wL numI) n.parts++(vr (qC k 12) (wL xH) n.ops++(vr (qC k 13) wh n.vec++vr (qC k 14) (wL xU) n.hits)))=_
 rw[hc,b11,b12,b13,b14];simp only[xt,ju,kO]
def yg (n:NA)(i:Nat):List UInt8:=numI n.kind++((xd n.kind.toNat).take i).flatMap (XK n)
theorem tK (n:NA):yg n 0=numI n.kind:=by unfold yg;rw[kB,j3,jG]
theorem jB0 (n:NA){i:Nat}(h:(xd n.kind.toNat).length≤i):yg n i=yi n:=by unfold yg;rw[kK h,Qq]
theorem tL {n:NA}{i:Nat}{f:UInt8}(h:(xd n.kind.toNat)[i]? =some f):yg n (i+1)=yg n i++XK n f:=by
 unfold yg;rw[qA h,kS,jK,j3,jG,ju]
theorem jBZ (n:NA)(i:Nat):(yg n i).length≤(yi n).length:=by
 rw[Qq];unfold yg;rw[jc,jc];have:((xd n.kind.toNat).take i).flatMap (XK n)++((xd n.kind.toNat).drop i).flatMap (XK n)=(xd n.kind.toNat).flatMap (XK n):=by rw[←kS,kJ]
 rw[←this,jc];omega
structure RZ where
 bs:List UInt8
 ok:Bool
def ye (s:RZ):Int×RZ:=if (qB s.bs 18446744073709551615).2.2=0∧s.ok=true then (((qB s.bs 18446744073709551615).1:Int),⟨s.bs.drop (qB s.bs 18446744073709551615).2.1,true⟩) else (0,⟨s.bs,false⟩)
def zU (m:Nat)(s:RZ):Int×RZ:=if (m:Int)<(ye s).1 then (0,⟨(ye s).2.bs,false⟩) else ye s
def XA (s:RZ):List Int×RZ:=if (K3 s.bs).2.2=0∧s.ok=true then ((K3 s.bs).1,⟨(K3 s.bs).2.1,true⟩) else ([],⟨s.bs,false⟩)
def gW {α:Type}(d:RZ→α×RZ):Nat→RZ×List α→RZ×List α
 |0,s=>s
 |k+1,s=>gW d k ((d s.1).2,s.2++[(d s.1).1])
theorem Qk {α:Type}(d:RZ→α×RZ)(k:Nat)(s:RZ×List α):gW d (k+1) s=gW d k ((d s.1).2,s.2++[(d s.1).1]):=rfl
def opF (s:RZ):(Int×List Int)×RZ:=(((ye s).1,(XA (ye s).2).1),(XA (ye s).2).2)
def htF (s:RZ):(Int×Int×List Int)×RZ:=(((ye s).1,(ye (ye s).2).1,(XA (ye (ye s).2).2).1),(XA (ye (ye s).2).2).2)
def Wa {α:Type}(m:Nat)(d:RZ→α×RZ)(s:RZ):List α×RZ:=((gW d (zU m s).1.toNat ((zU m s).2,[])).2,(gW d (zU m s).1.toNat ((zU m s).2,[])).1)
def Ys (x:NA×RZ)(f:UInt8):NA×RZ:=
 if f=116 then ({x.1 with txn:=(ye x.2).1},(ye x.2).2) else if f=98 then ({x.1 with batch:=(ye x.2).1},(ye x.2).2) else if f=115 then ({x.1 with stamp:=(ye x.2).1},(ye x.2).2)
 else if f=97 then ({x.1 with after:=(ye x.2).1},(ye x.2).2) else if f=109 then ({x.1 with mark:=(ye x.2).1},(ye x.2).2) else if f=113 then ({x.1 with query:=(ye x.2).1},(ye x.2).2)
 else if f=105 then ({x.1 with id:=(ye x.2).1},(ye x.2).2) else if f=107 then ({x.1 with k:=(zU 16 x.2).1},(zU 16 x.2).2) else if f=101 then ({x.1 with ef:=(zU 256 x.2).1},(zU 256 x.2).2)
 else if f=99 then ({x.1 with code:=(zU 13 x.2).1},(zU 13 x.2).2) else if f=119 then ({x.1 with who:=(zU 15 x.2).1},(zU 15 x.2).2) else if f=112 then ({x.1 with parts:=(Wa 4 (zU 15) x.2).1},(Wa 4 (zU 15) x.2).2)
 else if f=111 then ({x.1 with ops:=(Wa 16 opF x.2).1},(Wa 16 opF x.2).2) else if f=118 then ({x.1 with vec:=(XA x.2).1},(XA x.2).2) else ({x.1 with hits:=(Wa 16 htF x.2).1},(Wa 16 htF x.2).2)
def XH (p:List UInt8):NA×RZ:=(xd (zU 255 ⟨V8 p,true⟩).1.toNat).foldl Ys ({NA.zero with kind:=(zU 255 ⟨V8 p,true⟩).1},(zU 255 ⟨V8 p,true⟩).2)
def KG (p:List UInt8):Int:=if JD p≠0 then JD p else if ZM p≠[] then 4 else if (XH p).2.ok=true∧(XH p).2.bs=[]∧qn (XH p).1=true then 0 else 4
def jBT (p:List UInt8):NA:=if KG p=0 then (XH p).1 else NA.zero
theorem zZ {z:Int}(rest:List UInt8)(h0:0≤z)(h1:z≤18446744073709551615):ye ⟨numI z++rest,true⟩=(z,⟨rest,true⟩):=by
 unfold ye;dsimp only;rw[Vs rest h0 h1 zo,jb ⟨rfl,rfl⟩];dsimp only;rw[kF,Int.toNat_of_nonneg h0]
theorem Vw {z:Int}{m:Nat}(rest:List UInt8)(h0:0≤z)(h1:z≤m)(h2:z≤18446744073709551615):zU m ⟨numI z++rest,true⟩=(z,⟨rest,true⟩):=by
 unfold zU;rw[zZ rest h0 h2,ja (by dsimp only;omega)]
theorem m9 {v:List Int}(rest:List UInt8)(h:vOK v):XA ⟨wh v++rest,true⟩=(v,⟨rest,true⟩):=by
 have hf:=(QK (most:=8) zd).fwd v rest true h;rw[jDR] at hf;dsimp only at hf;rw[ja zd] at hf;unfold XA;dsimp only;generalize K3 (wh v++rest)=x at hf;obtain ⟨a,b,c⟩:=x;dsimp only at hf ⊢
 by_cases hc:c=0
 ·rw[ja (by simp[hc])] at hf
  rw[jb ⟨hc,rfl⟩];have h1:=jj Prod.fst hf;have h2:=jj (λz=>z.2.bs) hf;dsimp only at h1 h2;rw[h1,h2]
 ·rw[jb hc] at hf
  have h2:=jj (λz=>z.2.bad) hf;dsimp only at h2;exact absurd h2 hc
theorem jCl {α:Type}{e:α→List UInt8}{d:RZ→α×RZ}{ok:α→Prop}(h:∀x rest,ok x→d ⟨e x++rest,true⟩=(x,⟨rest,true⟩))(rest:List UInt8):∀(xs acc:List α),(∀x∈xs,ok x)→gW d xs.length (⟨xs.flatMap e++rest,true⟩,acc)=(⟨rest,true⟩,acc++xs)
 | [],acc,_=>by simp[gW]
 |x::xs,acc,hx=>by
  rw[jC,Qk,jK,ju];dsimp only;rw[h x _ (hx x kg)];dsimp only;rw[jCl h rest xs _ λy hy=>hx y (jV _ hy),ju];rfl
theorem dR {α:Type}{e:α→List UInt8}{d:RZ→α×RZ}{ok:α→Prop}(h:∀x rest,ok x→d ⟨e x++rest,true⟩=(x,⟨rest,true⟩))(rest:List UInt8){m:Nat}(hm:m≤1000000){xs:List α}(hl:xs.length≤m)(hx:∀x∈xs,ok x):Wa m d ⟨wL e xs++rest,true⟩=(xs,⟨rest,true⟩):=by
 unfold Wa wL;rw[ju,Vw _ (kQ _) zo zo];dsimp only;rw[kz,jCl h rest xs [] hx,kO]
theorem jF6 (o:Int×List Int)(rest:List UInt8)(h:YL o):opF ⟨xH o++rest,true⟩=(o,⟨rest,true⟩):=by
 unfold opF xH;rw[ju,zZ _ h.1.1 (by have:=h.1.2;omega)];dsimp only;rw[m9 rest h.2]
theorem jGf (o:Int×Int×List Int)(rest:List UInt8)(h:Qn o):htF ⟨xU o++rest,true⟩=(o,⟨rest,true⟩):=by
 unfold htF xU;rw[ju,ju,zZ _ h.1.1 (by have:=h.1.2;omega)];dsimp only;rw[zZ _ h.2.1.1 (by have:=h.2.1.2;omega)];dsimp only;rw[m9 rest h.2.2]
structure okZ (n:NA):Prop where
 txn:0≤n.txn∧n.txn≤18446744073709551615
 batch:0≤n.batch∧n.batch≤18446744073709551615
 stamp:0≤n.stamp∧n.stamp≤18446744073709551615
 after:0≤n.after∧n.after≤18446744073709551615
 mark:0≤n.mark∧n.mark≤18446744073709551615
 query:0≤n.query∧n.query≤18446744073709551615
 id:0≤n.id∧n.id≤18446744073709551615
 k:0≤n.k∧n.k≤16
 ef:0≤n.ef∧n.ef≤256
 code:0≤n.code∧n.code≤13
 who:0≤n.who∧n.who≤15
 parts:n.parts.length≤4∧∀x∈n.parts,0≤x∧x≤15
 ops:n.ops.length≤16∧∀o∈n.ops,YL o
 vec:vOK n.vec
 hits:n.hits.length≤16∧∀h∈n.hits,Qn h
def J8 (n x:NA)(f:UInt8):NA:=
 if f=116 then {x with txn:=n.txn} else if f=98 then {x with batch:=n.batch} else if f=115 then {x with stamp:=n.stamp} else if f=97 then {x with after:=n.after} else if f=109 then {x with mark:=n.mark} else if f=113 then {x with query:=n.query} else if f=105 then {x with id:=n.id} else if f=107 then {x with k:=n.k} else if f=101 then {x with ef:=n.ef} else if f=99 then {x with code:=n.code} else if f=119 then {x with who:=n.who} else if f=112 then {x with parts:=n.parts} else if f=111 then {x with ops:=n.ops} else if f=118 then {x with vec:=n.vec} else {x with hits:=n.hits}
theorem jDZ {n:NA}(h:okZ n)(x:NA)(f:UInt8)(rest:List UInt8):Ys (x,⟨XK n f++rest,true⟩) f=(J8 n x f,⟨rest,true⟩):=by
 unfold Ys XK J8
 by_cases h0:f=116
 ·simp only[jb h0]
  rw[zZ rest h.txn.1 h.txn.2]
 simp only[ja h0]
 by_cases h1:f=98
 ·simp only[jb h1]
  rw[zZ rest h.batch.1 h.batch.2]
 simp only[ja h1]
 by_cases h2:f=115
 ·simp only[jb h2]
  rw[zZ rest h.stamp.1 h.stamp.2]
 simp only[ja h2]
 by_cases h3:f=97
 ·simp only[jb h3]
  rw[zZ rest h.after.1 h.after.2]
 simp only[ja h3]
 by_cases h4:f=109
 ·simp only[jb h4]
  rw[zZ rest h.mark.1 h.mark.2]
 simp only[ja h4]
 by_cases h5:f=113
 ·simp only[jb h5]
  rw[zZ rest h.query.1 h.query.2]
 simp only[ja h5]
 by_cases h6:f=105
 ·simp only[jb h6]
  rw[zZ rest h.id.1 h.id.2]
 simp only[ja h6]
 by_cases h7:f=107
 ·simp only[jb h7]
  rw[Vw rest h.k.1 (by have:=h.k.2;omega) (by have:=h.k.2;omega)]
 simp only[ja h7]
 by_cases h8:f=101
 ·simp only[jb h8]
  rw[Vw rest h.ef.1 (by have:=h.ef.2;omega) (by have:=h.ef.2;omega)]
 simp only[ja h8]
 by_cases h9:f=99
 ·simp only[jb h9]
  rw[Vw rest h.code.1 (by have:=h.code.2;omega) (by have:=h.code.2;omega)]
 simp only[ja h9]
 by_cases h10:f=119
 ·simp only[jb h10]
  rw[Vw rest h.who.1 (by have:=h.who.2;omega) (by have:=h.who.2;omega)]
 simp only[ja h10]
 by_cases h11:f=112
 ·simp only[jb h11]
  rw[dR (ok:=λx:Int=>0≤x∧x≤15) (λx rest hx=>Vw rest hx.1 (by have:=hx.2;omega) (by have:=hx.2;omega)) rest zd h.parts.1 h.parts.2]
 simp only[ja h11]
 by_cases h12:f=111
 ·simp only[jb h12]
  rw[dR (ok:=YL) jF6 rest zd h.ops.1 h.ops.2]
 simp only[ja h12]
 by_cases h13:f=118
 ·simp only[jb h13]
  rw[m9 rest h.vec]
 simp only[ja h13];rw[dR (ok:=Qn) jGf rest zd h.hits.1 h.hits.2]
theorem sk {n:NA}(h:okZ n)(rest:List UInt8):∀(l:List UInt8) (x:NA),l.foldl Ys (x,⟨l.flatMap (XK n)++rest,true⟩)=(l.foldl (J8 n) x,⟨rest,true⟩)
 | [],x=>rfl
 |f::l,x=>by
  rw[jK,ju,List.foldl_cons,jDZ h,sk h rest l,List.foldl_cons]
theorem WJ {α β:Type}(p:α→Bool)(g:β→α→β):∀(l:List α) (x:β),(l.filter p).foldl g x=l.foldl (λx c=>if p c=true then g x c else x) x
 | [],x=>rfl
 |c::l,x=>by
  rw[kI,List.foldl_cons]
  split
  ·next h=>rw[List.foldl_cons,WJ p g l]
  ·next h=>rw[WJ p g l]
theorem jHl (n:NA)(b:Bool)(x0 x1 x2 x3 x4 x5 x6 x7 x8 x9 x10 x11:Int)(x12:List Int)(x13:VL)(x14:List Int)(x15:List (Int×Int×List Int)):(if b=true then J8 n ⟨x0,x1,x2,x3,x4,x5,x6,x7,x8,x9,x10,x11,x12,x13,x14,x15⟩ 116 else ⟨x0,x1,x2,x3,x4,x5,x6,x7,x8,x9,x10,x11,x12,x13,x14,x15⟩)=⟨x0,if b=true then n.txn else x1,x2,x3,x4,x5,x6,x7,x8,x9,x10,x11,x12,x13,x14,x15⟩:=by cases b<;>rfl
theorem jHk (n:NA)(b:Bool)(x0 x1 x2 x3 x4 x5 x6 x7 x8 x9 x10 x11:Int)(x12:List Int)(x13:VL)(x14:List Int)(x15:List (Int×Int×List Int)):(if b=true then J8 n ⟨x0,x1,x2,x3,x4,x5,x6,x7,x8,x9,x10,x11,x12,x13,x14,x15⟩ 98 else ⟨x0,x1,x2,x3,x4,x5,x6,x7,x8,x9,x10,x11,x12,x13,x14,x15⟩)=⟨x0,x1,if b=true then n.batch else x2,x3,x4,x5,x6,x7,x8,x9,x10,x11,x12,x13,x14,x15⟩:=by cases b<;>rfl
theorem jHj (n:NA)(b:Bool)(x0 x1 x2 x3 x4 x5 x6 x7 x8 x9 x10 x11:Int)(x12:List Int)(x13:VL)(x14:List Int)(x15:List (Int×Int×List Int)):(if b=true then J8 n ⟨x0,x1,x2,x3,x4,x5,x6,x7,x8,x9,x10,x11,x12,x13,x14,x15⟩ 115 else ⟨x0,x1,x2,x3,x4,x5,x6,x7,x8,x9,x10,x11,x12,x13,x14,x15⟩)=⟨x0,x1,x2,if b=true then n.stamp else x3,x4,x5,x6,x7,x8,x9,x10,x11,x12,x13,x14,x15⟩:=by cases b<;>rfl
theorem jHi (n:NA)(b:Bool)(x0 x1 x2 x3 x4 x5 x6 x7 x8 x9 x10 x11:Int)(x12:List Int)(x13:VL)(x14:List Int)(x15:List (Int×Int×List Int)):(if b=true then J8 n ⟨x0,x1,x2,x3,x4,x5,x6,x7,x8,x9,x10,x11,x12,x13,x14,x15⟩ 97 else ⟨x0,x1,x2,x3,x4,x5,x6,x7,x8,x9,x10,x11,x12,x13,x14,x15⟩)=⟨x0,x1,x2,x3,if b=true then n.after else x4,x5,x6,x7,x8,x9,x10,x11,x12,x13,x14,x15⟩:=by cases b<;>rfl
theorem jHh (n:NA)(b:Bool)(x0 x1 x2 x3 x4 x5 x6 x7 x8 x9 x10 x11:Int)(x12:List Int)(x13:VL)(x14:List Int)(x15:List (Int×Int×List Int)):(if b=true then J8 n ⟨x0,x1,x2,x3,x4,x5,x6,x7,x8,x9,x10,x11,x12,x13,x14,x15⟩ 109 else ⟨x0,x1,x2,x3,x4,x5,x6,x7,x8,x9,x10,x11,x12,x13,x14,x15⟩)=⟨x0,x1,x2,x3,x4,if b=true then n.mark else x5,x6,x7,x8,x9,x10,x11,x12,x13,x14,x15⟩:=by cases b<;>rfl
theorem jHg (n:NA)(b:Bool)(x0 x1 x2 x3 x4 x5 x6 x7 x8 x9 x10 x11:Int)(x12:List Int)(x13:VL)(x14:List Int)(x15:List (Int×Int×List Int)):(if b=true then J8 n ⟨x0,x1,x2,x3,x4,x5,x6,x7,x8,x9,x10,x11,x12,x13,x14,x15⟩ 113 else ⟨x0,x1,x2,x3,x4,x5,x6,x7,x8,x9,x10,x11,x12,x13,x14,x15⟩)=⟨x0,x1,x2,x3,x4,x5,if b=true then n.query else x6,x7,x8,x9,x10,x11,x12,x13,x14,x15⟩:=by cases b<;>rfl
theorem jHf (n:NA)(b:Bool)(x0 x1 x2 x3 x4 x5 x6 x7 x8 x9 x10 x11:Int)(x12:List Int)(x13:VL)(x14:List Int)(x15:List (Int×Int×List Int)):(if b=true then J8 n ⟨x0,x1,x2,x3,x4,x5,x6,x7,x8,x9,x10,x11,x12,x13,x14,x15⟩ 105 else ⟨x0,x1,x2,x3,x4,x5,x6,x7,x8,x9,x10,x11,x12,x13,x14,x15⟩)=⟨x0,x1,x2,x3,x4,x5,x6,if b=true then n.id else x7,x8,x9,x10,x11,x12,x13,x14,x15⟩:=by cases b<;>rfl
theorem jHe (n:NA)(b:Bool)(x0 x1 x2 x3 x4 x5 x6 x7 x8 x9 x10 x11:Int)(x12:List Int)(x13:VL)(x14:List Int)(x15:List (Int×Int×List Int)):(if b=true then J8 n ⟨x0,x1,x2,x3,x4,x5,x6,x7,x8,x9,x10,x11,x12,x13,x14,x15⟩ 107 else ⟨x0,x1,x2,x3,x4,x5,x6,x7,x8,x9,x10,x11,x12,x13,x14,x15⟩)=⟨x0,x1,x2,x3,x4,x5,x6,x7,if b=true then n.k else x8,x9,x10,x11,x12,x13,x14,x15⟩:=by cases b<;>rfl
theorem jHd (n:NA)(b:Bool)(x0 x1 x2 x3 x4 x5 x6 x7 x8 x9 x10 x11:Int)(x12:List Int)(x13:VL)(x14:List Int)(x15:List (Int×Int×List Int)):(if b=true then J8 n ⟨x0,x1,x2,x3,x4,x5,x6,x7,x8,x9,x10,x11,x12,x13,x14,x15⟩ 101 else ⟨x0,x1,x2,x3,x4,x5,x6,x7,x8,x9,x10,x11,x12,x13,x14,x15⟩)=⟨x0,x1,x2,x3,x4,x5,x6,x7,x8,if b=true then n.ef else x9,x10,x11,x12,x13,x14,x15⟩:=by cases b<;>rfl
theorem jHc (n:NA)(b:Bool)(x0 x1 x2 x3 x4 x5 x6 x7 x8 x9 x10 x11:Int)(x12:List Int)(x13:VL)(x14:List Int)(x15:List (Int×Int×List Int)):(if b=true then J8 n ⟨x0,x1,x2,x3,x4,x5,x6,x7,x8,x9,x10,x11,x12,x13,x14,x15⟩ 99 else ⟨x0,x1,x2,x3,x4,x5,x6,x7,x8,x9,x10,x11,x12,x13,x14,x15⟩)=⟨x0,x1,x2,x3,x4,x5,x6,x7,x8,x9,if b=true then n.code else x10,x11,x12,x13,x14,x15⟩:=by cases b<;>rfl
theorem jFZ (n:NA)(b:Bool)(x0 x1 x2 x3 x4 x5 x6 x7 x8 x9 x10 x11:Int)(x12:List Int)(x13:VL)(x14:List Int)(x15:List (Int×Int×List Int)):(if b=true then J8 n ⟨x0,x1,x2,x3,x4,x5,x6,x7,x8,x9,x10,x11,x12,x13,x14,x15⟩ 119 else ⟨x0,x1,x2,x3,x4,x5,x6,x7,x8,x9,x10,x11,x12,x13,x14,x15⟩)=⟨x0,x1,x2,x3,x4,x5,x6,x7,x8,x9,x10,if b=true then n.who else x11,x12,x13,x14,x15⟩:=by cases b<;>rfl
theorem jFY (n:NA)(b:Bool)(x0 x1 x2 x3 x4 x5 x6 x7 x8 x9 x10 x11:Int)(x12:List Int)(x13:VL)(x14:List Int)(x15:List (Int×Int×List Int)):(if b=true then J8 n ⟨x0,x1,x2,x3,x4,x5,x6,x7,x8,x9,x10,x11,x12,x13,x14,x15⟩ 112 else ⟨x0,x1,x2,x3,x4,x5,x6,x7,x8,x9,x10,x11,x12,x13,x14,x15⟩)=⟨x0,x1,x2,x3,x4,x5,x6,x7,x8,x9,x10,x11,if b=true then n.parts else x12,x13,x14,x15⟩:=by cases b<;>rfl
theorem jFX (n:NA)(b:Bool)(x0 x1 x2 x3 x4 x5 x6 x7 x8 x9 x10 x11:Int)(x12:List Int)(x13:VL)(x14:List Int)(x15:List (Int×Int×List Int)):(if b=true then J8 n ⟨x0,x1,x2,x3,x4,x5,x6,x7,x8,x9,x10,x11,x12,x13,x14,x15⟩ 111 else ⟨x0,x1,x2,x3,x4,x5,x6,x7,x8,x9,x10,x11,x12,x13,x14,x15⟩)=⟨x0,x1,x2,x3,x4,x5,x6,x7,x8,x9,x10,x11,x12,if b=true then n.ops else x13,x14,x15⟩:=by cases b<;>rfl
theorem jFW (n:NA)(b:Bool)(x0 x1 x2 x3 x4 x5 x6 x7 x8 x9 x10 x11:Int)(x12:List Int)(x13:VL)(x14:List Int)(x15:List (Int×Int×List Int)):(if b=true then J8 n ⟨x0,x1,x2,x3,x4,x5,x6,x7,x8,x9,x10,x11,x12,x13,x14,x15⟩ 118 else ⟨x0,x1,x2,x3,x4,x5,x6,x7,x8,x9,x10,x11,x12,x13,x14,x15⟩)=⟨x0,x1,x2,x3,x4,x5,x6,x7,x8,x9,x10,x11,x12,x13,if b=true then n.vec else x14,x15⟩:=by cases b<;>rfl
theorem jFV (n:NA)(b:Bool)(x0 x1 x2 x3 x4 x5 x6 x7 x8 x9 x10 x11:Int)(x12:List Int)(x13:VL)(x14:List Int)(x15:List (Int×Int×List Int)):(if b=true then J8 n ⟨x0,x1,x2,x3,x4,x5,x6,x7,x8,x9,x10,x11,x12,x13,x14,x15⟩ 104 else ⟨x0,x1,x2,x3,x4,x5,x6,x7,x8,x9,x10,x11,x12,x13,x14,x15⟩)=⟨x0,x1,x2,x3,x4,x5,x6,x7,x8,x9,x10,x11,x12,x13,x14,if b=true then n.hits else x15⟩:=by cases b<;>rfl
theorem jBO (n:NA)(k:Nat):(xd k).foldl (J8 n) {NA.zero with kind:=n.kind}=⟨n.kind,if vn k 116=true then n.txn else 0,if vn k 98=true then n.batch else 0,if vn k 115=true then n.stamp else 0,if vn k 97=true then n.after else 0,if vn k 109=true then n.mark else 0,if vn k 113=true then n.query else 0,if vn k 105=true then n.id else 0,if vn k 107=true then n.k else 0,if vn k 101=true then n.ef else 0,if vn k 99=true then n.code else 0,if vn k 119=true then n.who else 0,if vn k 112=true then n.parts else [],if vn k 111=true then n.ops else [],if vn k 118=true then n.vec else [],if vn k 104=true then n.hits else []⟩:=by
 rw[Wd,WJ];unfold abc;simp only[List.foldl_cons,List.foldl_nil,jHl,jHk,jHj,jHi,jHh,jHg,jHf,jHe,jHd,jHc,jFZ,jFY,jFX,jFW,jFV]
theorem Jj {α:Type}{b:Bool}{x y:α}{p:Prop}(h:if b=true then p else x=y):(if b=true then x else y)=x:=by
 cases b with
 |true=>rfl
 |false=>exact h.symm
theorem Wy {n:NA}(h:qn n=true)(u:wg n):okZ n:=by
 have hO:=xO h u;have hR:=h;unfold qn at hR;simp only[jF,jS] at hR;obtain ⟨⟨hk,hb⟩,hB⟩:=hR;unfold vV at hB;simp only[jF,kL,Bool.or_eq_false_iff,j5] at hB;obtain ⟨⟨⟨⟨⟨⟨⟨⟨⟨⟨c1,c2⟩,c3⟩,c4⟩,c5⟩,c6⟩,c7⟩,⟨⟨⟨d1,d2⟩,d3⟩,d4⟩⟩,e1⟩,e2⟩,e3⟩:=hB;have hu:=u.a;obtain ⟨b1,b2,b3,b4,b5⟩:=hO.b;refine ⟨hu.txn,hu.batch,hu.stamp,hu.after,hu.mark,hu.query,hu.id,by omega,by omega,by omega,by omega,⟨by omega,λx hx=> ?_⟩,⟨by omega,λo ho=> ?_⟩,Wl (by simpa using d4),⟨by omega,λo ho=> ?_⟩⟩
 ·unfold vX at e1
  rw[List.all_eq_true] at e1;obtain ⟨i,hi,rfl⟩:=List.mem_iff_getElem.1 hx;have:=e1 i (List.mem_range.2 hi);unfold dE at this;simp only[jF,jS] at this;have h2:=this.1;rw[j8,jY hi] at h2;dsimp only[Option.getD_some] at h2;omega
 ·rw[List.any_eq_false] at e2
  have h2:=e2 o ho;unfold xv at h2;simp only[kU,jS,kL,not_or] at h2;have h0:=u.o o ho;exact ⟨⟨h0,by omega⟩,Wl (by simpa using h2.2)⟩
 ·rw[List.any_eq_false] at e3
  have h2:=e3 o ho;unfold yd at h2;simp only[kU,jS,kL,not_or] at h2;have h0:=u.h o ho;exact ⟨⟨h0.1,by omega⟩,⟨h0.2.1,by have:=h0.2.2;omega⟩,Wz (by simpa using h2.2)⟩
theorem jD2 {n:NA}(h:OKn n):(xd n.kind.toNat).foldl (J8 n) {NA.zero with kind:=n.kind}=n:=by
 rw[jBO];obtain ⟨b1,b2,b3,b4,b5⟩:=h.b;have q0:qC n.kind.toNat 0=vn n.kind.toNat 116:=vf _ 0 zd;have q1:qC n.kind.toNat 1=vn n.kind.toNat 98:=vf _ 1 zd;have q2:qC n.kind.toNat 2=vn n.kind.toNat 115:=vf _ 2 zd;have q3:qC n.kind.toNat 3=vn n.kind.toNat 97:=vf _ 3 zd;have q4:qC n.kind.toNat 4=vn n.kind.toNat 109:=vf _ 4 zd;have q5:qC n.kind.toNat 5=vn n.kind.toNat 113:=vf _ 5 zd;have q6:qC n.kind.toNat 6=vn n.kind.toNat 105:=vf _ 6 zd;have q7:qC n.kind.toNat 7=vn n.kind.toNat 107:=vf _ 7 zd;have q8:qC n.kind.toNat 8=vn n.kind.toNat 101:=vf _ 8 zd;have q9:qC n.kind.toNat 9=vn n.kind.toNat 99:=vf _ 9 zd;have q10:qC n.kind.toNat 10=vn n.kind.toNat 119:=vf _ 10 zd;have q11:qC n.kind.toNat 11=vn n.kind.toNat 112:=vf _ 11 zd;have q12:qC n.kind.toNat 12=vn n.kind.toNat 111:=vf _ 12 zd;have q13:qC n.kind.toNat 13=vn n.kind.toNat 118:=vf _ 13 zd;have q14:qC n.kind.toNat 14=vn n.kind.toNat 104:=vf _ 14 zd;obtain ⟨k0,k1,k2,k3,k4,k5,k6,k7,k8,k9,k10,_⟩:V9 [(qC n.kind.toNat 0,18446744073709551615),(qC n.kind.toNat 1,18446744073709551615),(qC n.kind.toNat 2,1099511627776),(qC n.kind.toNat 3,1099511627776),(qC n.kind.toNat 4,1099511627776),(qC n.kind.toNat 5,18446744073709551615),(qC n.kind.toNat 6,1099511627776),(qC n.kind.toNat 7,16),(qC n.kind.toNat 8,256),(qC n.kind.toNat 9,13),(qC n.kind.toNat 10,16)] [n.txn,n.batch,n.stamp,n.after,n.mark,n.query,n.id,n.k,n.ef,n.code,n.who]:=b1;dsimp only at k0;rw[q0] at k0;dsimp only at k1;rw[q1] at k1;dsimp only at k2;rw[q2] at k2;dsimp only at k3;rw[q3] at k3;dsimp only at k4;rw[q4] at k4;dsimp only at k5;rw[q5] at k5;dsimp only at k6;rw[q6] at k6;dsimp only at k7;rw[q7] at k7;dsimp only at k8;rw[q8] at k8;dsimp only at k9;rw[q9] at k9;dsimp only at k10;rw[q10] at k10
 rw[q11] at b2;rw[q12] at b3;rw[q13] at b4;rw[q14] at b5;rw[Jj k0,Jj k1,Jj k2,Jj k3,Jj k4,Jj k5,Jj k6,Jj k7,Jj k8,Jj k9,Jj k10];rw[Jj (x:=n.parts) (y:=[]) b2];rw[Jj (x:=n.ops) (y:=[]) b3];rw[Jj (x:=n.vec) (y:=[]) b4];rw[Jj (x:=n.hits) (y:=[]) b5]
theorem rM {n:NA}(h:qn n=true)(u:wg n):XH (qz n)=(n,⟨[],true⟩):=by
 have hO:=xO h u;have hx:=gM (yi n) [] (Jl hO u);rw[jG] at hx;have hk:=hO.k;unfold XH qz;rw[hx.2.1,Qq,←jG ((xd n.kind.toNat).flatMap (XK n)),Vw _ hk.1 hk.2 zo];dsimp only;rw[sk (Wy h u),jD2 hO]
theorem YD {n:NA}(h:qn n=true)(u:wg n):KG (qz n)=0∧jBT (qz n)=n:=by
 have hO:=xO h u;have hx:=gM (yi n) [] (Jl hO u);rw[jG] at hx;have hC:KG (qz n)=0:=by
  unfold KG;rw[rM h u];unfold qz;rw[hx.1,hx.2.2.1,ja zd,ja (by simp),jb ⟨rfl,rfl,h⟩]
 refine ⟨hC,?_⟩;unfold jBT;rw[jb hC,rM h u]
attribute [local irreducible] swp qq qL qJ vZ qh St qi qk vu qH
abbrev TV.val (t:TV):Value:=.agg t.cells.toArray
abbrev slB (a:OA)(c:Nat)(bs:List UInt8):HP:=slO 5 1 a bs.length c (bs.map B)
section
variable {n : Nat} {ops rest : List Oper} {Q : vm} {f : vL} {L : HL} {d : Tmp} {ty : TypeId} {pos : String} {af : Array Edge}
theorem S.appB {x y:Operand}{t tx:TypeId}{a a2:OA}{c c2:Nat}{X Y:List UInt8}{L':HP→HL}[h:wS kY t 5][h2:wS kY tx 5][hu:K2 a L 5 1 X.length c (X.map B) L'](hx:ev f x=some (.slice a X.length c))(hy:ev f y=some (.slice a2 Y.length c2))(hr:qY L a2 Y.length 1 (Y.map B))(hl:X.length+Y.length≤100000000000000)
  (hk:∀a' c',qq kY n ops rest Q (upd f d (.slice a' (X++Y).length c')) (L' (slB a' c' (X++Y)))):
  qq kY n ops (⟨some d,.call ⟨.builtin .append,#[x,y],#[t,tx]⟩,ty,pos,af,none⟩::rest) Q f L:=by
 refine S.app hx hy (vG.rd hr (JR _)) zr zo zo (λa' c'=> ?_);have:=hk a' c';unfold slB at this;rw[jc,jq] at this;exact this
end
theorem jCf {z:Int}(h:128≤z):numI z=UInt8.ofNat (z % 128+128).toNat::numI (z / 128):=by
 obtain ⟨m,rfl⟩:∃m:Nat,z=(m:Int):=⟨z.toNat,by omega⟩;rw[rU (m:=m) zo];have e1:((m:Int) % 128+128).toNat=m % 128+128:=by omega
 have e2:((m:Int) / 128)=((m / 2^7:Nat):Int):=by omega
 rw[e1,e2]
theorem jG8 {r:Int}(h:0≤r∧r<128):IntKind.u8.wrap (IntKind.u8.wrap r+128)=((UInt8.ofNat (r+128).toNat).toNat:Int):=by
 rw[u8w,u8w,UInt8.toNat_ofNat'];omega
theorem jAR :∀(k:Nat) (z:Int) (L:HL),0≤z→z.toNat≤k→z≤18446744073709551615→
  qh kY 103 [.int .u64 z] L (λr L'=>∃a c,r=.slice a (numI z).length c∧L'=slB a c (numI z)::L):=by
 have low:∀(z:Int) (L:HL),0≤z→z<128→qh kY 103 [.int .u64 z] L (λr L'=>∃a c,r=.slice a (numI z).length c∧L'=slB a c (numI z)::L):=by
  intro z L h0 hlt;refine qg Tryz.func103 rfl rfl rfl ?_;refine Q.r ?_;refine S.y (Y.cvi rfl) ?_;rw[jG7];refine Q.r ?_;(repeat (intro b1;refine Q.r ?_));rw[rT hlt];refine N.t rfl ?_ ⟨some ⟨b1,0,none⟩,1,rfl,rfl⟩;exact vg (sz:=1) (m:=1) rfl
 intro k
 induction k with
 |zero=>exact λz L h0 hk hz=>low z L h0 zo
 |succ k ih=>
  intro z L h0 hk hz
  by_cases hlt:z<128
  ·exact low z L h0 hlt
  ·have hq:=jCf (z:=z) zo
   refine qg Tryz.func103 rfl rfl rfl ?_;refine Q.r ?_;refine S.y (Y.rem rfl rfl zd) ?_;rw[Int.tmod_eq_emod_of_nonneg h0];refine Q.r ?_;refine S.y (Y.cvi rfl) ?_;refine Q.r ?_;refine S.y (Y.add rfl rfl) ?_;rw[jG8 zo];refine Q.r ?_;(repeat (intro b1;refine Q.r ?_));refine qo (vg (sz:=1) (m:=1) rfl) ?_;refine S.y (Y.quo rfl rfl zd) ?_;rw[Int.tdiv_eq_ediv_of_nonneg h0,wrap_u64 zo zo];refine Q.r ?_;refine S.cr rfl (ih (z / 128) _ zo zo zo) ?_;rintro _ _ ⟨a,c,rfl,rfl⟩;have hnl:=qr (z:=z / 128) zo;refine Q.r ?_;refine qZ a (λha=> ?_);refine S.appB (X:=[UInt8.ofNat (z % 128+128).toNat]) (Y:=numI (z / 128)) rfl rfl (qY.own ha (by rw[jf,jX])) (by simp only[jC,j7];omega) (λa' c'=> ?_);refine Q.r ?_;rw[hq];refine N.t rfl ?_ ⟨a',c',rfl,rfl⟩;exact eG
theorem Jw (z:Int)(L:HL)(h0:0≤z)(hz:z≤18446744073709551615):
  qh kY 103 [.int .u64 z] L (λr L'=>∃a c,r=.slice a (numI z).length c∧L'=slB a c (numI z)::L):=jAR z.toNat z L h0 (jz _) hz
end Go.Proofs.YtlnfjhiphlfkjaaGreatDoor
namespace Go.Proofs.YtlnfjhiphlfkjaaGreatDoor
open Go Go.SX
theorem YU {st:VS}{t a:Int}{ops:VL}(h:zy st t a ops=0):vP st.dim ops=0:=by
 unfold zy at h
 split at h
 ·cases h
 split at h
 ·rename_i h1
  exact absurd h h1
 ·rename_i h1
  exact Decidable.not_not.1 h1
theorem gY {st:VS}{t a:Int}{ops:VL}(h:zy st t a ops=0):xI st t a ops={st with its:=st.its++[(t,a,ops)]}:=by unfold xI;rw[jb h]
abbrev itA (i:IR):Int×Int×VL:=(i.1,i.2.1,i.2.2.2)
abbrev ptA (i:IR):Int×List Int:=(i.1,i.2.2.1)
structure OKJ (dim m:Int)(E:List (Int×VL))(I:List IR)(D:List (Int×Int)):Prop where
 hm:0≤m∧m≤(1099511627776:Nat)
 hE:E.length≤1048576∧∀e∈E,jIA e
 hI:I.length≤1048576∧∀i∈I,jIz 4 15 16 i
 hD:D.length≤1048576∧∀d∈D,jIB d∧d.2≠0
 rE:Jn (E.map (·.1))
 rI:Jn (I.map (·.1))
 rD:Jn (D.map (·.1))
 ld:jFn (VS0 dim) m E=0
 fo:jFu dim I ⟨jHA (VS0 dim) m E,[],[]⟩=some ⟨⟨dim,E,I.map itA,m⟩,I.map ptA,[]⟩
structure JPX (j:JS):Prop where
 g:GS j.v
 it:∀i∈j.v.its,(0≤i.1∧i.1≤18446744073709551615)∧(0≤i.2.1∧i.2.1≤1099511627776)∧vP j.v.dim i.2.2=0∧∀o∈i.2.2,0≤o.1
 ch:∀c∈j.v.ch,0≤c.1
 pt:∀u∈j.parts,u.2.length≤4∧vX u.2=true
 dn:∀d∈j.done,(0≤d.1∧d.1≤18446744073709551615)∧0<d.2∧d.2≤1099511627776
 pk:∀t,(qE j.parts t).isSome=(qE j.v.its t).isSome
theorem JPX.zero (dim:Int):JPX ⟨⟨dim,[],[],0⟩,[],[]⟩:=⟨⟨λ_ h=>(by cases h),λ_ h=>(by cases h),(show (0:Int)≤_ by decide)⟩,λ_ h=>(by cases h),λ_ h=>(by cases h),λ_ h=>(by cases h),λ_ h=>(by cases h),λ_=>rfl⟩
theorem jAB {dim:Int}{ops:VL}(h:vP dim ops=0):0<ops.length∧ops.length≤16∧(ops.map (·.1)).Nodup∧∀o∈ops,o.1≤1099511627776∧(0<o.2.length→wQ o.2=true∧(o.2.length:Int)=dim):=by
 unfold vP at h
 by_cases g1:dim<1∨8<dim
 ·rw[jb g1] at h;cases h
 rw[ja g1] at h
 by_cases g2:ops.length=0
 ·rw[jb g2] at h;cases h
 rw[ja g2] at h
 by_cases g3:16<ops.length
 ·rw[jb g3] at h;cases h
 rw[ja g3] at h
 by_cases g4:ops.any (Jm dim)=true
 ·rw[jb g4] at h;cases h
 rw[ja g4] at h
 by_cases g5:(ops.map (·.1)).Nodup
 ·refine ⟨by omega,by omega,g5,λo ho=> ?_⟩
  have g6:=List.any_eq_false.1 (by simpa using g4) o ho;unfold Jm at g6;simp only[kU,jF,jS,kL,not_or,not_and] at g6;refine ⟨by omega,λhl=> ?_⟩;have g7:=g6.2 hl;exact ⟨by simpa using g7.1,by have:=g7.2;omega⟩
 ·rw[ja g5] at h;cases h
theorem n5 {st:VS}{t a:Int}{ops:VL}(h:zy st t a ops=0):a≤1099511627776∧qE st.its t=none∧∀o∈ops,∀i∈st.its,yx i.2.2 o.1=false:=by
 unfold zy at h
 by_cases h1:1099511627776<a
 ·rw[jb h1] at h;cases h
 rw[ja h1] at h
 by_cases h2:vP st.dim ops≠0
 ·rw[jb h2] at h;exact absurd h h2
 rw[ja h2] at h
 cases hz:qE st.its t with
 |some w=>rw[hz] at h;cases h
 |none=>
  rw[hz] at h;rw[ja zd] at h
  by_cases h3:(ops.any λo=>st.its.any λi=>yx i.2.2 o.1)=true
  ·rw[jb h3] at h;cases h
  ·refine ⟨by omega,rfl,λo ho i hi=> ?_⟩
   have h4:=List.any_eq_false.1 ((Bool.not_eq_true _).mp h3) o ho;have h5:=List.any_eq_false.1 ((Bool.not_eq_true _).mp h4) i hi;exact (Bool.not_eq_true _).mp h5
theorem GS.lock {st:VS}(h:GS st){t a:Int}{ops:VL}(hE:zy st t a ops=0):GS (xI st t a ops):=by
 rw[gY hE];refine ⟨h.c,λi hi=> ?_,h.m⟩
 rcases jy.1 hi with hi|hi
 ·exact h.i i hi
 ·rw[ji.1 hi]
  exact (jAB (YU hE)).2.2.2
theorem jDo {st:VS}{t s:Int}(hE:yy st t s=0):∃i,qE st.its t=some i∧xf st t s={st with ch:=yz s st.ch i.2,its:=qO st.its t}∧0≠s∧s≤1099511627776:=by
 unfold yy at hE;unfold xf yy
 cases hz:qE st.its t with
 |none=>rw[hz] at hE;dsimp only at hE;split at hE<;>cases hE
 |some i=>
  rw[hz] at hE;dsimp only at hE ⊢
  by_cases h1:s=0∨1099511627776<s∨s≤i.1
  ·rw[jb h1] at hE;cases hE
  ·exact ⟨i,rfl,by rw[jb hE],λe=>h1 (.inl e.symm),by omega⟩
theorem Wb {κ α:Type}[DecidableEq κ](m:List (κ×α))(x y:κ):qE (qO m x) y=if y=x then none else qE m y:=by
 by_cases h:y=x
 ·rw[jb h]
  subst h;exact wX λu hu e=>by
   have:=(jB.1 hu).2
   simp[e] at this
 ·rw[ja h];exact dW x y h
theorem jEq {α:Type}{m:List (Int×α)}{t:Int}{a:α}(h:qE m t=none)(x:Int):qE (m++[(t,a)]) x=if x=t then some a else qE m x:=by
 unfold qE at h ⊢;rw[List.find?_append]
 by_cases hx:x=t
 ·subst hx
  have h2:m.find? (λu=>decide (u.1=x))=none:=by
   cases hz:m.find? (λu=>decide (u.1=x)) with
   |none=>rfl
   |some w=>rw[hz] at h;cases h
  simp[h2]
 ·simp[hx,Ne.symm hx]
theorem JPX.app {j:JS}{k:Nat}(hj:JOW j k)(h:JPX j){n:NA}(u:xW n)(no:∀o∈n.ops,0≤o.1):JPX (yQ j n):=by
 have u1:=u.txn;have u2:=u.after;have u3:=u.stamp;have u4:=u.mark;unfold yQ
 split
 ·exact h
 rename_i hE;have hE:QB j n=0:=Decidable.not_not.1 hE;have hr:qn n=true:=by
  cases hz:qn n with
  |true=>rfl
  |false=>unfold QB at hE;rw[jb hz] at hE;cases hE
 have hro:=bf hr;have hpv:vX n.parts=true:=by
  unfold qn vV at hr;simp only[jF] at hr;exact hr.2.1.1.2
 unfold QB at hE;rw[ja (by rw[hr];decide)] at hE
 split
 ·rename_i c1
  rw[jb c1] at hE;obtain ⟨l1,l2,l3⟩:=n5 hE;have hL:=gY hE;refine ⟨h.g.lock hE,λi hi=> ?_,?_,λv hv=> ?_,h.dn,λt=> ?_⟩
  ·rw[hL] at hi ⊢
   rcases jy.1 hi with hi|hi
   ·exact h.it i hi
   ·rw[ji.1 hi]
    exact ⟨u1,⟨u2.1,l1⟩,YU (st:=j.v) hE,no⟩
  ·rw[hL];exact h.ch
  ·rcases Qc hv with hv|rfl
   ·exact h.pt v hv
   ·exact ⟨hro.1,hpv⟩
  ·dsimp only
   rw[hL];dsimp only;rw[wa hj.kp,jEq l2]
   by_cases ht:t=n.txn
   ·rw[jb ht,jb ht];rfl
   ·rw[ja ht,ja ht];exact h.pk t
 rename_i c1;rw[ja c1] at hE
 split
 ·rename_i c2
  rw[jb c2] at hE;obtain ⟨i,hi,hA,hs0,hs1⟩:=jDo hE;have hG:GS (xf j.v n.txn n.stamp):=h.g.do_ hj.w ⟨5,n.txn,0,none,0,[],n.stamp,0,0,none,0,[]⟩ u3.1;refine ⟨hG,λx hx=> ?_,λc hc=> ?_,λv hv=>h.pt v (jB.1 hv).1,λd hd=> ?_,λt=> ?_⟩
  ·rw[hA] at hx ⊢
   exact h.it x (jB.1 hx).1
  ·rw[hA] at hc
   rcases zh hj.w.k1 (hj.w.wf.io _ (vM hi)).2.1 hc with hc|⟨o,ho,rfl⟩
   ·exact h.ch c hc
   ·exact (h.it _ (vM hi)).2.2.2 o ho
  ·rcases Qc hd with hd|rfl
   ·exact h.dn d hd
   ·exact ⟨u1,by dsimp only;omega,hs1⟩
  ·dsimp only
   rw[hA];dsimp only;rw[Wb,Wb]
   split
   ·rfl
   ·exact h.pk t
 split
 ·refine ⟨h.g.do_ hj.w ⟨4,n.txn,0,none,0,[],n.stamp,0,0,none,0,[]⟩ u3.1,λx hx=>h.it x (jB.1 hx).1,h.ch,λv hv=>h.pt v (jB.1 hv).1,h.dn,λt=> ?_⟩
  dsimp only;rw[Wb,Wb]
  split
  ·rfl
  ·exact h.pk t
 split
 ·have hG:GS (wO j.v n.mark):=h.g.do_ hj.w ⟨8,n.txn,0,none,0,[],n.mark,0,0,none,0,[]⟩ u4.1
  have hi:(wO j.v n.mark).its=j.v.its:=by unfold wO;split<;>rfl
  have hd:(wO j.v n.mark).dim=j.v.dim:=by unfold wO;split<;>rfl
  refine ⟨hG,λx hx=> ?_,λc hc=> ?_,h.pt,h.dn,λt=> ?_⟩
  ·dsimp only at hx ⊢
   rw[hi] at hx;rw[hd];exact h.it x hx
  ·dsimp only at hc
   unfold wO at hc
   split at hc
   ·exact h.ch c hc
   ·obtain ⟨c0,h0,e0,_⟩:=df (u:=(j.v.ch,[])) hc
    rw[e0];exact h.ch c0 h0
  ·dsimp only
   rw[hi];exact h.pk t
 ·exact h
attribute [local irreducible] swp qq qL qJ vZ qh St qi qk vu qH
theorem pF (n:Int)(L:HL)(h:Km n):
  qh kY 174 [zC n] L (λr L'=>∃a c,r=.slice a (numI (Vq n)).length c∧L'=slB a c (numI (Vq n))::L):=by
 obtain ⟨h1,h2⟩:=h;rw[cQ zo zo];refine qg Tryz.func174 rfl rfl rfl ?_;refine Q.r ?_;refine S.y (Y.cvi rfl) ?_;rw[vl zo zo]
 by_cases hn:n<0
 ·rw[jb hn]
  refine Q.r ?_;refine S.y (Y.mul rfl rfl) ?_;rw[vl zo zo];refine Q.r ?_;refine S.y (Y.cvi rfl) ?_;rw[wrap_u64 zo zo];refine S.cr rfl (Jw (-2*n - 1) _ zo zo) ?_;rintro _ _ ⟨a,c,rfl,rfl⟩;refine Q.r ?_;exact N.t rfl (kZ _) ⟨a,c,rfl,rfl⟩
 ·rw[ja hn]
  refine Q.r ?_;refine S.y (Y.mul rfl rfl) ?_;rw[vl zo zo];refine Q.r ?_;refine S.y (Y.cvi rfl) ?_;rw[wrap_u64 zo zo];refine S.cr rfl (Jw (2*n) _ zo zo) ?_;rintro _ _ ⟨a,c,rfl,rfl⟩;refine Q.r ?_;exact N.t rfl (kZ _) ⟨a,c,rfl,rfl⟩
theorem jBg {n:Int}(h:Km n):(numI (Vq n)).length≤10:=by
 obtain ⟨h1,h2⟩:=h;refine qr ?_;rw[cQ zo zo]
 split<;>omega
theorem WX (a:OA)(c:Nat)(v:List Int)(M:OM)(L:HL)[hM:xq M L](hs:qI M a v.length 1 (v.map zC))(hv:v.length≤8)(hi:∀n∈v,Km n):
  qh kY 104 [.slice a v.length c] L (λr L'=>∃a' c',r=.slice a' (wh v).length c'∧L'=slB a' c' (wh v)::L):=by
 have n0:=qr (z:=(v.length:Int)) zo;unfold wh;refine qg Tryz.func104 rfl rfl rfl ?_;refine Q.r ?_;refine S.y (Y.cvi rfl) ?_;rw[wrap_u64 zo zo];refine S.cr rfl (Jw (v.length:Int) _ zo zo) ?_;rintro _ L2 ⟨a1,c1,rfl,eL⟩;rw[eL];clear eL L2;refine Q.r ?_;refine qw (σ:=OA×Nat) (λs=> [(3,.slice s.1 (numI (v.length:Int)++v.flatMap λn=>numI (Vq n)).length s.2)]) (λs=>slB s.1 s.2 (numI (v.length:Int)++v.flatMap λn=>numI (Vq n))::L) (λ_=>True) ?_ ?_
 ·refine ql (σ:=Nat×OA×Nat) (λs=> [(10,.slice a v.length c),(11,.int .i64 v.length),(3,.slice s.2.1 (numI (v.length:Int)++(v.take s.1).flatMap λn=>numI (Vq n)).length s.2.2),(12,.int .i64 s.1)])
   (λs=>slB s.2.1 s.2.2 (numI (v.length:Int)++(v.take s.1).flatMap λn=>numI (Vq n))::L) (λs=>s.1≤v.length) (λs=>v.length - s.1) (0,a1,c1) ⟨rfl,rfl,by simp only[kB,j3,jG];rfl,rfl,trivial⟩ (by simp only[kB,j3,jG];exact eG) (jw _) ?_
  rintro ⟨k,a2,c2⟩ hk;dsimp only at hk ⊢
  by_cases hlt:k<v.length
  ·obtain ⟨q,hq⟩:=qx hlt
   have hqi:=hi q (jn hq);obtain ⟨b,o,hia,cr⟩:=qI.cm1 (g:=zC) hs hq rfl;have hXl:((v.take k).flatMap λn=>numI (Vq n)).length≤v.length*10:=zj k λn hn=>jBg (hi n hn)
   have hnx:numI (v.length:Int)++(v.take (k+1)).flatMap (λn=>numI (Vq n))=numI (v.length:Int)++(v.take k).flatMap (λn=>numI (Vq n))++numI (Vq q):=by rw[Vk hq,ju]
   have hl:(numI (v.length:Int)++(v.take k).flatMap λn=>numI (Vq n)).length≤1000:=by rw[jc];omega
   generalize numI (v.length:Int)++(v.take k).flatMap (λn=>numI (Vq n))=X at hnx hl ⊢;have hz:=jBg hqi;rw[hia];refine Q.r ?_;refine S.cr rfl (pF q _ hqi) ?_;rintro _ _ ⟨y1,cy1,rfl,rfl⟩;refine Q.r ?_;refine qZ y1 (λha=> ?_);refine S.appB (a:=a2) (X:=X) (Y:=numI (Vq q)) rfl rfl (qY.own ha (by rw[jf,jX])) zo (λy2 cy2=> ?_);rw[←hnx];refine Q.r ?_;exact ⟨(k+1,y2,cy2),⟨by rw[←hia];rfl,rfl,rfl,rfl,trivial⟩,by exact eG,hlt,jr v.length k hlt⟩
  ·have hke:k=v.length:=by omega
   subst hke;rw[jI];refine Q.r ?_;exact ⟨(a2,c2),zt,by exact eG,trivial⟩
 rintro ⟨a2,c2⟩ _;dsimp only;refine Q.r ?_;exact N.t rfl eG ⟨a2,c2,rfl,rfl⟩
theorem jDk (b i:Nat):(b / 2^i)&&&1=(b>>>i)&&&1:=by rw[Nat.shiftRight_eq_div_pow]
theorem sO (b:Nat){c:Nat}(hc:c<4294967296):∀i,XU b i c<4294967296
 |0=>hc
 |i+1=>by
  have h:=sO b hc i;have h2:XU b i c>>>1<4294967296:=by rw[Nat.shiftRight_eq_div_pow];omega
  show fm b (XU b i c) i<_
  unfold fm
  split
  ·exact Wu h2 zd
  ·exact h2
theorem cJ (u:YB)(L:HL)(h:rQ L u)(hl:u.bs.length≤1000000000):
  qh kY 110 [u.val] L (λr L'=>r=.int .u32 (Ks u.bs)∧L'=L):=by
 refine qg Tryz.func110 rfl rfl rfl ?_;have hv0:=h;unfold rQ at hv0;rw[←d5] at hv0;refine Q.r ?_;refine qw (σ:=Unit) (λ_=> [(3,.int .u32 (yS 4294967295 u.bs))]) (λ_=>L) (λ_=>True) ?_ ?_
 ·refine ql (σ:=Nat) (λj=> [(8,u.val),(9,.int .i64 u.bs.length),(3,.int .u32 (yS 4294967295 (u.bs.take j))),(10,.int .i64 j)]) (λ_=>L)
   (λj=>j≤u.bs.length) (λj=>u.bs.length - j) 0 zt (kZ _) (jw _) ?_
  intro j hj;have hc0:yS 4294967295 (u.bs.take j)<4294967296:=KL _ zd
  by_cases hjl:j<u.bs.length
  ·obtain ⟨x,hxj⟩:=qx hjl
   obtain ⟨b2,o2,hab2,hr2⟩:=qY.elem (g:=bC) (λ_=>rfl) hv0 hxj rfl;have hsn:yS 4294967295 (u.bs.take (j+1))=lO (yS 4294967295 (u.bs.take j)) x:=by rw[qA hxj,Zc];rfl
   generalize yS 4294967295 (u.bs.take j)=cc at hc0 hsn;have hx8:=x.toNat_lt;unfold YB.val;rw[hab2];refine Q.r ?_;refine ql (σ:=Nat) (λi=> [(5,B x),(8,.slice (some ⟨b2,o2,none⟩) u.bs.length u.c),(9,.int .i64 u.bs.length),(10,.int .i64 j),(3,.int .u32 (XU x.toNat i cc)),(14,.int .i64 i)]) (λ_=>L)
    (λi=>i≤8) (λi=>8 - i) 0 zt (kZ _) (jw _) ?_
   intro i hi;have hb:=sO x.toNat hc0 i
   by_cases hi8:i<8
   ·have hi8':(i:Int)<8:=by omega
    have hbn:XU x.toNat (i+1) cc=fm x.toNat (XU x.toNat i cc) i:=rfl;generalize XU x.toNat i cc=y at hb hbn;have l1:x.toNat / 2^i<4294967296:=Nat.lt_of_le_of_lt (Nat.div_le_self _ _) zo;have l2:y / 2^1<4294967296:=by omega
    unfold B;refine Q.r ?_;refine S.y (Y.shr rfl rfl (by show i≤8;omega)) ?_;refine S.y (Y.cv32 rfl l1) ?_;refine S.y (Y.and32 (b:=1) rfl rfl l1 zd) ?_;rw[jDk]
    by_cases he:y&&&1=(x.toNat>>>i)&&&1
    ·have hne:((y&&&1:Nat):Int)=(((x.toNat>>>i)&&&1:Nat):Int):=by rw[he]
     rw[←he];refine Q.r ?_;refine S.y (Y.and32 (b:=1) rfl rfl hb zd) ?_;refine Q.r ?_;refine S.y (Y.shr (b:=1) rfl rfl zd) ?_;refine Q.r ?_;exact ⟨i+1,⟨rfl,rfl,rfl,rfl,by rw[hbn];unfold fm;rw[ja (λh=>h he),Nat.shiftRight_eq_div_pow];rfl,rfl,trivial⟩,kZ _,hi8,by omega⟩
    ·have hne:¬((y&&&1:Nat):Int)=(((x.toNat>>>i)&&&1:Nat):Int):=by omega
     refine Q.r ?_;refine S.y (Y.and32 (b:=1) rfl rfl hb zd) ?_;refine Q.r ?_;refine S.y (Y.shr (b:=1) rfl rfl zd) ?_;refine S.y (Y.xor32 (b:=3988292384) rfl rfl l2 zd) ?_;refine Q.r ?_;exact ⟨i+1,⟨rfl,rfl,rfl,rfl,by rw[hbn];unfold fm;rw[jb he,Nat.shiftRight_eq_div_pow];rfl,rfl,trivial⟩,kZ _,hi8,by omega⟩
   ·have hie:i=8:=by omega
    subst hie;rw[jIT];refine Q.r ?_;exact ⟨j+1,⟨by rw[←hab2];rfl,rfl,by rw[hsn];rfl,rfl,trivial⟩,kZ _,hjl,by omega⟩
  ·have hje:j=u.bs.length:=by omega
   subst hje;refine Q.r ?_;exact ⟨(),⟨by rw[jI];rfl,trivial⟩,kZ _,trivial⟩
 ·intro _ _
  have hc0:yS 4294967295 u.bs<4294967296:=KL _ zd;refine Q.r ?_;refine S.y (Y.xor32 rfl rfl hc0 zd) ?_;refine Q.r ?_;exact N.t rfl (kZ _) ⟨rfl,rfl⟩
theorem jAb {bs:List UInt8}{i:Nat}{x:UInt8}(h:bs[i]? =some x):yL (bs.drop i)=yL (bs.drop (i+1))*256+x.toNat:=by
 obtain ⟨hl,hx⟩:=jm.1 h;rw[List.drop_eq_getElem_cons hl,hx];rfl
theorem gO {bs:List UInt8}(h:bs.length≤4):yL bs<4294967296:=Nat.lt_of_lt_of_le (dI bs) (Nat.pow_le_pow_right zd h)
theorem Zn (u:YB)(L:HL)(h:rQ L u)(hl:u.bs.length≤4):
  qh kY 109 [u.val] L (λr L'=>r=.int .u64 (yL u.bs)∧L'=L):=by
 refine qg Tryz.func109 rfl rfl rfl ?_;have hv0:=h;unfold rQ at hv0;rw[←d5] at hv0;refine Q.r ?_;refine qw (σ:=Unit) (λ_=> [(3,.int .u64 (yL u.bs))]) (λ_=>L) (λ_=>True) ?_ ?_
 ·refine ql (σ:=Nat) (λj=> [(0,u.val),(3,.int .u64 (yL (u.bs.drop j))),(4,.int .i64 ((j:Int) - 1))]) (λ_=>L)
   (λj=>j≤u.bs.length) (λj=>j) u.bs.length ⟨rfl,by rw[kM];rfl,rfl,trivial⟩ (kZ _) (jz _) ?_
  intro j hj
  rcases j with _|i
  ·refine Q.r ?_
   exact ⟨(),zt,kZ _,trivial⟩
  ·rw[show ((i+1:Nat):Int) - 1=(i:Int) by omega]
   obtain ⟨x,hx⟩:=qx (show i<u.bs.length from hj);obtain ⟨b2,o2,hab2,hr2⟩:=qY.elem (g:=bC) (λ_=>rfl) hv0 hx rfl;have hn:=jAb hx;have h4:yL (u.bs.drop i)<4294967296:=gO (by rw[jE];omega);have hx8:=x.toNat_lt;unfold YB.val;rw[hab2];refine Q.r ?_;refine S.y (Y.mul rfl rfl) ?_;rw[wrap_u64 zo zo];refine Q.r ?_;refine S.y (Y.cvi rfl) ?_;rw[wrap_u64 zo zo];refine S.y (Y.add rfl rfl) ?_;rw[wrap_u64 zo zo,show (yL (u.bs.drop (i+1)):Int)*256+(x.toNat:Int)=((yL (u.bs.drop i):Nat):Int) by omega];refine Q.r ?_;exact ⟨i,⟨by rw[←hab2];rfl,rfl,rfl,trivial⟩,kZ _,by omega,by omega⟩
 ·intro _ _
  refine Q.r ?_;exact N.t rfl (kZ _) ⟨rfl,rfl⟩
theorem mA (a:OA)(c:Nat)(bs:List UInt8)(L:HL)(h:qY L a bs.length 1 (bs.map B))(hc:bs.length≤c)(hn:bs.length≤100000000000):
  qh kY 111 [.slice a bs.length c] L (λv L'=>∃a' c',v=.slice a' bs.length c'∧L'=slO 5 1 a' bs.length c' (bs.map B)::L):=by
 refine qg Tryz.func111 rfl rfl rfl ?_
 repeat (first|(refine GQ.y ?_;refine Q.y ?_)|refine Q.go ?_|(refine GQ.g ?_;refine Q.gq ?_)|(refine GQ.s ?_;refine Q.st ?_))
 refine S.bs rfl rfl rfl rfl rfl (λb=> ?_);refine qo (vg (sz:=1) (m:=0) rfl) ?_
 repeat (first|(refine GQ.y ?_;refine Q.y ?_)|refine Q.go ?_|(refine GQ.g ?_;refine Q.gq ?_)|(refine GQ.s ?_;refine Q.st ?_))
 refine S.app0 rfl rfl rfl (vG.rd h.sub (JR _)) zr zo zo (λa' c'=> ?_)
 repeat (first|(refine GQ.y ?_;refine Q.y ?_)|refine Q.go ?_|(refine GQ.g ?_;refine Q.gq ?_)|(refine GQ.s ?_;refine Q.st ?_))
 refine N.t rfl ?_ ⟨a',c',rfl,rfl⟩;exact eG
def cpR (M:OM)(L0:HL)(bs:List UInt8)(r:Value)(L':HL):Prop:=∃v:YB,∃M',r=v.val∧v.bs=bs∧wq M' v∧v.bs.length≤v.c∧qV M M'∧L'=qp M'::L0
theorem Xu (v:YB)(M:OM)(L L0:HL)[hP:xw L M L0](h:rQ L v)(hc:v.bs.length≤v.c)(hn:v.bs.length≤100000000000):
  qh kY 111 [v.val] L (cpR M L0 v.bs):=by
 refine (mA v.a v.c v.bs L h hc hn).post λr L' hr=> ?_
 obtain ⟨a',c',rfl,rfl⟩:=hr;refine ym.ent X4 (ym.pure λhcap=> ?_);exact ym.abs a' λM' hl hs=>ym.done ⟨⟨a',c',v.bs⟩,M',rfl,rfl,hs,hcap,hl,rfl⟩
theorem pL (a:OA)(c:Nat)(bs:List UInt8)(M:OM)(L0:HL)(h:qI M a bs.length 1 (bs.map B))(hc:bs.length≤c)(hb:bs.length≤1000000):
  qh kY 41 [.slice a bs.length c] (qp M::L0) (jEd M L0 bs):=by
 refine qg Tryz.func41 rfl rfl rfl ?_
 by_cases h6:bs.length<6
 ·refine Q.r ?_
  have e:JD bs=2:=by unfold JD;rw[jb h6]
  exact N.r3 (RV.tmp rfl (RV.tmp rfl (RV.tmp rfl RV.nil))) (kZ _) ⟨⟨none,0,[]⟩,⟨none,0,[]⟩,M,by rw[e];rfl,by rw[e];rfl,by rw[e];rfl,qI.nil,qI.nil,jz _,jz _,qV.refl _,rfl⟩
 have hrd:qY (qp M::L0) a bs.length 1 (bs.map B):=qI.rd h;obtain ⟨b,o,rfl,hr⟩:=hrd.2.resolve_left zo;have hno:∀e:Int,e≠0→JD bs=e→jEd M L0 bs (.tuple #[.slice none 0 0,.slice none 0 0,.int .i64 e]) (qp M::L0):=λe he hq=>
  ⟨⟨none,0,[]⟩,⟨none,0,[]⟩,M,by rw[hq];rfl,by rw[hq,ja he],by rw[hq,ja he],qI.nil,qI.nil,jz _,jz _,qV.refl _,rfl⟩
 refine Q.r ?_;refine S.y (Y.slB (l:=4) (h:=6) rfl rfl rfl rfl zo zo zo) ?_;have h46:=wq.cut h hc 4 2 zo;have e46:6 - 4=((bs.drop 4).take 2).length:=by rw[jP,jE];omega
 rw[e46];refine S.cr rfl (Zn ⟨some ⟨b,if c=4 then o else o+4*1,none⟩,c - 4,(bs.drop 4).take 2⟩ _ h46.rd (by show ((bs.drop 4).take 2).length≤4;omega)) ?_;rintro _ _ ⟨rfl,rfl⟩;have hnl:yL ((bs.drop 4).take 2)<65536:=by
  have:=dI ((bs.drop 4).take 2);rw[←e46] at this;exact this
 have hnn:yL ((bs.drop 4).take 2)=Ws bs:=rfl;rw[hnn] at hnl ⊢;refine S.y (Y.cvi rfl) ?_;rw[cR zo];have hE:JD bs=if 4096<Ws bs then 3 else if bs.length - 6<Ws bs then 2 else if Ks ((bs.drop 4).take (2+Ws bs))≠yL (bs.take 4) then 5 else 0:=by
  conv=>lhs;unfold JD
  rw[ja h6]
 have hnB:V8 bs=(bs.drop 6).take (Ws bs):=rfl;have hnR:ZM bs=bs.drop (6+Ws bs):=rfl;generalize Ws bs=nn at*
 by_cases h4:4096<nn
 ·rw[jb h4] at hE
  refine Q.r ?_;exact N.r3 (RV.tmp rfl (RV.tmp rfl (RV.tmp rfl RV.nil))) (kZ _) (hno 3 zd hE)
 rw[ja h4] at hE
 by_cases h5:bs.length - 6<nn
 ·rw[jb h5] at hE
  have h5':(bs.length:Int)<6+(nn:Int):=by omega
  refine Q.r ?_;exact N.r3 (RV.tmp rfl (RV.tmp rfl (RV.tmp rfl RV.nil))) (kZ _) (hno 2 zd hE)
 rw[ja h5] at hE;have h5':¬(bs.length:Int)<6+(nn:Int):=by omega
 refine Q.r ?_;have hb4:=wq.cut h hc 4 (2+nn) zo;have el:6+nn - 4=((bs.drop 4).take (2+nn)).length:=by rw[jP,jE];omega
 have hb0:wq M ⟨some ⟨b,o,none⟩,c,bs.take 4⟩:=by
  have:=qI.take h (k:=4) zo;unfold wq;dsimp only;rw[jP,Nat.min_eq_left zo,List.map_take];exact this
 have el0:(4:Nat)=(bs.take 4).length:=by rw[jP];omega
 refine Q.dgo [] [4,8] [] [0,1,2,3,6,7,4,5,8,9] ?_;refine Q.rd ?_;refine D.yp rfl rfl rfl (Y.slB (l:=4) (h:=6+nn) rfl rfl rfl rfl zo zo zo) ?_;rw[el];refine Q.rd ?_;refine D.yp rfl rfl rfl (Y.slT (h:=4) rfl rfl rfl zo) ?_;refine D.e rfl rfl rfl ?_;refine S.cr rfl (cJ ⟨some ⟨b,if c=4 then o else o+4*1,none⟩,c - 4,(bs.drop 4).take (2+nn)⟩ _ hb4.rd (by show ((bs.drop 4).take (2+nn)).length≤_;omega)) ?_;rintro _ _ ⟨rfl,rfl⟩;dsimp only;have hs1:=Yg ((bs.drop 4).take (2+nn));have hs2:yL (bs.take 4)<4294967296:=gO (by rw[jP];omega);refine Q.r ?_;refine Q.rd ?_;refine D.yp rfl rfl rfl (Y.cvi rfl) ?_;rw[wrap_u64 zo zo];refine Q.rd ?_;refine D.e rfl rfl rfl ?_
 conv in (occs:=1) (Value.slice (some ⟨b,o,none⟩) 4 c)=>rw[el0]
 refine S.cr rfl (Zn ⟨some ⟨b,o,none⟩,c,bs.take 4⟩ _ hb0.rd (by show (bs.take 4).length≤4;omega)) ?_;rintro _ _ ⟨rfl,rfl⟩;dsimp only;refine Q.r ?_
 by_cases h7:Ks ((bs.drop 4).take (2+nn))≠yL (bs.take 4)
 ·rw[jb h7] at hE
  have h7':¬((Ks ((bs.drop 4).take (2+nn)):Nat):Int)=(yL (bs.take 4):Nat):=by omega
  refine Q.rd ?_;refine Q.r ?_;exact N.r3 (RV.tmp rfl (RV.tmp rfl (RV.tmp rfl RV.nil))) (kZ _) (hno 5 zd hE)
 rw[ja h7] at hE;have h7':((Ks ((bs.drop 4).take (2+nn)):Nat):Int)=(yL (bs.take 4):Nat):=by omega
 refine Q.rd ?_;refine Q.r ?_;refine Q.dgo [] [4,9] [] [0,1,2,3,5,6,7,8,4,9,10,11,12] ?_;refine Q.rd ?_;refine D.yp rfl rfl rfl (Y.slB (l:=6) (h:=6+nn) rfl rfl rfl rfl zo zo zo) ?_;have hb6:=wq.cut h hc 6 nn zo;have hbt:=wq.tail h hc (6+nn) zo;have el6:6+nn - 6=((bs.drop 6).take nn).length:=by rw[jP,jE];omega
 have elt:bs.length - (6+nn)=(bs.drop (6+nn)).length:=by rw[jE]
 rw[el6];refine Q.rd ?_;refine D.yp rfl rfl rfl (Y.slF (l:=6+nn) rfl rfl zo zo) ?_;rw[elt];refine Q.rd ?_;refine D.e rfl rfl rfl ?_;refine S.cr rfl (Xu ⟨some ⟨b,if c=6 then o else o+6*1,none⟩,c - 6,(bs.drop 6).take nn⟩ M _ _ hb6.rd (by show ((bs.drop 6).take nn).length≤c - 6;omega) (by show ((bs.drop 6).take nn).length≤_;omega)) ?_;rintro _ _ ⟨v,M1,rfl,hv,hvo,hvc,hl1,rfl⟩;refine Q.r ?_;refine Q.rd ?_;refine D.e rfl rfl rfl ?_;refine S.cr rfl (Xu ⟨some ⟨b,if c=6+nn then o else o+(6+nn)*1,none⟩,c - (6+nn),bs.drop (6+nn)⟩ M1 _ _ (hbt.mono hl1).rd (by show (bs.drop (6+nn)).length≤c - (6+nn);omega) (by show (bs.drop (6+nn)).length≤_;omega)) ?_;rintro _ _ ⟨w,M2,rfl,hw,hwo,hwc,hl2,rfl⟩;dsimp only at hv hw;refine Q.r ?_;refine Q.rd ?_;refine Q.r ?_;refine N.r3 (RV.tmp rfl (RV.tmp rfl (RV.tmp rfl RV.nil))) ?_ ⟨v,w,M2,by rw[hE],by rw[hE,jb rfl,hnB,hv],by rw[hE,jb rfl,hnR,hw],hvo.mono hl2,hwo,hvc,hwc,hl1.trans hl2,rfl⟩;exact eG
theorem bL :∀(k n:Nat),zc (k+1) n=zc k n++[UInt8.ofNat (n / 256^k % 256)]
 |0,n=>by simp[zc]
 |k+1,n=>by
  have h:=bL k (n / 256)
  show UInt8.ofNat (n % 256)::zc (k+1) (n / 256)=(UInt8.ofNat (n % 256)::zc k (n / 256))++_
  rw[h,Nat.div_div_eq_div_mul,Nat.pow_succ,Nat.mul_comm 256];rfl
theorem jE5 (bs:List UInt8)(b:UInt8):(bs++[b]).map B=bs.map B++[B b]:=by rw[jq];rfl
theorem cK (n k:Nat)(L:HL)(hn:n<18446744073709551616)(hk:k≤8):
  qh kY 175 [.int .u64 n,.int .i64 k] L (λr L'=>∃a c,r=.slice a k c∧L'=slO 5 1 a k c ((zc k n).map B)::L):=by
 refine qg Tryz.func175 rfl rfl rfl ?_;refine Q.r ?_;refine qw (σ:=OA×Nat) (λs=> [(5,.slice s.1 k s.2)]) (λs=>slO 5 1 s.1 k s.2 ((zc k n).map B)::L) (λ_=>True) ?_ ?_
 ·refine ql (σ:=Nat×OA×Nat) (λs=> [(6,.int .i64 k),(0,.int .u64 (n / 256^s.1:Nat)),(5,.slice s.2.1 s.1 s.2.2),(7,.int .i64 s.1)])
   (λs=>slO 5 1 s.2.1 s.1 s.2.2 ((zc s.1 n).map B)::L) (λs=>s.1≤k) (λs=>k - s.1) (0,none,0) ⟨rfl,jj some (jj (Value.int .u64) (by simp)),rfl,rfl,trivial⟩ vj (jw _) ?_
  rintro ⟨i,a,c⟩ hi;dsimp only at hi ⊢
  by_cases hlt:i<k
  ·have hm:n / 256^i<18446744073709551616:=Nat.lt_of_le_of_lt (Nat.div_le_self _ _) hn
   have hs:=bL i n;have hd:n / 256^(i+1)=n / 256^i / 256:=by rw[Nat.div_div_eq_div_mul,Nat.pow_succ]
   generalize n / 256^i=m at hm hs hd;refine Q.r ?_;refine S.y (Y.rem rfl rfl zd) ?_;rw[show Int.tmod (m:Int) 256=((m % 256:Nat):Int) from rfl];refine S.y (Y.cv8 rfl) ?_;rw[Nat.mod_mod];refine Q.r ?_;(repeat (intro b1;refine Q.r ?_));refine S.app rfl rfl (vG.sl vi.row zr zr) zr zo zo (λa7 c7=> ?_);refine Q.r ?_;refine S.y (Y.quo rfl rfl zd) ?_;rw[show Int.tdiv (m:Int) 256=((m / 256:Nat):Int) from rfl,wrap_u64 zo zo];refine Q.r ?_;refine ⟨(i+1,a7,c7),⟨rfl,by rw[hd];rfl,rfl,rfl,trivial⟩,?_,by show i+1≤k;omega,by show k - (i+1)<k - i;omega⟩;dsimp only;rw[hs,jE5];exact eG
  ·have hie:i=k:=by omega
   subst hie;refine Q.r ?_;exact ⟨(a,c),zt,kZ _,trivial⟩
 ·rintro ⟨a,c⟩ _
  refine Q.r ?_;exact N.t rfl (kZ _) ⟨a,c,rfl,rfl⟩
theorem mz (v:YB)(M:OM)(L0:HL)(h:wq M v)(hl:v.bs.length≤4096):
  qh kY 105 [v.val] (qp M::L0) (λr L'=>∃u:YB,∃M',r=.tuple #[u.val,.int .i64 0]∧u.bs=frB v.bs∧wq M' u∧u.bs.length≤u.c∧qV M M'∧L'=qp M'::L0):=by
 refine qg Tryz.func105 rfl rfl rfl ?_;refine Q.r ?_;refine S.y (Y.cvi rfl) ?_;rw[wrap_u64 zo zo];refine S.cr rfl (cK v.bs.length 2 _ zo zd) ?_;rintro _ _ ⟨a,c,rfl,rfl⟩;refine Q.r ?_;refine S.app rfl rfl (vG.rd (wq.rd h) (JR _)) zr zo zo (λa2 c2=> ?_);refine Q.r ?_;have hb:((zc 2 v.bs.length).map B++v.bs.map B)=(KZ v.bs).map B:=by unfold KZ;rw[jq]
 have hbl:(KZ v.bs).length=2+v.bs.length:=by unfold KZ;rw[jc,zw]
 rw[hb];have hf:frB v.bs=zc 4 (Ks (KZ v.bs))++KZ v.bs:=rfl;generalize KZ v.bs=bd at hb hbl hf ⊢;rw[←hbl];refine xk a2 (λM1 hl1 hs1 hc1=> ?_);refine S.cr rfl (cJ ⟨a2,c2,bd⟩ _ (qI.rd hs1) (by dsimp only;omega)) ?_;rintro _ _ ⟨rfl,rfl⟩;dsimp only;have hcr:=Yg bd;refine S.y (Y.cvi rfl) ?_;rw[wrap_u64 zo zo];refine S.cr rfl (cK (Ks bd) 4 _ zo zd) ?_;rintro _ _ ⟨a3,c3,rfl,rfl⟩;refine Q.r ?_;refine S.app rfl rfl (vG.rd (qI.rd hs1) (JR _)) zr zo zo (λa4 c4=> ?_);rw[←jq];have hfl:4+bd.length=(zc 4 (Ks bd)++bd).length:=by rw[jc,zw]
 rw[←hf] at hfl ⊢;rw[hfl];refine xk a4 (λM2 hl2 hs2 hc2=> ?_);refine Q.r ?_;exact N.u rfl rfl (kZ _) ⟨⟨a4,c4,frB v.bs⟩,M2,rfl,rfl,hs2,hc2,hl1.trans hl2,rfl⟩
theorem wq.nil {M:OM}:wq M ⟨none,0,[]⟩:=qI.nil
end Go.Proofs.YtlnfjhiphlfkjaaGreatDoor
