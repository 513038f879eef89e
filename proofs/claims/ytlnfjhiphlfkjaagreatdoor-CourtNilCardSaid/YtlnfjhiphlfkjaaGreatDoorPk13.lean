/- Walks of functions, and plain laws, that the last text rests on. No condition. -/
import Derived.Test.YtlnfjhiphlfkjaaGreatDoorPk12
set_option linter.unusedVariables false
set_option linter.unusedSimpArgs false
set_option linter.unusedSectionVars false
set_option maxHeartbeats 16000000
namespace Go.Proofs.YtlnfjhiphlfkjaaGreatDoor
open Go Go.SX
attribute [local irreducible] swp qq qM qL vX qh St qi qk vu qG
abbrev aNV (b1 b2:Nat):NV:=⟨1,0,5,0,0,0,0,0,0,0,0,0,none,0,[],some ⟨b2,0,none⟩,1,[⟨3,some ⟨b1,0,none⟩,1,[9]⟩],none,0,[],none,0,[]⟩
theorem jBr {to:Int}{n:NA}(h:qu n=true):Qz [(to,n)]=[(to,qC n)]:=by
 unfold Qz;rw[kI,jb h,List.filter_nil,jL,kC]
theorem jDM (r:NA):nF r.nv:=⟨jw _,λo ho=>(by cases ho),jw _,λo ho=>(by cases ho),jw _,jw _,jw _,jw _⟩
theorem V8 {n:NA}(h:qu n=true)(u:xf n):OkA n:=by
 have z:=V2 h u;have h1:=z.parts.1;have h2:=z.ops.1;have h3:=z.vec.1;have h4:=z.hits.1;exact ⟨by omega,by omega,λo ho=>by have:=(z.ops.2 o ho).2.1;omega,by omega,by omega,λo ho=>by have:=(z.hits.2 o ho).2.2.1;omega⟩
theorem gX (M:OM)(L:HL)(hT:yE M)(hB:xg M)(hE:Vm M):qh kY 5 [] (qo M::L) (λr L'=>r=.bool true∧∃M',qU M M'∧L'=qo M'::L):=by
 refine qg Tryz.func5 rfl rfl rfl ?_;refine Q.r ?_;refine S.cr rfl (Wr 10000 _ zd) ?_;rintro _ _ ⟨p,rfl,rfl⟩;refine Q.r ?_;refine S.ckm p rfl (Qb p 1 1 (D0 10000) aL0 (ww 1 1) [] (ww 1 1) M _ zd zd zd zd hT hB hE jGI (LdK.zero zd zd zd zd) zd) ?_;rintro _ _ ⟨M1,hl1,⟨hne,_⟩|⟨_,hw1,c,pj,q,g,x,rfl,rfl⟩⟩
 ·exact absurd jEw.1 hne
 rw[jEw.2,show vC (ww 1 1) (qv ((ww 1 1).epoch+1))=dK from aw1];refine Q.r ?_;refine qm (L':=wR c pj (wG g) q false::qE M1 pj dK::yW p q aL1.z M1 (Xq g 1 1 x::L)) eG ?_;refine S.cr rfl (Jh c pj (wG g) q false M1 dK _) ?_;rintro _ _ ⟨rfl,rfl⟩;refine Q.r ?_;(repeat (intro b1;refine Q.r ?_));rename_i bi;revert b1;intro bo;refine qm (ve (b:=bo) (t:=38) (sz:=2) (m:=1) rfl) ?_;refine yx bi (t:=21) (l:=[.int .i32 9]) (m:=1) (cs:=[.int .i32 9]) (jz _) rfl (λM2 hl2 hs2=> ?_);refine qQ (some ⟨bo,0,none⟩) (λM3 hl3 hs3=> ?_);have hl03:=hl1.trans (hl2.trans hl3);have hn1:xt M3 (aNV bi bo):=⟨qH.nil0,⟨hs3,λo ho=>by rw[ji.1 ho];exact hs2.mono hl3⟩,qH.nil0,qH.nil0,λo ho=>by cases ho⟩;have hc1:nF (aNV bi bo):=⟨jw _,λo ho=>by rw[ji.1 ho];exact jz _,jw _,(λo ho=>by cases ho),jw _,by show 1≤_;decide,jw _,jw _⟩;have hf1:(aNV bi bo).abs.few=aA:=rfl;refine S.cq (A:=qo M3) (args:=[(aNV bi bo).val]) rfl (bu (aNV bi bo) M3 _ hn1 hc1 (by rw[hf1];exact V8 awA.1 awA.2) (by rw[hf1];exact awA.2)) ?_;rintro _ _ ⟨v,M4,rfl,hv,hvo,hvc,hl4,rfl⟩;have hl04:=hl03.trans hl4;rw[hf1,show jFr aA=qC aA from jb awA.1] at hv;have hvl:v.bs.length≤10000000:=by have:=(Ju awA.1 awA.2).2;rw[hv];omega
 refine vP pj (hl2.trans (hl3.trans hl4)) ?_;refine qm (L':=yW p q aL1.z M4 (wR c pj (wG g) q false::qE M4 pj dK::Xq g 1 1 x::L)) eG ?_;have hS:=YT c pj (wG g) q p aL1.z dK 2 v.a v.c v.bs aA M4 (Xq g 1 1 x::L) hvo hvc (hT.mono hl04) (hB.mono hl04) hvl (by rw[hv];exact XG awA.1 awA.2) zd zd wn1.g.b (by rw[aw2];exact jGH) (by rw[aw2,Z1.2.2.2];exact yy ⟨V8 awP.1 awP.2,awP.2⟩) (by rw[aw2,Z1.2.2.2];decide);rw[aw2,Z1.1,Z1.2.1,Z1.2.2.1,Z1.2.2.2] at hS;refine S.cr rfl hS ?_;clear hS;rintro _ _ ⟨a5,c5,ls,M5,rfl,hls,hlo,hl5,rfl⟩;rw[ja zd,jBr awP.1] at hls;obtain ⟨l5,rfl,hl5e⟩:=jDf hls;have hl5b:l5.y.bs=qC aP:=jj Prod.snd hl5e;have hl05:=hl04.trans hl5;obtain ⟨b5,o5,rfl,cr5⟩:=qH.cm (k:=0) (g:=tB.cells) (λ_=>rfl) hlo.1 rfl rfl;have hl5o:=(hlo.2 l5 (ji.2 rfl));have hl5l:l5.y.bs.length≤1000000:=by have:=(Ju awP.1 awP.2).2;rw[hl5b];omega
 refine Q.r ?_;refine S.cq (A:=qo M5) (args:=[l5.y.val]) rfl (YD l5.y.a l5.y.c l5.y.bs M5 _ hl5o.1 hl5o.2 hl5l) ?_;rintro _ _ ⟨n6,M6,rfl,hn6,hn6o,hn6b,hl6,rfl⟩;obtain ⟨hr6,hr6n⟩:=jET awP.1 awP.2;rw[hl5b,hr6n] at hn6;have htx:n6.txn=1048577:=jj NA.txn hn6;have hl06:=hl05.trans hl6;refine Q.r ?_;(repeat (intro b1;refine Q.r ?_));rw[htx];have hf7:aV.nv.abs.few=aV:=rfl;refine S.cq (A:=qo M6) (args:=[aV.nv.val]) rfl (bu aV.nv M6 _ (xt.nv _) (jDM _) (by rw[hf7];exact V8 awV.1 awV.2) (by rw[hf7];exact awV.2)) ?_;rintro _ _ ⟨w,M7,rfl,hw,hwo,hwc,hl7,rfl⟩;have hl07:=hl06.trans hl7;rw[hf7,show jFr aV=qC aV from jb awV.1] at hw;have hwl:w.bs.length≤10000000:=by have:=(Ju awV.1 awV.2).2;rw[hw];omega
 refine vP pj (hl6.trans hl7) ?_;refine qm (L':=yW p q aL1.z M7 (wR c pj (wG g) q false::qE M7 pj lj::Xq g 1 1 x::L)) eG ?_;have hS:=YT c pj (wG g) q p aL1.z lj 1 w.a w.c w.bs aV M7 (Xq g 1 1 x::L) hwo hwc (hT.mono hl07) (hB.mono hl07) hwl (by rw[hw];exact XG awV.1 awV.2) zd zd wn2.g.b (by rw[aw4];exact jGG) (by rw[aw4,pT.2];intro m hm;rcases j9.1 hm with rfl|hm;exact ⟨V8 awD.1 awD.2,awD.2⟩;rw[ji.1 hm];exact ⟨V8 awR.1 awR.2,awR.2⟩) (by rw[aw4,pT.2];decide);rw[aw4,pT.1,pT.2] at hS;refine S.cr rfl hS ?_;clear hS;rintro _ _ ⟨a8,c8,ms,M8,rfl,hms,hmo,hl8,rfl⟩;have hl08:=hl07.trans hl8;generalize doJ aL1.z lj ⟨[aC],[],[(1,aD),(2,aR)],[aG],[(1,aX),(2,aY)]⟩=jx;generalize mA aL1.z lj false ⟨[aC],[],[(1,aD),(2,aR)],[aG],[(1,aX),(2,aY)]⟩=dx;refine Q.r ?_;refine S.ckm p (args:=[qK p,.slice none 0 0]) rfl (nB p aL2.d none 0 [] M8 _ qH.nil zd) ?_;rintro _ _ ⟨kf,M9,rfl,hl9,hkf,_,rfl⟩;have hl09:=hl08.trans hl9;rw[jDH aL2 hkf];refine Q.r ?_;refine S.ckm p rfl (Qb p 1 1 aL2.d aL2 (ww 1 1) [qv 1,aC] aJ5 M9 _ zd zd zd zd (hT.mono hl09) (hB.mono hl09) (hE.mono hl09) (jHz 1 1 aL2) jGF zd) ?_;rintro _ _ ⟨M10,hl10,⟨hne,_⟩|⟨_,hw5,c2,pj2,q2,g2,x2,rfl,rfl⟩⟩
 ·exact absurd jEv.1 hne
 rw[jEv.2,show vC aJ5 (qv (aJ5.epoch+1))=aJ6 from aw7];have hl010:=hl09.trans hl10;refine Q.r ?_;refine qm (L':=wR c2 pj2 (wG g2) q2 false::qE M10 pj2 aJ6::Xq g2 1 1 x2::qo M10::L) eG ?_;refine S.cr rfl (nJ c2 pj2 (wG g2) q2 false M10 aJ6 5 _) ?_;rintro _ _ ⟨rfl,rfl⟩;rw[show (qJ aJ6.done 5).getD 0=1 from rfl,show (qJ aJ6.done 5).isSome=true from rfl];refine Q.r ?_;refine S.cr rfl (Jh c2 pj2 (wG g2) q2 false M10 aJ6 _) ?_;rintro _ _ ⟨rfl,rfl⟩;refine Q.r ?_;have hwk:XF aJ6=[(1,aD)]:=by kernel_rfl
 refine S.cr rfl (nG c2 pj2 g2 q2 1 1 x2 aJ6 M10 L (hT.mono hl010) (hB.mono hl010) wn6.g zd (by rw[hwk];exact yy ⟨V8 awD.1 awD.2,awD.2⟩) (by rw[hwk];decide)) ?_;rintro _ _ ⟨a11,c11,us,M11,rfl,hus,huo,hl11,rfl⟩;have hul:us.length=1:=by
  have:=Wc hus;rw[aw8] at this;exact this
 rw[hul];refine Q.r ?_;exact N.t rfl (L':=qo M11::L) eG ⟨rfl,M11,hl010.trans hl11,rfl⟩
theorem tP (t:Int)(L:HL):qh kY 48 [wD,.int .u64 t] L (λr L'=>r=.tuple #[.int .u64 0,.bool false]∧L'=L):=by
 refine qg Tryz.func48 rfl rfl rfl ?_;refine Q.r ?_;exact N.u rfl rfl (kZ _) ⟨rfl,rfl⟩
theorem tO (L:HL):qh kY 49 [wD] L (λr L'=>r=.int .u64 0∧L'=L):=by
 refine qg Tryz.func49 rfl rfl rfl ?_;refine Q.r ?_;exact N.t rfl (kZ _) ⟨rfl,rfl⟩
theorem nj (L:HL):qh kY 29 [wD] L (λr L'=>r=.int .u64 0∧L'=L):=by
 refine qg Tryz.func29 rfl rfl rfl ?_;refine Q.r ?_;exact N.t rfl (kZ _) ⟨rfl,rfl⟩
theorem gQ (L:HL):qh kY 54 [wD] L (λr L'=>r=.slice none 0 0∧L'=L):=by
 refine qg Tryz.func54 rfl rfl rfl ?_;refine Q.r ?_;exact N.t rfl (kZ _) ⟨rfl,rfl⟩
theorem jAa (t:Int)(L:HL):qh kY 11 [wD,.int .u64 t] L (λr L'=>r=.tuple #[.int .u64 0,.bool false]∧L'=L):=by
 refine qg Tryz.func11 rfl rfl rfl ?_;refine Q.r ?_;refine S.cr rfl (dG _) ?_;rintro _ _ ⟨rfl,rfl⟩;refine Q.r ?_;refine S.cr rfl (tP t _) ?_;rintro _ _ ⟨rfl,rfl⟩;refine Q.r ?_;exact N.u rfl rfl (kZ _) ⟨rfl,rfl⟩
theorem tY (L:HL):qh kY 12 [wD] L (λr L'=>r=.int .u64 0∧L'=L):=by
 refine qg Tryz.func12 rfl rfl rfl ?_;refine Q.r ?_;refine S.cr rfl (dG _) ?_;rintro _ _ ⟨rfl,rfl⟩;refine S.cr rfl (tO _) ?_;rintro _ _ ⟨rfl,rfl⟩;refine Q.r ?_;exact N.t rfl (kZ _) ⟨rfl,rfl⟩
theorem nI (L:HL):qh kY 19 [wD] L (λr L'=>r=.int .u64 0∧L'=L):=by
 refine qg Tryz.func19 rfl rfl rfl ?_;refine Q.r ?_;refine S.cr rfl (dG _) ?_;rintro _ _ ⟨rfl,rfl⟩;refine S.cr rfl (nj _) ?_;rintro _ _ ⟨rfl,rfl⟩;refine Q.r ?_;exact N.t rfl (kZ _) ⟨rfl,rfl⟩
theorem gW (L:HL):qh kY 16 [wD] L (λr L'=>r=.slice none 0 0∧L'=L):=by
 refine qg Tryz.func16 rfl rfl rfl ?_;refine Q.r ?_;refine S.cr rfl (dG _) ?_;rintro _ _ ⟨rfl,rfl⟩;refine S.cr rfl (gQ _) ?_;rintro _ _ ⟨rfl,rfl⟩;refine Q.r ?_;exact N.t rfl (kZ _) ⟨rfl,rfl⟩
theorem YQ (L:HL):qh kY 17 [wD] L (λr L'=>r=.int .i64 0∧L'=L):=by
 refine qg Tryz.func17 rfl rfl rfl ?_;refine Q.r ?_;exact N.t rfl (kZ _) ⟨rfl,rfl⟩
theorem tX (L:HL):qh kY 20 [wD] L (λr L'=>r=.int .u64 0∧L'=L):=by
 refine qg Tryz.func20 rfl rfl rfl ?_;refine Q.r ?_;exact N.t rfl (kZ _) ⟨rfl,rfl⟩
theorem tU (L:HL):qh kY 14 [wD] L (λr L'=>r=.slice none 0 0∧L'=L):=by
 refine qg Tryz.func14 rfl rfl rfl ?_;refine Q.r ?_;refine S.cr rfl (dr _) ?_;rintro _ _ ⟨rfl,rfl⟩;refine Q.r ?_;exact N.t rfl (kZ _) ⟨rfl,rfl⟩
theorem tV (L:HL):qh kY 15 [wD] L (λr L'=>r=.slice none 0 0∧L'=L):=by
 refine qg Tryz.func15 rfl rfl rfl ?_;refine Q.r ?_;refine S.cr rfl (dr _) ?_;rintro _ _ ⟨rfl,rfl⟩;refine Q.r ?_;exact N.t rfl (kZ _) ⟨rfl,rfl⟩
abbrev dA (s:List UInt8):DK:=⟨-1,false,1000,[([97],s,0)]⟩
theorem f8 (s:List UInt8):qI (dA s)=[[97]]:=by
 unfold qI Jp;exact List.mergeSort_of_pairwise (by simp)
theorem Yn (s:List UInt8):xU (dA s)=4∧yj (dA s)=dA s:=by
 have hl:vO (qI (dA s))= -1:=by
  rw[f8]
  show VH (-1) [97]= -1
  unfold VH;rw[xk zd]
 have hB:la (dA s)=none:=by unfold la;rw[jb (by rw[hl];decide)]
 refine ⟨by unfold xU;rw[ja (by show ¬(false=true);decide),jb hB],by unfold yj;rw[ja (by show ¬(false=true);decide),jb hB]⟩
theorem jB1 (s:List UInt8):JN 1 2 (dA s)=0∧mK 1 2 (dA s)=dA s:=⟨ja (by show ¬1=0;decide),ja (by show ¬1=0;decide)⟩
theorem jFm (s:List UInt8):OpH 1 2 (dA s):=⟨λn hn=>by rw[f8] at hn;rw[ji.1 hn];exact .inr (.inr (.inr rfl)),λh=>by rw[(Yn s).1] at h;cases h⟩
theorem jEZ (s dim:Int):JN s dim (D0 1000)=0∧mK s dim (D0 1000)=(⟨1000,0,qt (ww s dim),[]⟩:LJ).d:=jGx (by
 have h:=Vt (qt (ww s dim));rw[VB] at h ⊢;have:([0,0,0,0]:List UInt8).length=4:=rfl;omega)
theorem jGm (s dim:Int):VP (⟨1000,0,qt (ww s dim),[]⟩:LJ).z (qt (ww s dim)) (epL (ww s dim))=0:=by
 have h:(qC (qv 1)).length≤26∧(qC (qv 1)).length≠0:=Xw;have hp:=Vt (qt (ww s dim));rw[VB] at hp;have h4:([0,0,0,0]:List UInt8).length=4:=rfl;have h1:=Qo (qC (qv 1));refine (bD ⟨1000,0,qt (ww s dim),[]⟩ _ (ps:=[qC (qv 1)]) (Qg zo h.2) (List.cons_ne_nil _ _) ?_).1
 show ¬(1000:Int)<(((wE (qt (ww s dim))).length+0+(wO [qC (qv 1)]).length:Nat):Int)
 rw[VB];omega
theorem Zj (s dim:Int)(a:OA)(c:Nat)(bs:List UInt8)(M:OM)(L:HL)(h:qH M a bs.length 1 (bs.map B))(hc:bs.length≤c)(hT:yE M)(hB:xg M)(hE:Vm M):
  qh kY 4 [.int .i64 s,.int .i64 dim,.slice a bs.length c] (qo M::L) (λv _=>v=.bool true):=by
 refine qg Tryz.func4 rfl rfl rfl ?_;refine Q.r ?_;refine S.cr rfl (gX M _ hT hB hE) ?_;rintro _ _ ⟨rfl,M1,hl1,rfl⟩;have h1:=h.mono hl1;refine Q.r ?_;refine S.cr rfl (tk a c bs 100 _ h1.rd hc zd) ?_;rintro _ _ ⟨a2,c2,rfl,rfl⟩;obtain ⟨sb,hsb⟩:∃s,s=bs.take 100:=⟨_,rfl⟩;have hsl:sb.length≤100:=by rw[hsb,jP];omega
 rw[←hsb];refine wA a2 (λM2 hl2 hs2 hc2=> ?_);have hl02:=hl1.trans hl2;refine Q.r ?_;refine S.cr rfl (jAa 1 _) ?_;rintro _ _ ⟨rfl,rfl⟩;refine Q.r ?_;refine S.cr rfl (tZ 0 a2 c2 sb M2 _ hs2 hc2 (hT.mono hl02) (hB.mono hl02) zo) ?_;rintro _ _ ⟨M3,rfl,hl3,rfl⟩;have hl03:=hl02.trans hl3;refine Q.r ?_;refine S.cr rfl (tU _) ?_;rintro _ _ ⟨rfl,rfl⟩;refine Q.r ?_;refine S.cr rfl (tV _) ?_;rintro _ _ ⟨rfl,rfl⟩;refine Q.r ?_;refine S.cr rfl (gW _) ?_;rintro _ _ ⟨rfl,rfl⟩;refine Q.r ?_;refine S.cr rfl (YQ _) ?_;rintro _ _ ⟨rfl,rfl⟩;refine Q.r ?_;refine S.cr rfl (dr _) ?_;rintro _ _ ⟨rfl,rfl⟩;refine Q.r ?_;refine S.cr rfl (nI _) ?_;rintro _ _ ⟨rfl,rfl⟩;refine Q.r ?_;refine S.cr rfl (tY _) ?_;rintro _ _ ⟨rfl,rfl⟩
 (refine GQ.g ?_;refine Q.gq ?_)
 refine S.y (Y.add rfl rfl) ?_;rw[show IntKind.u64.wrap (0+0)=0 by decide];refine Q.r ?_;refine S.cr rfl (tX _) ?_;rintro _ _ ⟨rfl,rfl⟩
 (refine GQ.g ?_;refine Q.gq ?_)
 refine S.y (Y.add rfl rfl) ?_;rw[show IntKind.u64.wrap (0+0)=0 by decide];refine Q.r ?_;refine S.cr rfl (nH 1 2 M3 _ zd zd zd zd) ?_;rintro _ _ ⟨rfl,rfl⟩;refine Q.r ?_;refine S.cr rfl (Wr 1000 _ zd) ?_;rintro _ _ ⟨p,rfl,rfl⟩;refine Q.r ?_;(repeat (intro b1;refine Q.r ?_));refine yx b1 (t:=34) (l:=[.slice a2 sb.length c2]) (m:=1) (cs:=[.slice a2 sb.length c2]) (jz _) rfl (λM4 hl4 hs4=> ?_);have hl04:=hl03.trans hl4;have hs24:qH M4 a2 sb.length 1 (sb.map B):=hs2.mono (hl3.trans hl4);have hcv:qV [(⟨a2,c2,sb⟩:YB)]=sb:=by simp
 refine S.ckm p rfl (Vi p (D0 1000) [97] (some ⟨b1,0,none⟩) 1 [⟨a2,c2,sb⟩] M4 _ ⟨by decide,by decide,by decide⟩ zd hs4 (λv hv=>by rw[ji.1 hv];exact hs24) (jz _) (by simp) (by rw[hcv];omega)) ?_;rintro _ _ ⟨rfl,M5,hl5,rfl⟩;have hl05:=hl04.trans hl5;rw[hcv];have hw0:Ws (D0 1000) sb=0:=by
  rw[bB (dD 1000)];have:qP (D0 1000).fs=0:=rfl;have hr:(D0 1000).room=1000:=rfl;rw[this,hr,ja zo]
 have hw1:zQ (D0 1000) [97] sb=dA sb:=by rw[XD (dD 1000) hw0];rfl
 rw[hw1];refine Q.r ?_;have hS:=YR p 1 2 (dA sb) M5 L zd zd zd zd (hT.mono hl05) (hB.mono hl05) (hE.mono hl05) (λ_=>by rw[(jB1 sb).2];exact jFm sb);rw[(jB1 sb).2] at hS;refine S.ckm p rfl hS ?_;clear hS;rintro _ _ ⟨M6,hl6,⟨e,d',he,hno,rfl,rfl⟩|⟨_,_,_,_,_,_,_,ho,_⟩⟩
 case inr=>rw[(Yn sb).1] at ho;cases ho
 have he4:e=4:=by
  rcases hno with ⟨a,_⟩|⟨_,_,a,_⟩|⟨_,a,_⟩|⟨_,a,_⟩
  ·exact absurd (jB1 sb).1 a
  ·rw[a];exact (Yn sb).1
  ·rw[(Yn sb).1] at a;cases a
  ·rw[(Yn sb).1] at a;cases a
 subst he4;have hl06:=hl05.trans hl6;refine Q.r ?_;refine S.cr rfl (Wr 1000 _ zd) ?_;rintro _ _ ⟨p2,rfl,rfl⟩;refine Q.r ?_
 by_cases hr:1≤s∧s≤4∧1≤dim∧dim≤8
 ·obtain ⟨r1,r2,r3,r4⟩:=hr
  refine S.ckm p2 rfl (Qb p2 s dim (D0 1000) ⟨1000,0,qt (ww s dim),[]⟩ (ww s dim) [] (ww s dim) M6 _ r1 r2 r3 r4 (hT.mono hl06) (hB.mono hl06) (hE.mono hl06) (jEZ s dim) (LdK.zero r1 r2 r3 r4) (ki _)) ?_;rintro _ _ ⟨M7,hl7,⟨hne,_⟩|⟨_,hw1,c3,pj,q,g,x,rfl,rfl⟩⟩
  ·exact absurd (jGm s dim) hne
  refine Q.r ?_;exact N.t rfl (kZ _) rfl
 ·refine S.cr rfl (tW (qK p2) s dim _ hr) ?_
  rintro _ _ ⟨rfl,rfl⟩
  by_cases r1:s<1
  ·refine Q.r ?_
   exact N.t rfl (kZ _) rfl
  by_cases r2:4<s
  ·refine Q.r ?_
   exact N.t rfl (kZ _) rfl
  by_cases r3:dim<1
  ·refine Q.r ?_
   exact N.t rfl (kZ _) rfl
  have r4:8<dim:=by omega
  refine Q.r ?_;exact N.t rfl (kZ _) rfl
end Go.Proofs.YtlnfjhiphlfkjaaGreatDoor
