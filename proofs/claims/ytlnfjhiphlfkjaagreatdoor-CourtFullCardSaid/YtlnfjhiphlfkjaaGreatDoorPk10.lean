/- Walks of functions, and plain laws, that the last text rests on. No condition. -/
import Derived.Test.YtlnfjhiphlfkjaaGreatDoorPk09
set_option linter.unusedVariables false
set_option linter.unusedSimpArgs false
set_option linter.unusedSectionVars false
set_option maxHeartbeats 8000000
namespace Go.Proofs.YtlnfjhiphlfkjaaGreatDoor
open Go Go.SX
attribute [local irreducible] swp qq qL qJ vZ qh St qi qk vu qH
def packD (d:Int×Int):List UInt8:=numI d.1++numI d.2
def w9 (t:TR):List UInt8:=numI t.txn++numI t.batch++numI t.stamp++numI (t.parts.length:Int)++t.parts.flatMap numI
def Jv (j:JG):List (Int×Int):=(vq (j.done.map (·.1))).map λb=>(b,(qE j.done b).getD 0)
def fj (t:TR):Bool:=decide (0<t.stamp)
def xi (j:JG):List TR:=(ZG j).filter fj
def Vi (j:JG):List UInt8:=numI j.epoch++numI j.last++numI (j.done.length:Int)
def qu (j:JG):List UInt8:=Vi j++(Jv j).flatMap packD++numI ((xi j).length:Int)++(xi j).flatMap w9
theorem lM {j:JG}{b:Int}(h:b∈vq (j.done.map (·.1)))(hk:qm j.done):∃s,qE j.done b=some s:=by
 obtain ⟨u,hu,rfl⟩:=jM.1 ((vE _).mem_iff.1 h);exact ⟨u.2,(vp hk).2 hu⟩
theorem bG {d:Int×Int}(h1:d.1≤18446744073709551615)(h2:d.2≤18446744073709551615):(packD d).length≤20:=by
 have:=qr h1;have:=qr h2;unfold packD;rw[jc];omega
structure PT (x:Int)(t:TR):Prop where
 xx:t.txn=x
 x1:x≤18446744073709551615
 b1:t.batch≤18446744073709551615
 s1:t.stamp≤1099511627776
 pl:t.parts.length≤4
 pb:∀q∈t.parts,0≤q∧q<16
structure PB (j:JG):Prop where
 e0:0≤j.epoch
 e1:j.epoch≤1099511627776
 l0:0≤j.last
 l1:j.last≤1099511627776
 kt:qm j.tr
 kd:qm j.done
 tx:∀u∈j.tr,PT u.1 u.2
 d:∀u∈j.done,u.1≤18446744073709551615∧u.2≤1099511627776
theorem PB.lk {j:JG}(h:PB j){x:Int}{t:TR}(ht:qE j.tr x=some t):PT x t:=h.tx _ ((vp h.kt).1 ht)
theorem WN.pb {j:JG}(h:WN j):PB j:=⟨h.g.b.e0,h.g.b.e1,h.g.b.l0,h.g.b.l1,h.g.kt,h.g.kd,λu hu=>⟨(h.g.tx u hu).xx,(h.t u hu).x1,(h.t u hu).b1,(h.t u hu).s1,(h.g.tx u hu).pl,(h.g.tx u hu).pb⟩,λu hu=>(h.d u hu).2⟩
theorem YG {j:JG}(h:PB j){x:Int}{t:TR}(ht:qE j.tr x=some t):(w9 t).length≤80:=by
 have hW:=h.lk ht;have hx:=hW.xx;have hx1:=hW.x1;have hs1:=hW.s1;have hpl:=hW.pl;have h1:=qr (z:=t.txn) zo;have h2:=qr hW.b1;have h3:=qr (z:=t.stamp) zo;have h4:=qr (z:=(t.parts.length:Int)) zo;have h5:(t.parts.flatMap numI).length≤t.parts.length*10:=yO λq hq=>qr (by have:=hW.pb q hq;omega)
 unfold w9;simp only[jc];omega
theorem f7 {j:JG}(h:PB j){t:TR}(ht:t∈ZG j):qE j.tr t.txn=some t:=by
 obtain ⟨w,hw,rfl⟩:=jM.1 ((QL h.kt).mem_iff.1 ht);rw[(h.tx w hw).xx];exact (vp h.kt).2 hw
theorem tV {j:JG}(h:WN j){x:Int}{t:TR}(ht:qE j.tr x=some t):(w9 t).length≤80:=YG h.pb ht
theorem X1 {j:JG}(h:WN j){t:TR}(ht:t∈ZG j):qE j.tr t.txn=some t:=f7 h.pb ht
theorem th {j:JG}{xs:List Int}{i:Nat}{x:Int}{t:TR}(hx:xs[i]? =some x)(ht:qE j.tr x=some t):(((xs.take (i+1)).filterMap λx=>qE j.tr x).filter fj)=(((xs.take i).filterMap λx=>qE j.tr x).filter fj)++if 0<t.stamp then [t] else []:=by
 rw[qA hx,List.filterMap_append,List.filterMap_cons,ht,jU]
 by_cases h:0<t.stamp
 ·rw[jb h];simp[fj,h]
 ·rw[ja h];simp[fj,h]
theorem jCk {α β:Type}{f:α→β}{l:List α}{m:List β}(h:l.map f=m):l.length=m.length:=by rw[←h,jf]
abbrev ptU (u:TB):Value:=XI u.2
theorem zD (M:OM)(p:Nat)(j:JG)(L:HL)(hw:PB j)(htl:j.tr.length≤100000)(hdl:j.done.length≤100000):
  qh kY 26 [vQ p] (qD M p j::qp M::L) (λr L'=>∃(a:OA) (c:Nat) (M':OM),r=.slice a (qu j).length c∧qV M M'∧L'=slO 5 1 a (qu j).length c ((qu j).map B)::qD M' p j::qp M'::L):=by
 have e0:=hw.e0;have e1:=hw.e1;have l0:=hw.l0;have l1:=hw.l1;refine qg Tryz.func26 rfl rfl rfl ?_;refine Q.r ?_;(repeat (intro b1;refine Q.r ?_));revert b1;intro bw;refine vh jBn ?_;refine V0 p (λmt md ts hq=> ?_);have hlts:ts.length=j.tr.length:=by rw[←hq.tr,jf]
 refine Q.dgo [true,false,false,true] [15,16] [] [0,1,2,3,4,5,6,7,8,9,10,11,12,13,14,15,16] ?_;refine Q.rd ?_;refine D.y rfl rfl rfl zk (Y.cvi rfl) ?_;rw[wrap_u64 zo zo];refine Q.rd ?_;(repeat (intro b1;refine Q.rd ?_));refine D.e rfl rfl rfl ?_;refine S.c1 (A:=wH bw []) rfl (vz bw [] (some ⟨b1,0,none⟩) 3 [j.epoch,j.last,(j.done.length:Int)] _ (qY.row1 rfl) (by intro z hz;rcases (by simpa using hz:z=j.epoch∨z=j.last∨z=(j.done.length:Int)) with rfl|rfl|rfl<;>omega) (by simp)) ?_;rintro _ _ ⟨rfl,rfl⟩;have eW:[]++[j.epoch,j.last,(j.done.length:Int)].flatMap numI=Vi j:=by simp[Vi]
 rw[eW];have hWl:(Vi j).length≤30:=by
  have h1:=qr (z:=j.epoch) zo;have h2:=qr (z:=j.last) zo;have h3:=qr (z:=(j.done.length:Int)) zo;unfold Vi;simp only[jc];omega
 obtain ⟨W0,hW0⟩:∃W0,W0=Vi j:=⟨_,rfl⟩;rw[←hW0] at hWl ⊢;refine Q.r ?_;refine Q.rd ?_;refine Q.r ?_;refine S.cr rfl (ZY (some md) _) ?_;rintro _ _ ⟨bm,rfl,rfl⟩;refine Q.r ?_;refine qo (L':=pt bm (cl [.map (some md)] 129)::gD md j.done::gP p j mt md::wH bw W0::gT mt ts::qF ts::qp M::L) eG ?_;have hs:=pO U64 bm md j.done (gP p j mt md::wH bw W0::gT mt ts::qF ts::qp M::L);refine S.cr rfl (Xs _ _ (j.done.map (·.1)) _ _ (by rw[jf];omega) (by rw[jf];exact hs)) ?_;rintro _ _ ⟨a1,c1,rfl,rfl⟩;rw[jf];have hdk:(vq (j.done.map (·.1))).length=j.done.length:=by rw[wV,jf]
 have hdnl:(Jv j).length=j.done.length:=by unfold Jv;rw[jf,hdk]
 have hdm:∀d∈Jv j,d.1≤18446744073709551615∧d.2≤18446744073709551615:=λd hd=>by
  obtain ⟨b,hb,rfl⟩:=jM.1 hd;obtain ⟨s,hs⟩:=lM hb hw.kd;have hm:=hw.d _ (vM hs);dsimp only;rw[hs];have:=hm.2;exact ⟨hm.1,by show s≤_;omega⟩
 have hpd:∀d∈Jv j,(packD d).length≤20:=λd hd=>bG (hdm d hd).1 (hdm d hd).2
 refine Q.r ?_;refine wF a1 (λM1 hl1 hs1=> ?_);refine qw (σ:=Unit) (λ_=> [(0,vQ p),(3,.pointer (some ⟨bw,0,none⟩))])
  (λ_=>wH bw (W0++(Jv j).flatMap packD)::qD M1 p j::qp M1::L) (λ_=>True) ?_ ?_
 ·refine ql (σ:=Nat) (λi=> [(0,vQ p),(3,.pointer (some ⟨bw,0,none⟩)),(40,.slice a1 j.done.length c1),(41,.int .i64 j.done.length),(42,.int .i64 i)])
   (λi=>wH bw (W0++((Jv j).take i).flatMap packD)::gP p j mt md::gD md j.done::gT mt ts::qF ts::qp M1::L) (λi=>i≤j.done.length) (λi=>j.done.length - i) 0 zt (by simp only[kB,j3,jG];exact eG) (jw _) ?_
  intro i hi
  by_cases hlt:i<j.done.length
  ·obtain ⟨b,hb⟩:=qx (l:=vq (j.done.map (·.1))) (k:=i) zo
   obtain ⟨s,hsb⟩:=lM (jn hb) hw.kd;have hd:(Jv j)[i]? =some (b,s):=by unfold Jv;rw[jZ,hb];simp[hsb]
   obtain ⟨ba,oa,haa,cr⟩:=qI.cm1 (g:=U64) hs1 hb hdk.symm;have hbs:=hdm _ (jn hd);have hXl:(((Jv j).take i).flatMap packD).length≤(Jv j).length*20:=zj i hpd;have hnx:((Jv j).take (i+1)).flatMap packD=((Jv j).take i).flatMap packD++packD (b,s):=Vk hd;generalize hX:((Jv j).take i).flatMap packD=X at hXl hnx ⊢;rw[haa];refine Q.r ?_;refine S.y (Y.lk false rfl rfl (λw=>Tryz.zeroValue31 w)) ?_;rw[hsb];dsimp only;refine Q.r ?_;(repeat (intro b1;refine Q.r ?_));refine S.c1 (A:=wH bw (W0++X)) rfl (vz bw (W0++X) (some ⟨b1,0,none⟩) 2 [b,s] _ (qY.row1 rfl) (by intro z hz;rcases (by simpa using hz:z=b∨z=s) with rfl|rfl;exact hbs.1;exact hbs.2) (by rw[jc];simp only[jC,j7];omega)) ?_;rintro _ _ ⟨rfl,rfl⟩;have eX:W0++X++[b,s].flatMap numI=W0++((Jv j).take (i+1)).flatMap packD:=by rw[hnx];simp[packD]
   rw[eX];refine Q.r ?_;rw[←haa];refine ⟨i+1,zt,by exact eG,hlt,jr j.done.length i hlt⟩
  ·have hie:i=(Jv j).length:=by omega
   rw[hie,jI];refine Q.r ?_;exact ⟨(),zt,qi.trans (Y2 (p:=p) (mt:=mt) (md:=md) (hq.mono hl1)) eG,trivial⟩
 rintro _ _;clear hs hs1;have hW1:(W0++(Jv j).flatMap packD).length≤3000000:=by
  have h1:((Jv j).flatMap packD).length≤(Jv j).length*20:=yO hpd;rw[jc];omega
 obtain ⟨W1,hW1e⟩:∃W1,W1=W0++(Jv j).flatMap packD:=⟨_,rfl⟩;rw[←hW1e] at hW1 ⊢;have hsl:(vq (j.tr.map (·.1))).length=j.tr.length:=by rw[wV,jf]
 refine Q.r ?_;refine S.cgn p rfl (Zs M1 p j _ zo) ?_;rintro _ _ ⟨a2,c2,rfl,rfl⟩;refine Q.r ?_;refine wF a2 (λM2 hl2 hs2=> ?_);refine nB p hl2 ?_;clear hq;clear hlts;refine V0 p (λmt md ts hq=> ?_);refine qw (σ:=OA×Nat×List TB) (λs=> [(3,.pointer (some ⟨bw,0,none⟩)),(6,.slice s.1 s.2.2.length s.2.1)])
  (λs=>slO 148 1 s.1 s.2.2.length s.2.1 (s.2.2.map ptU)::gP p j mt md::gT mt ts::qF ts::gD md j.done::wH bw W1::qp M2::L) (λs=>s.2.2.map (λu=>u.2.2.abs)=xi j∧(∀u∈s.2.2,∃k:Nat,ts[k]? =some u)∧s.2.2.length≤100000) ?_ ?_
 ·refine ql (σ:=Nat×OA×Nat×List TB) (λs=> [(0,vQ p),(3,.pointer (some ⟨bw,0,none⟩)),(58,.slice a2 j.tr.length c2),(59,.int .i64 j.tr.length),(6,.slice s.2.1 s.2.2.2.length s.2.2.1),(60,.int .i64 s.1)])
   (λs=>slO 148 1 s.2.1 s.2.2.2.length s.2.2.1 (s.2.2.2.map ptU)::gP p j mt md::gT mt ts::qF ts::gD md j.done::wH bw W1::qp M2::L) (λs=>s.1≤j.tr.length∧s.2.2.2.map (λu=>u.2.2.abs)=((((vq (j.tr.map (·.1))).take s.1).filterMap λx=>qE j.tr x).filter fj)∧(∀u∈s.2.2.2,∃k:Nat,ts[k]? =some u)∧s.2.2.2.length≤s.1) (λs=>j.tr.length - s.1) (0,none,0,[]) zt (qi.trans (vj (t:=148) (sz:=1)) eG) ⟨jw _,rfl,λ_ h=>(by cases h),jz _⟩ ?_
  rintro ⟨i,a3,c3,us⟩ ⟨hi,hus,huk,hul⟩;dsimp only at hi hus huk hul ⊢
  by_cases hlt:i<j.tr.length
  ·obtain ⟨x,hx⟩:=qx (l:=vq (j.tr.map (·.1))) (k:=i) zo
   obtain ⟨t,ht⟩:=di (jn hx) hw.kt;obtain ⟨ba,oa,haa,cr⟩:=qI.cm1 (g:=U64) hs2 hx hsl.symm;have hsn:=th hx ht;have hlk:=Xk hq.tr x;rw[ht] at hlk;rw[haa];refine Q.r ?_;refine S.y (Y.lk false rfl rfl (λw=>Tryz.zeroValue148 w)) ?_
   cases hz:qE (α:=Nat×TV) ts x with
   |none=>rw[hz] at hlk;cases hlk
   |some u=>
    rw[hz] at hlk;obtain ⟨k,hkk⟩:=VB hz;have htu:t=u.2.abs:=Option.some.inj hlk;dsimp only;refine Q.r ?_;refine yI hkk ?_
    by_cases hs:0<u.2.stamp
    ·have hs':0<t.stamp:=by rw[htu];exact hs
     rw[jb hs'] at hsn;refine Q.r ?_;(repeat (intro b1;refine Q.r ?_));refine S.app rfl rfl (vG.sl vi.row zr zr) zr zo zo (λa7 c7=> ?_);refine Q.r ?_;rw[←haa];refine ⟨(i+1,a7,c7,us++[(x,u)]),⟨rfl,rfl,rfl,rfl,jj some (by simp),rfl,trivial⟩,?_,⟨hlt,?_,?_,?_⟩,jr j.tr.length i hlt⟩
     ·dsimp only
      have e9:(us++[((x,u):TB)]).map ptU=us.map ptU++[XI u]:=by rw[jq];rfl
      rw[qG,e9];refine qi.trans (M:=vk u::qF (ts.eraseIdx k)::slO 148 1 a7 (us.length+1) c7 (us.map ptU++[XI u])::gP p j mt md::gT mt ts::gD md j.done::wH bw W1::qp M2::L) eG (qi.trans (zX hkk) ?_);exact eG
     ·dsimp only
      rw[hsn,jq,hus,htu];rfl
     ·intro w hw
      rcases jy.1 hw with hw|hw
      ·exact huk w hw
      ·rw[ji] at hw;subst hw;exact ⟨k,hkk⟩
     ·dsimp only
      rw[qG];omega
    ·have hs':¬0<t.stamp:=by rw[htu];exact hs
     rw[ja hs',jG] at hsn;refine Q.r ?_;rw[←haa];refine ⟨(i+1,a3,c3,us),zt,?_,⟨hlt,by dsimp only;rw[hsn];exact hus,huk,Nat.le_succ_of_le hul⟩,jr j.tr.length i hlt⟩;dsimp only;refine qi.trans (M:=vk u::qF (ts.eraseIdx k)::slO 148 1 a3 us.length c3 (us.map ptU)::gP p j mt md::gT mt ts::gD md j.done::wH bw W1::qp M2::L) eG (qi.trans (zX hkk) ?_);exact eG
  ·have hie:i=(vq (j.tr.map (·.1))).length:=by omega
   rw[hie,jI] at hus;refine Q.r ?_;exact ⟨(a3,c3,us),zt,by exact eG,hus,huk,by dsimp only;omega⟩
 rintro ⟨a3,c3,us⟩ ⟨hus,huk,hul⟩;dsimp only at hus huk hul ⊢;refine wF a3 (λM3 hl3 hs3=> ?_);have hcl:us.length=(xi j).length:=jCk hus;refine Q.r ?_;refine S.y (Y.cvi rfl) ?_;rw[wrap_u64 zo zo];refine Q.r ?_;(repeat (intro b1;refine Q.r ?_));refine S.c1 (A:=wH bw W1) rfl (vz bw W1 (some ⟨b1,0,none⟩) 1 [(us.length:Int)] _ (qY.row1 rfl) (by intro z hz;rw[ji.1 hz];omega) (by simp only[jC,j7];omega)) ?_;rintro _ _ ⟨rfl,rfl⟩;have hW2:(W1++[(us.length:Int)].flatMap numI).length≤3000010:=by
  have h1:=qr (z:=(us.length:Int)) zo;simp only[jK,j3,jG,jc];omega
 have hW2p:qu j=W1++[(us.length:Int)].flatMap numI++us.flatMap λu=>w9 u.2.2.abs:=by
  unfold qu;rw[←hW0,←hW1e,←hcl,←hus,List.flatMap_map];simp
 obtain ⟨W2,hW2e⟩:∃W2,W2=W1++[(us.length:Int)].flatMap numI:=⟨_,rfl⟩;rw[←hW2e] at hW2 hW2p ⊢;have hpt:∀u∈us,(w9 u.2.2.abs).length≤80:=λu hu=>by
  have hm:u.2.2.abs∈xi j:=hus▸jA (f:=λu:TB=>u.2.2.abs) hu;exact YG hw (f7 hw (jB.1 hm).1)
 have hq3:=hq.mono hl3;refine Q.r ?_;refine qw (σ:=Unit) (λ_=> [(3,.pointer (some ⟨bw,0,none⟩))])
  (λ_=>wH bw (qu j)::gP p j mt md::gT mt ts::qF ts::gD md j.done::qp M3::L) (λ_=>True) ?_ ?_
 ·refine ql (σ:=Nat) (λi=> [(3,.pointer (some ⟨bw,0,none⟩)),(87,.slice a3 us.length c3),(88,.int .i64 us.length),(89,.int .i64 i)])
   (λi=>wH bw (W2++(us.take i).flatMap λu=>w9 u.2.2.abs)::gP p j mt md::gT mt ts::qF ts::gD md j.done::qp M3::L) (λi=>i≤us.length) (λi=>us.length - i) 0 zt (by simp only[kB,j3,jG];exact eG) (jw _) ?_
  intro i hi
  by_cases hlt:i<us.length
  ·obtain ⟨u,hu⟩:=qx hlt
   obtain ⟨k,hkk⟩:=huk u (jn hu);have hum:=jn hkk;have hok:=hq3.ok u hum;obtain ⟨ba,oa,haa,cr⟩:=qI.cm1 (g:=ptU) hs3 hu rfl;have hlku:qE j.tr u.1=some u.2.2.abs:=by
    refine (vp hw.kt).2 ?_;rw[←hq.tr];exact jA (f:=λu:TB=>(u.1,u.2.2.abs)) hum
   have hWu:=hw.lk hlku;have hTu:=hw.lk hlku;have hxx:u.2.2.txn=u.1:=hWu.xx;have hx1:=hTu.x1;have hb1:u.2.2.batch≤18446744073709551615:=hTu.b1;have hs1':u.2.2.stamp≤1099511627776:=hTu.s1;have hp4:u.2.2.parts.length≤4:=hWu.pl;have hpb:∀q∈u.2.2.parts,0≤q∧q<16:=hWu.pb;have hXl:((us.take i).flatMap λu=>w9 u.2.2.abs).length≤us.length*80:=zj i hpt;have hnx:((us.take (i+1)).flatMap λu=>w9 u.2.2.abs)=((us.take i).flatMap λu=>w9 u.2.2.abs)++w9 u.2.2.abs:=Vk hu;generalize hX:((us.take i).flatMap λu=>w9 u.2.2.abs)=X at hXl hnx ⊢;rw[haa];refine Q.r ?_;refine QM hkk ?_;refine Q.dgo [true] [23,24] [] [0,1,2,3,4,5,6,7,8,9,10,11,12,13,14,15,16,17,18,19,20,21,22,23,24] ?_;refine Q.rd ?_;refine D.y rfl rfl rfl zk (Y.cvi rfl) ?_;rw[wrap_u64 zo zo];refine Q.rd ?_;(repeat (intro b1;refine Q.rd ?_));refine D.e rfl rfl rfl ?_;refine S.c1 (A:=wH bw (W2++X)) rfl (vz bw (W2++X) (some ⟨b1,0,none⟩) 4 [u.2.2.txn,u.2.2.batch,u.2.2.stamp,(u.2.2.parts.length:Int)] _ (qY.row1 rfl) (by intro z hz;rcases (by simpa using hz:z=u.2.2.txn∨z=u.2.2.batch∨z=u.2.2.stamp∨z=(u.2.2.parts.length:Int)) with rfl|rfl|rfl|rfl<;>omega) (by rw[jc];simp only[jC,j7];omega)) ?_;rintro _ _ ⟨rfl,rfl⟩;have hYl:(W2++X++[u.2.2.txn,u.2.2.batch,u.2.2.stamp,(u.2.2.parts.length:Int)].flatMap numI).length≤20000000:=by
    have h1:=qr (z:=u.2.2.txn) zo;have h2:=qr hb1;have h3:=qr (z:=u.2.2.stamp) zo;have h4:=qr (z:=(u.2.2.parts.length:Int)) zo;simp only[jK,j3,jG,jc];omega
   have hY2:W2++X++[u.2.2.txn,u.2.2.batch,u.2.2.stamp,(u.2.2.parts.length:Int)].flatMap numI++u.2.2.parts.flatMap numI=W2++((us.take (i+1)).flatMap λu=>w9 u.2.2.abs):=by
    rw[hnx];simp[w9]
   generalize W2++X++[u.2.2.txn,u.2.2.batch,u.2.2.stamp,(u.2.2.parts.length:Int)].flatMap numI=Y1 at hYl hY2 ⊢;refine Q.r ?_;refine Q.rd ?_;refine Q.r ?_;refine ql (σ:=Nat) (λm=> [(3,.pointer (some ⟨bw,0,none⟩)),(87,.slice (some ⟨ba,oa,none⟩) us.length c3),(88,.int .i64 us.length),(89,.int .i64 i),(122,.slice u.2.2.pa u.2.2.parts.length u.2.2.pc),(123,.int .i64 u.2.2.parts.length),(124,.int .i64 m)])
    (λm=>wH bw (Y1++(u.2.2.parts.take m).flatMap numI)::vk u.2::qF (ts.eraseIdx k)::gP p j mt md::gT mt ts::gD md j.done::qp M3::L) (λm=>m≤u.2.2.parts.length) (λm=>u.2.2.parts.length - m) 0 zt (by simp only[kB,j3,jG];exact eG) (jw _) ?_
   intro m hm
   by_cases hmt:m<u.2.2.parts.length
   ·obtain ⟨q,hq1⟩:=qx hmt
    obtain ⟨bp,op,hpa,cp⟩:=qI.cm1 (g:=I64) hok.p hq1 rfl;have hqb:=hpb q (jn hq1);have hZl:((u.2.2.parts.take m).flatMap numI).length≤u.2.2.parts.length*10:=zj m λq hq=>qr (by have:=hpb q hq;omega)
    have hnz:(u.2.2.parts.take (m+1)).flatMap numI=(u.2.2.parts.take m).flatMap numI++numI q:=Vk hq1;generalize (u.2.2.parts.take m).flatMap numI=Z at hZl hnz ⊢;rw[hpa];refine Q.r ?_;refine S.y (Y.cvi rfl) ?_;rw[wrap_u64 zo zo];refine Q.r ?_;(repeat (intro b1;refine Q.r ?_));refine S.c1 (A:=wH bw (Y1++Z)) rfl (vz bw (Y1++Z) (some ⟨b1,0,none⟩) 1 [q] _ (qY.row1 rfl) (by intro z hz;rw[ji.1 hz];omega) (by rw[jc];simp only[jC,j7];omega)) ?_;rintro _ _ ⟨rfl,rfl⟩;have eZ:Y1++Z++[q].flatMap numI=Y1++(u.2.2.parts.take (m+1)).flatMap numI:=by rw[hnz];simp
    rw[eZ];refine Q.r ?_;refine ⟨m+1,⟨rfl,rfl,rfl,rfl,by rw[←hpa];rfl,rfl,rfl,trivial⟩,by exact eG,hmt,jr u.2.2.parts.length m hmt⟩
   ·have hme:m=u.2.2.parts.length:=by omega
    rw[hme,jI,hY2];refine Q.r ?_;refine ⟨i+1,zt,?_,hlt,jr us.length i hlt⟩;refine qi.trans (M:=vk u.2::qF (ts.eraseIdx k)::wH bw (W2++((us.take (i+1)).flatMap λu=>w9 u.2.2.abs))::gP p j mt md::gT mt ts::gD md j.done::qp M3::L) eG (qi.trans (zX hkk) ?_);exact eG
  ·have hie:i=us.length:=by omega
   rw[hie,jI,←hW2p];refine Q.r ?_;exact ⟨(),zt,by exact eG,trivial⟩
 rintro _ _;have hpl:(qu j).length≤140737488355328:=by
  rw[hW2p,jc];have h1:(us.flatMap λu=>w9 u.2.2.abs).length≤us.length*80:=yO hpt;omega
 refine Q.r ?_;refine S.c1 (A:=wH bw (qu j)) rfl (W7 bw (qu j) _ hpl) ?_;rintro _ _ ⟨a9,c9,rfl,rfl⟩;refine Q.r ?_;refine N.t rfl (qi.trans (Y2 (p:=p) (mt:=mt) (md:=md) hq3) ?_) ⟨a9,c9,M3,rfl,hl1.trans (hl2.trans hl3),rfl⟩;exact eG
structure RS where
 bs:List UInt8
 bad:Int
 good:Bool
def vx (most:Nat)(s:RS):Nat×RS:=((Kh most s.bs s.bad).1,⟨(Kh most s.bs s.bad).2.1,(Kh most s.bs s.bad).2.2,s.good⟩)
def stF (last:Nat)(s:RS):Nat×RS:=((vx 1099511627776 s).1,{(vx 1099511627776 s).2 with good:=s.good&&decide (0<(vx 1099511627776 s).1)&&decide ((vx 1099511627776 s).1≤last)})
def px (last:Nat):Nat→RS×List (Int×Int)→RS×List (Int×Int)
 |0,s=>s
 |k+1,s=>if (stF last (vx 18446744073709551615 s.1).2).2.bs.length=0 then ((stF last (vx 18446744073709551615 s.1).2).2,qN s.2 ((vx 18446744073709551615 s.1).1:Int) ((stF last (vx 18446744073709551615 s.1).2).1:Int))
  else px last k ((stF last (vx 18446744073709551615 s.1).2).2,qN s.2 ((vx 18446744073709551615 s.1).1:Int) ((stF last (vx 18446744073709551615 s.1).2).1:Int))
def mQ (sh:Nat):Nat→RS×List Int→RS×List Int
 |0,s=>s
 |k+1,s=>mQ sh k ((vx sh s.1).2,s.2++[((vx sh s.1).1:Int)])
def Ja (ps:List Int)(k:Nat):Bool:=decide (∀i,i<k→i=0∨ps.getD (i - 1) 0<ps.getD i 0)
def Kn (ps:List Int):Bool:=decide (0<ps.length)&&decide (0<ps.getD 0 0)
def Q3 (sh last:Nat)(s:RS):RS×TR:=
 let x:=vx 18446744073709551615 s
 let y:=vx 18446744073709551615 x.2
 let z:=stF last y.2
 let n:=vx 4 z.2
 let q:=mQ sh n.1 (n.2,[])
 ({q.1 with good:=q.1.good&&Kn q.2&&Ja q.2 q.2.length},⟨x.1,y.1,z.1,0,0,q.2,[],[],[]⟩)
def rF (sh last:Nat):Nat→RS×List (Int×TR)→RS×List (Int×TR)
 |0,s=>s
 |k+1,s=>rF sh last k ((Q3 sh last s.1).1,qN s.2 (Q3 sh last s.1).2.txn (Q3 sh last s.1).2)
theorem V5 (most:Nat)(s:RS):(vx most s).2.bs.length≤s.bs.length:=by
 unfold vx Kh
 split
 ·exact jz _
 ·split
  ·exact jz _
  ·simp only[jE];omega
theorem gJ :∀(bs:List UInt8) (i n:Nat),(vW bs i n).2.2=0→n<2^(7*i)→i≤9→(vW bs i n).1<18446744073709551616
 | [],i,n,h,_,_=>by simp[vW] at h
 |b::bs,i,n,h,hn,hi=>by
  rw[yv] at h ⊢;have hb:b.toNat % 128<128:=Nat.mod_lt _ zd
  split at h
  ·simp at h
  ·rename_i h9
   rw[ja h9]
   split at h
   ·rename_i h1
    rw[jb h1]
    split at h
    ·simp at h
    ·rename_i h0
     rw[ja h0];exact (pE hn hi hb λe=>by omega).1
   ·rename_i h1
    rw[ja h1];exact gJ bs (i+1) _ h (fw hn hb) (by have:=b.toNat_lt;omega)
theorem wd (most:Nat)(s:RS):(vx most s).1≤most∧(vx most s).1<18446744073709551616:=by
 unfold vx Kh
 split
 ·simp
 ·split
  ·simp
  ·rename_i h
   have h2:(qB s.bs most).2.2=0:=by simpa using h
   dsimp only;unfold qB at h2 ⊢
   by_cases he:(vW s.bs 0 0).2.2≠0
   ·rw[jb he];simp
   ·rw[ja he] at h2 ⊢
    by_cases hm:most<(vW s.bs 0 0).1
    ·rw[jb hm];simp
    ·rw[ja hm]
     exact ⟨by dsimp only;omega,gJ s.bs 0 0 (by simpa using he) (by simp) zo⟩
theorem jD0 (last:Nat)(s:RS):(stF last s).2.bs.length≤s.bs.length:=V5 _ s
abbrev Kx (b r:Nat):HP:=pt b (cl [.pointer (some ⟨r,0,none⟩)] 171)
abbrev d8 (b q:Nat):HP:=pt b (cl [vQ q] 65)
abbrev lx (b:Nat)(g:Bool):HP:=pt b (cl [.bool g] 4)
set_option maxRecDepth 100000 in
theorem nI (b7 b8 b5 r q mt md:Nat)(a:OA)(c:Nat)(s:RS)(j:JG)(last:Nat)(M:OM)(L:HL)(h:qI M a s.bs.length 1 (s.bs.map B))(hc:s.bs.length≤c)(hb:s.bs.length≤1000000000000)(hl:j.last=last):
  qh kY 146 [.pointer (some ⟨b7,0,none⟩),.pointer (some ⟨b8,0,none⟩),.pointer (some ⟨b5,0,none⟩)] (fM r a s.bs.length c s.bad::lx b8 s.good::Kx b7 r::d8 b5 q::gP q j mt md::qp M::L)
   (λv L'=>v=.int .u64 (stF last s).1∧∃a' c',qI M a' (stF last s).2.bs.length 1 ((stF last s).2.bs.map B)∧(stF last s).2.bs.length≤c'∧L'=fM r a' (stF last s).2.bs.length c' (stF last s).2.bad::lx b8 (stF last s).2.good::Kx b7 r::d8 b5 q::gP q j mt md::qp M::L):=by
 refine qg Tryz.func146 rfl rfl rfl ?_;have hn:=bz r a c s.bs s.bad 1099511627776 M (lx b8 s.good::Kx b7 r::d8 b5 q::gP q j mt md::qp M::L) h hc hb;have hx:(Kh 1099511627776 s.bs s.bad).1≤1099511627776:=(wd 1099511627776 s).1;unfold stF vx;dsimp only;generalize Kh 1099511627776 s.bs s.bad=z at hn hx ⊢;obtain ⟨x,bs',bad'⟩:=z;dsimp only at hn hx ⊢;refine Q.r ?_;refine S.cr rfl hn ?_;rintro _ _ ⟨rfl,a',c',hs',hc',rfl⟩;clear hn;obtain ⟨sbs,sbad,g⟩:=s;dsimp only at*
 cases g with
 |false=>
  refine Q.r ?_;exact N.t rfl (kZ _) ⟨rfl,a',c',hs',hc',by simp⟩
 |true=>
  by_cases h0:0<x
  ·have h0':(0:Int)<(x:Int):=by omega
   by_cases h1:x≤last
   ·have h1':(x:Int)≤j.last:=by omega
    refine Q.r ?_;exact N.t rfl (kZ _) ⟨rfl,a',c',hs',hc',by simp[h0,h1,hl]⟩
   ·have h1':¬(x:Int)≤j.last:=by omega
    refine Q.r ?_;exact N.t rfl (kZ _) ⟨rfl,a',c',hs',hc',by simp[h0,h1,hl]⟩
  ·have h0':¬(0:Int)<(x:Int):=by omega
   refine Q.r ?_;exact N.t rfl (kZ _) ⟨rfl,a',c',hs',hc',by simp[h0]⟩
end Go.Proofs.YtlnfjhiphlfkjaaGreatDoor
namespace Go.Proofs.YtlnfjhiphlfkjaaGreatDoor
open Go Go.SX
theorem bE :∀(bs:List UInt8) (i n:Nat),(vW bs i n).2.2=0→i+1≤(vW bs i n).2.1
 | [],i,n,h=>by simp[vW] at h
 |b::bs,i,n,h=>by
  rw[yv] at h ⊢
  split at h
  ·simp at h
  ·rename_i h9
   rw[ja h9]
   split at h
   ·rename_i h1
    rw[jb h1]
    split at h
    ·simp at h
    ·rename_i h0
     rw[ja h0];exact jz _
   ·rename_i h1
    rw[ja h1];have:=bE bs (i+1) _ h;omega
theorem JA {m:Nat}{s:RS}(h:(vx m s).2.bad=0):s.bad=0∧(vx m s).2.bs.length+1≤s.bs.length:=by
 unfold vx Kh at h ⊢
 by_cases h1:s.bad≠0
 ·rw[jb h1] at h
  exact absurd h h1
 ·rw[ja h1] at h ⊢
  by_cases h2:(qB s.bs m).2.2≠0
  ·rw[jb h2] at h
   exact absurd h h2
  ·rw[ja h2]
   refine ⟨kv.1 h1,?_⟩;have h3:=yt s.bs m;have h4:1≤(qB s.bs m).2.1:=by
    have h5:(qB s.bs m).2.2=0:=kv.1 h2;unfold qB at h5 ⊢
    by_cases h6:(vW s.bs 0 0).2.2≠0
    ·rw[jb h6] at h5
     exact absurd h5 h6
    ·rw[ja h6] at h5 ⊢
     by_cases h7:m<(vW s.bs 0 0).1
     ·rw[jb h7] at h5
      simp at h5
     ·rw[ja h7]
      have:=bE s.bs 0 0 (kv.1 h6);dsimp only;omega
   dsimp only;rw[jE];omega
theorem dh {l:Nat}{s:RS}(h:(stF l s).2.bad=0):s.bad=0∧(stF l s).2.bs.length+1≤s.bs.length:=JA (m:=1099511627776) h
theorem su (l:Nat):∀(k:Nat) (s:RS×List (Int×Int)),(px l k s).1.bad=0→s.1.bad=0∧(px l k s).1.bs.length+(px l k s).2.length≤s.1.bs.length+s.2.length
 |0,s,h=>⟨h,jz _⟩
 |k+1,s,h=>by
  have hp:=yf s.2 ((vx 18446744073709551615 s.1).1:Int) ((stF l (vx 18446744073709551615 s.1).2).1:Int);unfold px at h ⊢
  split at h
  ·rename_i h0
   rw[jb h0];have h1:=dh h;have h2:=JA h1.1;refine ⟨h2.1,?_⟩;dsimp only;omega
  ·rename_i h0
   rw[ja h0];have h3:=su l k _ h;have h1:=dh h3.1;have h2:=JA h1.1;refine ⟨h2.1,ke h3.2 ?_⟩;dsimp only;omega
theorem rO (sh:Nat):∀(k:Nat) (s:RS×List Int),(mQ sh k s).1.bad=0→s.1.bad=0
 |0,s,h=>h
 |k+1,s,h=>by
  unfold mQ at h;exact (JA (rO sh k _ h)).1
theorem jBy {sh l:Nat}{s:RS}(h:(Q3 sh l s).1.bad=0):s.bad=0:=by
 unfold Q3 at h;dsimp only at h;exact (JA (JA (dh (JA (rO sh _ _ h)).1).1).1).1
theorem rC (sh l:Nat):∀(k:Nat) (s:RS×List (Int×TR)),(rF sh l k s).1.bad=0→s.1.bad=0
 |0,s,h=>h
 |k+1,s,h=>by
  unfold rF at h;exact jBy (rC sh l k _ h)
theorem jBY (sh:Nat):∀(k:Nat) (s:RS×List Int),(mQ sh k s).2.length=s.2.length+k∧∀v∈(mQ sh k s).2,v∈s.2∨(0≤v∧v≤sh)
 |0,s=>⟨rfl,λv h=>.inl h⟩
 |k+1,s=>by
  unfold mQ;obtain ⟨h1,h2⟩:=jBY sh k ((vx sh s.1).2,s.2++[((vx sh s.1).1:Int)]);refine ⟨by rw[h1];dsimp only;rw[jc,kT];omega,λv hv=> ?_⟩
  rcases h2 v hv with h|h
  ·dsimp only at h
   rcases jy.1 h with h|h
   ·exact .inl h
   ·rw[ji] at h
    have:=(wd sh s.1).1;subst h;exact .inr ⟨by omega,by omega⟩
  ·exact .inr h
theorem jDV {sh l:Nat}(hs:sh≤4)(s:RS):PT (Q3 sh l s).2.txn (Q3 sh l s).2:=by
 unfold Q3;dsimp only;have hx:=(wd 18446744073709551615 s).1;have hy:=(wd 18446744073709551615 (vx 18446744073709551615 s).2).1;have hst:(stF l (vx 18446744073709551615 (vx 18446744073709551615 s).2).2).1≤1099511627776:=(wd 1099511627776 _).1;have hn:=(wd 4 (stF l (vx 18446744073709551615 (vx 18446744073709551615 s).2).2).2).1;obtain ⟨h1,h2⟩:=jBY sh (vx 4 (stF l (vx 18446744073709551615 (vx 18446744073709551615 s).2).2).2).1 ((vx 4 (stF l (vx 18446744073709551615 (vx 18446744073709551615 s).2).2).2).2,[]);refine ⟨rfl,by (try dsimp only);omega,by (try dsimp only);omega,by (try dsimp only);omega,?_,λv hv=> ?_⟩
 ·dsimp only
  rw[h1]
  show 0+_≤4
  omega
 ·rcases h2 v hv with h|h
  ·cases h
  ·omega
theorem jBA {sh l:Nat}(hs:sh≤4):∀(k:Nat) (s:RS×List (Int×TR)),qm s.2→(∀u∈s.2,PT u.1 u.2)→qm (rF sh l k s).2∧(∀u∈(rF sh l k s).2,PT u.1 u.2)∧(rF sh l k s).2.length≤s.2.length+k
 |0,s,h1,h2=>⟨h1,h2,jz _⟩
 |k+1,s,h1,h2=>by
  unfold rF;have hp := yf s.2 (Q3 sh l s.1).2.txn (Q3 sh l s.1).2;obtain ⟨a,b,c⟩ := jBA hs k ((Q3 sh l s.1).1,qN s.2 (Q3 sh l s.1).2.txn (Q3 sh l s.1).2) (vy h1 _ _) (fun u hu => by
   rcases vC hu with h|rfl
   ·exact h2 u h
   ·exact jDV hs s.1)
  exact ⟨a,b,by dsimp only at c;omega⟩
theorem jCU (l:Nat):∀(k:Nat) (s:RS×List (Int×Int)),qm s.2→(∀u∈s.2,u.1≤18446744073709551615∧u.2≤1099511627776)→qm (px l k s).2∧∀u∈(px l k s).2,u.1≤18446744073709551615∧u.2≤1099511627776
 |0,s,h1,h2=>⟨h1,h2⟩
 |k+1,s,h1,h2=>by
  have h3:=vy h1 ((vx 18446744073709551615 s.1).1:Int) ((stF l (vx 18446744073709551615 s.1).2).1:Int);have hx:=(wd 18446744073709551615 s.1).1;have hst:(stF l (vx 18446744073709551615 s.1).2).1≤1099511627776:=(wd 1099511627776 _).1;have h4:∀u∈qN s.2 ((vx 18446744073709551615 s.1).1:Int) ((stF l (vx 18446744073709551615 s.1).2).1:Int),u.1≤18446744073709551615∧u.2≤1099511627776:=λu hu=>by
   rcases vC hu with h|rfl
   ·exact h2 u h
   ·exact ⟨by dsimp only;omega,by dsimp only;omega⟩
  unfold px
  split
  ·exact ⟨h3,h4⟩
  ·exact jCU l k _ h3 h4
attribute [local irreducible] swp qq qL qJ vZ qh St qi qk vu qH
def mV (bs:List UInt8):Nat×Nat×RS:=((vx 1099511627776 ⟨bs,0,true⟩).1,(vx 1099511627776 (vx 1099511627776 ⟨bs,0,true⟩).2).1,(vx 1099511627776 (vx 1099511627776 ⟨bs,0,true⟩).2).2)
def K4 (bs:List UInt8):RS×List (Int×Int):=px (mV bs).2.1 (vx 1048576 (mV bs).2.2).1 ((vx 1048576 (mV bs).2.2).2,[])
def X2 (sh:Nat)(bs:List UInt8):RS×List (Int×TR):=rF sh (mV bs).2.1 (vx 8 (K4 bs).1).1 ((vx 8 (K4 bs).1).2,[])
def Z6 (sh dim:Int)(bs:List UInt8):JG:=⟨sh,dim,(mV bs).1,0,(mV bs).2.1,(X2 sh.toNat bs).2,(K4 bs).2⟩
def td (sh dim:Int)(bs:List UInt8):Prop:=Y7 (X2 sh.toNat bs).1.bs (X2 sh.toNat bs).1.bad=0∧(X2 sh.toNat bs).1.good=true∧qu (Z6 sh dim bs)=bs
open Classical in
noncomputable def Z7 (j:JG)(bs:List UInt8):Int:=if ¬td j.shards j.dim bs then 4 else if 0<j.epoch∨0<j.last∨0<j.done.length+j.tr.length then 10 else 0
open Classical in
noncomputable def XD (j:JG)(bs:List UInt8):JG:=if Z7 j bs=0 then Z6 j.shards j.dim bs else j
theorem rB {sh last:Nat}{s z1 z2 z3 z4 z5:RS}{x y st k:Nat}{ps:List Int}(h1:vx 18446744073709551615 s=(x,z1))(h2:vx 18446744073709551615 z1=(y,z2))(h3:stF last z2=(st,z3))(h4:vx 4 z3=(k,z4))(h5:mQ sh k (z4,[])=(z5,ps)):
  Q3 sh last s=({z5 with good:=z5.good&&Kn ps&&Ja ps ps.length},⟨x,y,st,0,0,ps,[],[],[]⟩):=by
 unfold Q3;simp only[h1,h2,h3,h4,h5]
abbrev TVu (x y st:Nat)(pa:OA)(pc:Nat)(ps:List Int):TV:=⟨x,y,st,0,0,pa,pc,ps,none,0,[],none,0,[],none,0,[]⟩
theorem VF (v:Int)(vs:List Int):Kn (v::vs)=decide (0<v):=by
 unfold Kn;rw[jo (show 0<(v::vs).length from Nat.succ_pos _),jJ];rfl
theorem nN (ps:List Int)(k:Nat):Ja ps (k+1)=(Ja ps k&&decide (k=0∨ps.getD (k - 1) 0<ps.getD k 0)):=by
 unfold Ja;rw[Bool.eq_iff_iff];simp only[jS,jF];exact ⟨λh=>⟨λi hi=>h i zo,h k zo⟩,λ⟨h1,h2⟩ i hi=>by
  by_cases e:i=k
  ·subst e;exact h2
  ·exact h1 i zo⟩
theorem nM (ps:List Int):Ja ps 0=true:=by
 unfold Ja;exact jo λi hi=>absurd hi (Nat.not_lt_zero i)
theorem X9 {ps:List Int}{k:Nat}{v:Int}(h:ps[k]? =some v):ps.getD k 0=v:=by rw[j8,h];rfl
theorem jDU {ts:List TB}(hk:qm ts)(x:Int)(u:Nat×TV){L:HL}:qi (vk u::qF ts::L) (qF (qN ts x u)::L):=by
 rcases wJ ts hk x with ⟨p,b,q,rfl,hp,hq⟩|hn
 ·rw[wv hp hq]
  have h1:(p++(x,b)::q)[p.length]? =some ((x,b):TB):=by rw[kG (jz _),Nat.sub_self];rfl
  have h2:p.length<(p++(x,b)::q).length:=by rw[jc,jC];omega
  have h3:(p++(x,b)::q).set p.length ((x,u):TB)=p++(x,u)::q:=by rw[List.set_append_right _ _ (jz _),Nat.sub_self];rfl
  refine qi.trans (qi.cons (cX h1)) ?_;refine qi.trans (M:=vk u::qF ((p++(x,b)::q).eraseIdx p.length)::L) eG ?_;have:=ny h2 ((x,u):TB) (L:=L);rw[h3] at this;exact this
 ·rw[vJ hn]
  exact cY ts (x,u)
theorem jFP {sh dim:Int}(h1:1≤sh)(h2:sh≤4)(bs:List UInt8):PB (Z6 sh dim bs)∧(Z6 sh dim bs).tr.length≤8:=by
 have he:=(wd 1099511627776 ⟨bs,0,true⟩).1;have hl:=(wd 1099511627776 (vx 1099511627776 ⟨bs,0,true⟩).2).1;have h8:=(wd 8 (K4 bs).1).1;obtain ⟨a,b,c⟩:=jBA (sh:=sh.toNat) (l:=(mV bs).2.1) zo (vx 8 (K4 bs).1).1 ((vx 8 (K4 bs).1).2,[]) (by simp[qm]) (λ_ h=>by cases h);obtain ⟨d,e⟩:=jCU (mV bs).2.1 (vx 1048576 (mV bs).2.2).1 ((vx 1048576 (mV bs).2.2).2,[]) (by simp[qm]) (λ_ h=>by cases h);refine ⟨⟨kQ _,?_,kQ _,?_,a,d,b,e⟩,?_⟩
 ·show ((vx 1099511627776 ⟨bs,0,true⟩).1:Int)≤_
  omega
 ·show ((vx 1099511627776 (vx 1099511627776 ⟨bs,0,true⟩).2).1:Int)≤_
  omega
 ·have c':(Z6 sh dim bs).tr.length≤0+(vx 8 (K4 bs).1).1:=c
  omega
theorem jDT {sh dim:Int}{bs:List UInt8}(h:Y7 (X2 sh.toNat bs).1.bs (X2 sh.toNat bs).1.bad=0):(Z6 sh dim bs).done.length≤bs.length:=by
 have hb:(X2 sh.toNat bs).1.bad=0:=by
  unfold Y7 at h
  by_cases h1:(X2 sh.toNat bs).1.bad≠0
  ·rw[jb h1] at h
   exact h
  ·exact kv.1 h1
 have h1:=rC _ _ _ _ hb;have h2:=JA h1;have h3:=su _ _ _ h2.1;have h4:=V5 1048576 (mV bs).2.2;have h5:=V5 1099511627776 (vx 1099511627776 ⟨bs,0,true⟩).2;have h6:=V5 1099511627776 ⟨bs,0,true⟩;have h7:(Z6 sh dim bs).done.length≤(vx 1048576 (mV bs).2.2).2.bs.length+0:=ke (Nat.le_add_left _ _) h3.2;have h8:(mV bs).2.2.bs.length≤bs.length:=ke h5 h6;omega
theorem nq {j:JG}{bs:List UInt8}(h:¬td j.shards j.dim bs):Z7 j bs=4∧XD j bs=j:=by
 have:Z7 j bs=4:=by unfold Z7;rw[jb h]
 exact ⟨this,by unfold XD;rw[ja (by rw[this];decide)]⟩
theorem Yn {j:JG}{bs:List UInt8}(h:td j.shards j.dim bs)(h2:0<j.epoch∨0<j.last∨0<j.done.length+j.tr.length):Z7 j bs=10∧XD j bs=j:=by
 have:Z7 j bs=10:=by unfold Z7;rw[ja (not_not_intro h),jb h2]
 exact ⟨this,by unfold XD;rw[ja (by rw[this];decide)]⟩
theorem jBw {j:JG}{bs:List UInt8}(h:td j.shards j.dim bs)(h2:¬(0<j.epoch∨0<j.last∨0<j.done.length+j.tr.length)):Z7 j bs=0∧XD j bs=Z6 j.shards j.dim bs:=by
 have:Z7 j bs=0:=by unfold Z7;rw[ja (not_not_intro h),ja h2]
 exact ⟨this,by unfold XD;rw[jb this]⟩
abbrev mY (j:JG)(e l:Nat):JG:=⟨j.shards,j.dim,e,0,l,[],[]⟩
abbrev unF (b7 b8 b5:Nat):Value:=.func (.func 146) #[] #[.pointer (some ⟨b7,0,none⟩),.pointer (some ⟨b8,0,none⟩),.pointer (some ⟨b5,0,none⟩)]
structure RK (M:OM)(a:OA)(c:Nat)(s:RS):Prop where
 sl:qI M a s.bs.length 1 (s.bs.map B)
 c:s.bs.length≤c
 b:s.bs.length≤10000000
theorem RK.mono {M M':OM}{a:OA}{c:Nat}{s:RS}(h:RK M a c s)(hl:qV M M'):RK M' a c s:=⟨h.sl.mono hl,h.c,h.b⟩
abbrev rdS (r:Nat)(a:OA)(c:Nat)(s:RS):HP:=fM r a s.bs.length c s.bad
theorem wu (r:Nat)(a:OA)(c:Nat)(s:RS)(most:Nat)(M:OM)(L:HL)[hM:xq M L](h:RK M a c s):
  qh kY 145 [.pointer (some ⟨r,0,none⟩),.int .u64 most] (rdS r a c s::L)
   (λv L'=>v=.int .u64 (vx most s).1∧∃a' c',RK M a' c' (vx most s).2∧L'=rdS r a' c' (vx most s).2::L):=
 qh.mono (bz r a c s.bs s.bad most M L h.sl h.c (by have:=h.b;omega)) λv L' ⟨h1,a',c',h2,h3,h4⟩=>⟨h1,a',c',⟨h2,h3,ke (V5 most s) h.b⟩,h4⟩
theorem gg (b7 b8 b5 r q mt md:Nat)(a:OA)(c:Nat)(s:RS)(j:JG)(last:Nat)(M:OM)(L:HL)(h:RK M a c s)(hl:j.last=last):
  qh kY 146 [.pointer (some ⟨b7,0,none⟩),.pointer (some ⟨b8,0,none⟩),.pointer (some ⟨b5,0,none⟩)] (rdS r a c s::lx b8 s.good::Kx b7 r::d8 b5 q::gP q j mt md::qp M::L)
   (λv L'=>v=.int .u64 (stF last s).1∧∃a' c',RK M a' c' (stF last s).2∧L'=rdS r a' c' (stF last s).2::lx b8 (stF last s).2.good::Kx b7 r::d8 b5 q::gP q j mt md::qp M::L):=
 qh.mono (nI b7 b8 b5 r q mt md a c s j last M L h.sl h.c (by have:=h.b;omega) hl) λv L' ⟨h1,a',c',h2,h3,h4⟩=>⟨h1,a',c',⟨h2,h3,ke (jD0 last s) h.b⟩,h4⟩
set_option maxRecDepth 100000 in
theorem fH (M:OM)(p:Nat)(j:JG)(a:OA)(c:Nat)(bs:List UInt8)(L:HL)(hs:qI M a bs.length 1 (bs.map B))(hd1:1≤j.dim)(hd2:j.dim≤8)(hb:bs.length≤100000)(htj:j.tr.length≤100000)(hdj:j.done.length≤100000):
  qh kY 77 [vQ p,.slice a bs.length c] (qD M p j::qp M::L) (λr L'=>r=.int .i64 (Z7 j bs)∧∃M',qV M M'∧L'=qD M' p (XD j bs)::qp M'::L):=by
 refine wD λmt md ts hq=> ?_
 have s1:=hq.s1;have s2:=hq.s2;have hlts:ts.length=j.tr.length:=by rw[←hq.tr,jf]
 have hb':bs.length≤1000000:=by omega
 refine qg Tryz.func77 rfl rfl rfl ?_;refine Q.r ?_;refine vo (σ:=Nat×Nat) (λs=> [(0,vQ p),(1,.slice a bs.length c),(5,.pointer (some ⟨s.1,0,none⟩))]) (λs=>d8 s.1 s.2::qD M s.2 (wy j.shards j.dim)::gP p j mt md::gT mt ts::qF ts::gD md j.done::qp M::L) (λ_=>True) ?_ ?_
 ·refine Q.dgo [true,false,false,false,false] [8,12,13] [] [0,1,2,3,4,5,6,7,99999,0,0,0,0,0,0] ?_
  refine Q.rd2 ?_;refine D.two 8 12 [9,10,11,12,13,14] [8,9,10,11,13,14] zk rfl rfl rfl rfl zk zk ?_ ?_
  ·refine S.cr (args:=[.int .i64 j.shards,.int .i64 j.dim]) rfl (W3 M j.shards j.dim _ s1 s2 hd1 hd2) ?_
   rintro _ _ ⟨q,rfl,rfl⟩;refine Q.r ?_;refine Q.rd ?_;(repeat (intro b1;refine Q.rd ?_));refine N.tn ?_;exact ⟨(b1,q),zt,by exact eG,trivial⟩
  ·refine Q.r ?_;(repeat (intro b1;refine Q.r ?_))
   refine Q.rd2 ?_;refine D.e rfl rfl rfl ?_;refine S.cr (args:=[.int .i64 j.shards,.int .i64 j.dim]) rfl (W3 M j.shards j.dim _ s1 s2 hd1 hd2) ?_;rintro _ _ ⟨q,rfl,rfl⟩;refine Q.r ?_;refine Q.rd ?_;refine N.tn ?_;exact ⟨(b1,q),zt,by exact eG,trivial⟩
 rintro ⟨b5,q⟩ _;refine Q.r ?_;refine S.cr rfl (bA a c bs M _ _ hs.rd zo) ?_;rintro _ _ ⟨r,a1,M1,rfl,hl1,hs1,rfl⟩;refine Q.r ?_;(repeat (intro b1;refine Q.r ?_));revert b1;intro b7;refine V0 q (λmt2 md2 ts2 hq2=> ?_);have ht2:ts2=[]:=by
  have:=hq2.tr;exact List.map_eq_nil_iff.1 this
 subst ht2;have hk0:RK M1 a1 bs.length ⟨bs,0,true⟩:=⟨hs1,jz _,(by show bs.length≤_;omega)⟩;have hE:=(wd 1099511627776 ⟨bs,0,true⟩).1;refine Q.dgo [false,false,false,false,true,false,false,true,false,false,false,false] [3,5,8,11] [] [0,1,2,4,3,5,6,7,8,9,10,11] ?_;refine Q.rd2 ?_;refine D.e rfl rfl rfl ?_;refine S.c1 (A:=rdS r a1 bs.length ⟨bs,0,true⟩) rfl (wu r a1 bs.length ⟨bs,0,true⟩ 1099511627776 M1 _ hk0) ?_;rintro _ _ ⟨rfl,a2,c2,hk1,rfl⟩;have eh:mV bs=((vx 1099511627776 ⟨bs,0,true⟩).1,(vx 1099511627776 (vx 1099511627776 ⟨bs,0,true⟩).2).1,(vx 1099511627776 (vx 1099511627776 ⟨bs,0,true⟩).2).2):=rfl;have hg1:(vx 1099511627776 ⟨bs,0,true⟩).2.good=true:=rfl;generalize vx 1099511627776 ⟨bs,0,true⟩=x1 at*;obtain ⟨e,z1⟩:=x1;dsimp only at*;have hLe:=(wd 1099511627776 z1).1;refine Q.r ?_;refine Q.rd2 ?_;refine D.e rfl rfl rfl ?_;refine S.c1 (A:=rdS r a2 c2 z1) rfl (wu r a2 c2 z1 1099511627776 M1 _ hk1) ?_;rintro _ _ ⟨rfl,a3,c3,hk2,rfl⟩;have hg2:(vx 1099511627776 z1).2.good=true:=hg1;generalize vx 1099511627776 z1=x2 at*;obtain ⟨l,z2⟩:=x2;dsimp only at*;refine Q.r ?_;refine Q.rd ?_;refine Q.r ?_;(repeat (intro b1;refine Q.r ?_));revert b1;intro b8;refine S.y (Y.mf rfl rfl) ?_;refine Q.r ?_;refine S.c1 (A:=rdS r a3 c3 z2) rfl (wu r a3 c3 z2 1048576 M1 _ hk2) ?_;rintro _ _ ⟨rfl,a4,c4,hk3,rfl⟩;have hN:=(wd 1048576 z2).1;have eD:K4 bs=px l (vx 1048576 z2).1 ((vx 1048576 z2).2,[]):=by unfold K4;rw[eh]
 have hg3:(vx 1048576 z2).2.good=true:=hg2;generalize vx 1048576 z2=x3 at*;obtain ⟨n,z3⟩:=x3;dsimp only at*;refine Q.r ?_;refine qw (σ:=OA×Nat) (λ_=> [(0,vQ p),(1,.slice a bs.length c),(5,.pointer (some ⟨b5,0,none⟩)),(7,.pointer (some ⟨b7,0,none⟩)),(8,.pointer (some ⟨b8,0,none⟩)),(9,unF b7 b8 b5)])
  (λx=>rdS r x.1 x.2 (K4 bs).1::lx b8 (K4 bs).1.good::Kx b7 r::d8 b5 q::gP q (mY j e l) mt2 md2::gD md2 (K4 bs).2::gT mt2 []::qF []::gP p j mt md::gT mt ts::qF ts::gD md j.done::qp M1::L) (λx=>RK M1 x.1 x.2 (K4 bs).1) ?_ ?_
 ·refine ql (σ:=Nat×RS×List (Int×Int)×OA×Nat) (λx=> [(0,vQ p),(1,.slice a bs.length c),(5,.pointer (some ⟨b5,0,none⟩)),(7,.pointer (some ⟨b7,0,none⟩)),(8,.pointer (some ⟨b8,0,none⟩)),(9,unF b7 b8 b5),(42,.int .u64 n),(43,.int .u64 x.1)])
   (λx=>rdS r x.2.2.2.1 x.2.2.2.2 x.2.1::lx b8 x.2.1.good::Kx b7 r::d8 b5 q::gP q (mY j e l) mt2 md2::gD md2 x.2.2.1::gT mt2 []::qF []::gP p j mt md::gT mt ts::qF ts::gD md j.done::qp M1::L)
   (λx=>x.1≤n∧RK M1 x.2.2.2.1 x.2.2.2.2 x.2.1∧px l (n - x.1) (x.2.1,x.2.2.1)=K4 bs) (λx=>n - x.1) (0,z3,[],a4,c4) zt (by dsimp only;rw[hg3];exact eG) ⟨by omega,hk3,by rw[eD];rfl⟩ ?_
  rintro ⟨i,s,dn,a5,c5⟩ ⟨hi,hk,hD⟩;dsimp only at hi hk hD ⊢
  by_cases hlt:i<n
  ·refine Q.r ?_
   refine S.c1 (A:=rdS r a5 c5 s) rfl (wu r a5 c5 s 18446744073709551615 M1 _ hk) ?_;rintro _ _ ⟨rfl,a6,c6,hk4,rfl⟩;have en:n - i=(n - (i+1))+1:=by omega
   rw[en] at hD;unfold px at hD;have hg4:(vx 18446744073709551615 s).2.good=s.good:=rfl;generalize vx 18446744073709551615 s=x4 at*;obtain ⟨b,z4⟩:=x4;dsimp only at*;refine Q.r ?_;rw[←hg4];refine Q.dgo [false,false,false,true,true,false,false,false,false,false,false,false,false] [6,7] [] [0,1,2,3,4,5,6,7] ?_;refine Q.rd2 ?_;refine D.ea rfl rfl rfl ?_;refine qo (L':=rdS r a6 c6 z4::lx b8 z4.good::Kx b7 r::d8 b5 q::gP q (mY j e l) mt2 md2::qp M1::gD md2 dn::gT mt2 []::qF []::gP p j mt md::gT mt ts::qF ts::gD md j.done::L) eG (S.crF (fs:=[]) (args:=[]) (cs:=[.pointer (some ⟨b7,0,none⟩),.pointer (some ⟨b8,0,none⟩),.pointer (some ⟨b5,0,none⟩)]) rfl rfl (gg b7 b8 b5 r q mt2 md2 a6 c6 z4 (mY j e l) l M1 _ hk4 rfl) ?_);rintro _ _ ⟨rfl,a7,c7,hk5,rfl⟩;generalize stF l z4=x5 at*;obtain ⟨st,z5⟩:=x5;dsimp only at*;refine qQ ?_;refine N.tn ?_;refine D.back ?_;refine Q.rd2 ?_;refine D.e rfl rfl rfl ?_;refine S.mu (g:=U64) (q:=(b:Int)) (r:=U64) (u:=(st:Int)) rfl rfl rfl ?_;refine Q.r ?_;refine Q.rd ?_;refine Q.r ?_;refine S.c1 (A:=rdS r a7 c7 z5) rfl (nR r a7 z5.bs.length c7 z5.bad _) ?_;rintro _ _ ⟨rfl,rfl⟩
   by_cases h0:z5.bs.length=0
   ·rw[jb h0] at hD
    rw[←hD];refine Q.r ?_;exact ⟨(a7,c7),zt,by exact eG,hk5⟩
   ·rw[ja h0] at hD
    refine Q.r ?_;refine S.y (Y.add rfl rfl) ?_;rw[wrap_u64 zo zo];refine Q.r ?_;exact ⟨(i+1,z5,qN dn (b:Int) (st:Int),a7,c7),⟨rfl,rfl,rfl,rfl,rfl,rfl,rfl,jj some (by simp[jU]),trivial⟩,by exact eG,⟨hlt,hk5,hD⟩,jr n i hlt⟩
  ·have hin:i=n:=by omega
   subst hin;rw[Nat.sub_self] at hD;rw[←hD];refine Q.r ?_;exact ⟨(a5,c5),zt,by exact eG,hk⟩
 rintro ⟨a5,c5⟩ hk4;dsimp only at hk4 ⊢;refine Q.r ?_;refine S.c1 (A:=rdS r a5 c5 (K4 bs).1) rfl (wu r a5 c5 (K4 bs).1 8 M1 _ hk4) ?_;rintro _ _ ⟨rfl,a6,c6,hk6,rfl⟩;have hN8:=(wd 8 (K4 bs).1).1;have eT:X2 j.shards.toNat bs=rF j.shards.toNat l (vx 8 (K4 bs).1).1 ((vx 8 (K4 bs).1).2,[]):=by unfold X2;rw[eh]
 have hg6:(vx 8 (K4 bs).1).2.good=(K4 bs).1.good:=rfl;generalize vx 8 (K4 bs).1=x6 at*;obtain ⟨m,z6⟩:=x6;dsimp only at*;rw[←hg6];refine Q.r ?_;refine qw (σ:=OA×Nat×(OM)×List TB) (λ_=> [(0,vQ p),(1,.slice a bs.length c),(5,.pointer (some ⟨b5,0,none⟩)),(7,.pointer (some ⟨b7,0,none⟩)),(8,.pointer (some ⟨b8,0,none⟩))])
  (λx=>rdS r x.1 x.2.1 (X2 j.shards.toNat bs).1::lx b8 (X2 j.shards.toNat bs).1.good::Kx b7 r::d8 b5 q::gP q (mY j e l) mt2 md2::gD md2 (K4 bs).2::gT mt2 x.2.2.2::qF x.2.2.2::gP p j mt md::gT mt ts::qF ts::gD md j.done::qp x.2.2.1::L)
  (λx=>RK x.2.2.1 x.1 x.2.1 (X2 j.shards.toNat bs).1∧qV M1 x.2.2.1∧x.2.2.2.map (λu=>(u.1,u.2.2.abs))=(X2 j.shards.toNat bs).2∧∀u∈x.2.2.2,bI x.2.2.1 u.2.2) ?_ ?_
 ·refine ql (σ:=Nat×RS×OA×Nat×(OM)×List TB) (λx=> [(0,vQ p),(1,.slice a bs.length c),(5,.pointer (some ⟨b5,0,none⟩)),(7,.pointer (some ⟨b7,0,none⟩)),(8,.pointer (some ⟨b8,0,none⟩)),(9,unF b7 b8 b5),(60,.int .u64 m),(61,.int .u64 x.1)])
   (λx=>rdS r x.2.2.1 x.2.2.2.1 x.2.1::lx b8 x.2.1.good::Kx b7 r::d8 b5 q::gP q (mY j e l) mt2 md2::gD md2 (K4 bs).2::gT mt2 x.2.2.2.2.2::qF x.2.2.2.2.2::gP p j mt md::gT mt ts::qF ts::gD md j.done::qp x.2.2.2.2.1::L)
   (λx=>x.1≤m∧RK x.2.2.2.2.1 x.2.2.1 x.2.2.2.1 x.2.1∧qV M1 x.2.2.2.2.1∧(∀u∈x.2.2.2.2.2,bI x.2.2.2.2.1 u.2.2)∧qm x.2.2.2.2.2∧rF j.shards.toNat l (m - x.1) (x.2.1,x.2.2.2.2.2.map (λu=>(u.1,u.2.2.abs)))=X2 j.shards.toNat bs) (λx=>m - x.1) (0,z6,a6,c6,M1,[]) zt eG ⟨by omega,hk6,qV.refl M1,λ_ h=>(by cases h),(by simp[qm]),by rw[eT];rfl⟩ ?_
  rintro ⟨i,s,a7,c7,M2,us⟩ ⟨hi,hk,hl2,huo,hko,hD⟩;dsimp only at hi hk hl2 huo hko hD ⊢
  by_cases hlt:i<m
  ·refine Q.r ?_
   have en:m - i=(m - (i+1))+1:=by omega
   rw[en] at hD;unfold rF at hD;dsimp only at hD;refine Q.dgo [false,false,true,false,false,false,false,false,false,false,false,false,false] [1,3,6] [] [0,2,1,3,4,5,6,7] ?_;refine Q.rd2 ?_;refine D.e rfl rfl rfl ?_;refine S.c1 (A:=rdS r a7 c7 s) rfl (wu r a7 c7 s 18446744073709551615 M2 _ hk) ?_;rintro _ _ ⟨rfl,a8,c8,hk8,rfl⟩;have hg8:(vx 18446744073709551615 s).2.good=s.good:=rfl;generalize e8:vx 18446744073709551615 s=x8 at*;obtain ⟨x,z8⟩:=x8;dsimp only at*;refine Q.r ?_;refine Q.rd2 ?_;refine D.e rfl rfl rfl ?_;refine S.c1 (A:=rdS r a8 c8 z8) rfl (wu r a8 c8 z8 18446744073709551615 M2 _ hk8) ?_;rintro _ _ ⟨rfl,a9,c9,hk9,rfl⟩;have hg9:(vx 18446744073709551615 z8).2.good=s.good:=hg8;generalize e9:vx 18446744073709551615 z8=x9 at*;obtain ⟨y,z9⟩:=x9;dsimp only at*;refine Q.r ?_;refine Q.rd ?_;(repeat (intro b1;refine Q.rd ?_));refine Q.r ?_;revert b1;intro bt;rw[←hg9];refine qo (L':=rdS r a9 c9 z9::lx b8 z9.good::Kx b7 r::d8 b5 q::gP q (mY j e l) mt2 md2::qp M2::pt bt (cl (⟨x,y,0,0,0,none,0,[],none,0,[],none,0,[],none,0,[]⟩:TV).cells 150)::gD md2 (K4 bs).2::gT mt2 us::qF us::gP p j mt md::gT mt ts::qF ts::gD md j.done::L) eG (S.crF (fs:=[]) (args:=[]) (cs:=[.pointer (some ⟨b7,0,none⟩),.pointer (some ⟨b8,0,none⟩),.pointer (some ⟨b5,0,none⟩)]) rfl rfl (gg b7 b8 b5 r q mt2 md2 a9 c9 z9 (mY j e l) l M2 _ hk9 rfl) ?_);rintro _ _ ⟨rfl,a10,c10,hk10,rfl⟩;generalize e10:stF l z9=x10 at*;obtain ⟨st,z10⟩:=x10;dsimp only at*;refine Q.r ?_;refine S.c1 (A:=rdS r a10 c10 z10) rfl (wu r a10 c10 z10 4 M2 _ hk10) ?_;rintro _ _ ⟨rfl,a11,c11,hk11,rfl⟩;have hg11:(vx 4 z10).2.good=z10.good:=rfl;have hn4:=(wd 4 z10).1;generalize e11:vx 4 z10=x11 at*;obtain ⟨np,z11⟩:=x11;dsimp only at*;rw[←hg11];refine Q.r ?_;generalize e12:mQ j.shards.toNat np (z11,[])=x12 at*;obtain ⟨z12,ps⟩:=x12;have hshn:((j.shards.toNat:Nat):Int)=j.shards:=Int.toNat_of_nonneg zo
   have hsw:IntKind.u64.wrap j.shards=((j.shards.toNat:Nat):Int):=by rw[wrap_u64 zo zo,hshn]
   refine qw (σ:=OA×Nat×OA×Nat) (λ_=> [(0,vQ p),(1,.slice a bs.length c),(5,.pointer (some ⟨b5,0,none⟩)),(7,.pointer (some ⟨b7,0,none⟩)),(8,.pointer (some ⟨b8,0,none⟩)),(9,unF b7 b8 b5),(12,.pointer (some ⟨bt,0,none⟩)),(60,.int .u64 m),(61,.int .u64 i)])
    (λw=>rdS r w.1 w.2.1 z12::lx b8 z12.good::Kx b7 r::d8 b5 q::gP q (mY j e l) mt2 md2::qp M2::vk (bt,TVu x y st w.2.2.1 w.2.2.2 ps)::slO 3 1 w.2.2.1 ps.length w.2.2.2 (ps.map I64)::gD md2 (K4 bs).2::gT mt2 us::qF us::gP p j mt md::gT mt ts::qF ts::gD md j.done::L) (λw=>RK M2 w.1 w.2.1 z12∧ps.length≤4∧∀v∈ps,0≤v∧v≤j.shards) ?_ ?_
   ·refine ql (σ:=Nat×RS×List Int×OA×Nat×OA×Nat) (λw=> [(0,vQ p),(1,.slice a bs.length c),(5,.pointer (some ⟨b5,0,none⟩)),(7,.pointer (some ⟨b7,0,none⟩)),(8,.pointer (some ⟨b8,0,none⟩)),(9,unF b7 b8 b5),(12,.pointer (some ⟨bt,0,none⟩)),(60,.int .u64 m),(61,.int .u64 i),(77,.int .u64 np),(78,.int .u64 w.1)])
     (λw=>rdS r w.2.2.2.1 w.2.2.2.2.1 w.2.1::lx b8 w.2.1.good::Kx b7 r::d8 b5 q::gP q (mY j e l) mt2 md2::qp M2::vk (bt,TVu x y st w.2.2.2.2.2.1 w.2.2.2.2.2.2 w.2.2.1)::slO 3 1 w.2.2.2.2.2.1 w.2.2.1.length w.2.2.2.2.2.2 (w.2.2.1.map I64)::gD md2 (K4 bs).2::gT mt2 us::qF us::gP p j mt md::gT mt ts::qF ts::gD md j.done::L)
     (λw=>w.1≤np∧RK M2 w.2.2.2.1 w.2.2.2.2.1 w.2.1∧w.2.2.1.length=w.1∧(∀v∈w.2.2.1,0≤v∧v≤j.shards)∧mQ j.shards.toNat (np - w.1) (w.2.1,w.2.2.1)=(z12,ps)) (λw=>np - w.1) (0,z11,[],a11,c11,none,0) zt eG ⟨by omega,hk11,rfl,λ_ h=>(by cases h),e12⟩ ?_
    rintro ⟨k,z,qs,a13,c13,pa,pc⟩ ⟨hkn,hk13,hql,hqb,hF⟩;dsimp only at hkn hk13 hql hqb hF ⊢
    by_cases hlt2:k<np
    ·refine Q.r ?_
     have en2:np - k=(np - (k+1))+1:=by omega
     rw[en2] at hF;unfold mQ at hF;refine Q.dgo [false,false,true,false,false,false,true,false,false,false,false,true,false,false,false] [12,14,15,19] [19] [0,1,2,3,4,5,6,7,8,9,10,11,12,13,14,15,16,17,18,19] ?_;refine Q.rd2 ?_;refine D.y rfl rfl rfl zk (Y.cvi rfl) ?_;rw[hsw];refine Q.rd2 ?_;refine D.e rfl rfl rfl ?_;refine S.c1 (A:=rdS r a13 c13 z) rfl (wu r a13 c13 z j.shards.toNat M2 _ hk13) ?_;rintro _ _ ⟨rfl,a14,c14,hk14,rfl⟩;have hg14:(vx j.shards.toNat z).2.good=z.good:=rfl;have hv4:=(wd j.shards.toNat z).1;generalize vx j.shards.toNat z=x14 at*;obtain ⟨v,z14⟩:=x14;dsimp only at*;rw[←hg14];refine Q.r ?_;refine Q.rd2 ?_;refine D.y rfl rfl rfl zk (Y.cvi rfl) ?_;rw[vl zo zo];refine Q.rd2 ?_;refine D.e rfl rfl rfl ?_;refine Q.r ?_;(repeat (intro b1;refine Q.r ?_));refine Q.rd2 ?_;refine D.e rfl rfl rfl ?_;refine S.app rfl rfl (vG.sl vi.row zr zr) zr zo zo (λa7 c7=> ?_);refine Q.r ?_;refine Q.rd2 ?_;refine Q.dc rfl rfl rfl rfl ?_;refine Q.r ?_;refine Q.rd2 ?_;refine Q.r ?_;refine S.y (Y.add rfl rfl) ?_;rw[wrap_u64 zo zo];refine Q.r ?_;refine ⟨(k+1,z14,qs++[(v:Int)],a14,c14,a7,c7),⟨rfl,rfl,rfl,rfl,rfl,rfl,rfl,rfl,rfl,rfl,jj some (by simp[jU]),trivial⟩,?_,⟨hlt2,hk14,by dsimp only;rw[qG,hql],λw hw=> ?_,hF⟩,jr np k hlt2⟩
     ·dsimp only[vk,TV.cells,TVu]
      rw[qG,jq,jL,kC];exact eG
     ·rcases jy.1 hw with hw|hw
      ·exact hqb w hw
      ·rw[ji] at hw;subst hw;exact ⟨by omega,by omega⟩
    ·have hkk:k=np:=by omega
     subst hkk;rw[Nat.sub_self] at hF;obtain ⟨rfl,rfl⟩:z=z12∧qs=ps:=by
      have:=hF;simp only[mQ,js] at this;exact this
     refine Q.r ?_;exact ⟨(a13,c13,pa,pc),zt,by exact eG,hk13,by omega,hqb⟩
   rintro ⟨a13,c13,pa,pc⟩ ⟨hk13,hpl,hpb⟩;dsimp only at hk13 hpl hpb ⊢;refine wF pa (λM3 hl3 hs3=> ?_);refine wE ?_;refine vo (σ:=Unit) (λ_=> [(0,vQ p),(1,.slice a bs.length c),(5,.pointer (some ⟨b5,0,none⟩)),(7,.pointer (some ⟨b7,0,none⟩)),(8,.pointer (some ⟨b8,0,none⟩)),(9,unF b7 b8 b5),(12,.pointer (some ⟨bt,0,none⟩)),(60,.int .u64 m),(61,.int .u64 i)]) (λ_=>rdS r a13 c13 z12::lx b8 (z12.good&&Kn ps)::Kx b7 r::d8 b5 q::gP q (mY j e l) mt2 md2::qp M3::vk (bt,TVu x y st pa pc ps)::gD md2 (K4 bs).2::gT mt2 us::qF us::gP p j mt md::gT mt ts::qF ts::gD md j.done::L) (λ_=>True) ?_ ?_
   ·obtain ⟨zb,zbad,zg⟩:=z12
    dsimp only
    cases zg with
    |false=>
     refine Q.r ?_;rw[jN];exact ⟨(),zt,by exact eG,trivial⟩
    |true=>
     cases ps with
     |nil=>
      refine Q.r ?_;rw[show Kn []=false from rfl,jQ];exact ⟨(),zt,by exact eG,trivial⟩
     |cons v0 vs=>
      obtain ⟨bp,op,hpa,cp⟩:=qI.cm1 (g:=I64) (k:=0) hs3 rfl rfl;subst hpa;have hvl:(v0::vs).length=vs.length+1:=rfl
      by_cases h0:0<v0
      ·refine Q.r ?_
       rw[VF,jo h0,jT];exact ⟨(),zt,by exact eG,trivial⟩
      ·refine Q.r ?_
       rw[VF,jv h0,jQ];exact ⟨(),zt,by exact eG,trivial⟩
   rintro _ _;refine Q.r ?_;refine qw (σ:=Unit) (λ_=> [(0,vQ p),(1,.slice a bs.length c),(5,.pointer (some ⟨b5,0,none⟩)),(7,.pointer (some ⟨b7,0,none⟩)),(8,.pointer (some ⟨b8,0,none⟩)),(9,unF b7 b8 b5),(12,.pointer (some ⟨bt,0,none⟩)),(60,.int .u64 m),(61,.int .u64 i)]) (λ_=>rdS r a13 c13 z12::lx b8 (z12.good&&Kn ps&&Ja ps ps.length)::Kx b7 r::d8 b5 q::gP q (mY j e l) mt2 md2::qp M3::vk (bt,TVu x y st pa pc ps)::gD md2 (K4 bs).2::gT mt2 us::qF us::gP p j mt md::gT mt ts::qF ts::gD md j.done::L) (λ_=>True) ?_ ?_
   ·refine ql (σ:=Nat) (λk=> [(0,vQ p),(1,.slice a bs.length c),(5,.pointer (some ⟨b5,0,none⟩)),(7,.pointer (some ⟨b7,0,none⟩)),(8,.pointer (some ⟨b8,0,none⟩)),(9,unF b7 b8 b5),(12,.pointer (some ⟨bt,0,none⟩)),(60,.int .u64 m),(61,.int .u64 i),(125,.int .i64 ps.length),(126,.int .i64 k)]) (λk=>rdS r a13 c13 z12::lx b8 (z12.good&&Kn ps&&Ja ps k)::Kx b7 r::d8 b5 q::gP q (mY j e l) mt2 md2::qp M3::vk (bt,TVu x y st pa pc ps)::gD md2 (K4 bs).2::gT mt2 us::qF us::gP p j mt md::gT mt ts::qF ts::gD md j.done::L) (λk=>k≤ps.length) (λk=>ps.length - k) 0 zt (by rw[nM,jT];exact eG) (jw _) ?_
    intro k hk
    by_cases hlt2:k<ps.length
    ·obtain ⟨w,hw⟩:=qx hlt2
     obtain ⟨bp,op,hpa,cp⟩:=qI.cm1 (g:=I64) hs3 hw rfl;subst hpa;have hS:=nN ps k;rw[X9 hw] at hS;generalize hG:(z12.good&&Kn ps&&Ja ps k)=g;have hG2:(z12.good&&Kn ps&&Ja ps (k+1))=(g&&decide (k=0∨ps.getD (k - 1) 0<w)):=by rw[hS,←Bool.and_assoc,hG]
     refine Q.r ?_
     cases g with
     |false=>
      refine Q.dgo [false,true,false,false,false,true,true,false,false,false,false,false,false,false] [25] [25] [0,1,2,3,4,5,6,7,8,9,10,11,12,13,14,15,16,17,18,19,20,21,22,23,24,25] ?_;refine Q.rd4 ?_;refine Q.dc rfl rfl rfl rfl ?_;refine Q.r ?_;refine Q.rd2 ?_;refine Q.r ?_;exact ⟨k+1,zt,by rw[hG2,jN];exact eG,hlt2,jr ps.length k hlt2⟩
     |true=>
      by_cases hk0':k=0
      ·refine Q.dgo [false,true,false,false,false,true,true,false,false,false,false,false,false,false] [25] [25] [0,1,2,3,4,5,6,7,8,9,10,11,12,13,14,15,16,17,18,19,20,21,22,23,24,25] ?_
       refine Q.rd4 ?_;refine Q.dc rfl rfl rfl rfl ?_;refine Q.r ?_;refine Q.rd2 ?_;refine Q.r ?_;exact ⟨k+1,zt,by rw[hG2,jo (Or.inl hk0'),jT];exact eG,hlt2,jr ps.length k hlt2⟩
      ·obtain ⟨u,hu⟩:=qx (l:=ps) (k:=k - 1) zo
       obtain ⟨bp2,op2,hpa2,cp2⟩:=qI.cm1 (g:=I64) hs3 hu rfl;obtain ⟨rfl,rfl⟩:bp2=bp∧op2=op:=by
        simp only[jk,Addr.mk.injEq] at hpa2;exact ⟨hpa2.1.symm,hpa2.2.1.symm⟩
       have hk1':(k:Int) - 1=((k - 1:Nat):Int):=by omega
       have hk2':k - 1<ps.length:=by omega
       have hw3:decide (k=0∨ps.getD (k - 1) 0<w)=decide (u<w):=by
        rw[X9 hu,decide_eq_decide];exact ⟨λh=>h.elim (λh=>absurd h hk0') id,Or.inr⟩
       refine Q.dgo [false,true,false,false,false,true,true,false,false,false,false,false,false,false] [25] [25] [0,1,2,3,4,5,6,7,8,9,10,11,12,13,14,15,16,17,18,19,20,21,22,23,24,25] ?_;refine Q.rd4 ?_;refine D.y rfl rfl rfl zk (Y.guard rfl (Y.ia (k:=k - 1) (m:=ps.length) rfl rfl hk1' hk2')) ?_;refine Q.rd4 ?_;refine Q.dc rfl rfl rfl rfl ?_;refine Q.r ?_;refine Q.rd2 ?_;refine Q.r ?_;exact ⟨k+1,zt,by rw[hG2,hw3,jJ];exact eG,hlt2,jr ps.length k hlt2⟩
    ·have hke:k=ps.length:=by omega
     subst hke;refine Q.r ?_;exact ⟨(),zt,by exact eG,trivial⟩
   rintro _ _;have hT:=rB e8 e9 e10 e11 e12;rw[hT] at hD;dsimp only at hD;refine Q.dgo [false,false,false,true,true,false,true,false,false,false,false,false,false,false] [10] [] [0,1,2,3,4,5,6,7,8,9,10] ?_;refine Q.rd2 ?_;refine D.e rfl rfl rfl ?_;refine S.mu (g:=U64) (q:=(x:Int)) (r:=XI) (u:=((bt,TVu x y st pa pc ps):Nat×TV)) rfl rfl rfl ?_;refine Q.r ?_;refine Q.rd ?_;refine Q.r ?_;refine S.y (Y.add rfl rfl) ?_;rw[wrap_u64 zo zo];refine Q.r ?_;refine ⟨(i+1,{z12 with good:=z12.good&&Kn ps&&Ja ps ps.length},a13,c13,M3,qN us (x:Int) (bt,TVu x y st pa pc ps)),⟨rfl,rfl,rfl,rfl,rfl,rfl,rfl,jj some (by simp[jU]),trivial⟩,?_,⟨hlt,⟨hk13.sl.mono hl3,hk13.c,hk13.b⟩,hl2.trans hl3,λw hw=> ?_,vy hko _ _,?_⟩,jr m i hlt⟩
   ·dsimp only
    refine qi.trans (M:=vk (bt,TVu x y st pa pc ps)::qF us::rdS r a13 c13 z12::lx b8 (z12.good&&Kn ps&&Ja ps ps.length)::Kx b7 r::d8 b5 q::gP q (mY j e l) mt2 md2::gD md2 (K4 bs).2::gT mt2 (qN us (x:Int) (bt,TVu x y st pa pc ps))::gP p j mt md::gT mt ts::qF ts::gD md j.done::qp M3::L) eG ?_;refine qi.trans (jDU hko (x:Int) _) ?_;exact eG
   ·dsimp only at hw ⊢
    have hw2:w.2=(bt,TVu x y st pa pc ps)∨w∈us:=by
     rcases vC hw with h|h
     ·exact .inr h
     ·exact .inl (by rw[h])
    rcases hw2 with e|hw
    ·rw[e]
     exact ⟨hs3,qI.nil0,qI.nil0,qI.nil0,λo ho=>(by cases ho),(by show ps.length≤_;omega),jw _,jw _,jw _⟩
    ·exact (huo w hw).mono hl3
   ·dsimp only
    rw[gA (κ:=Int) (α:=Nat×TV) (λu=>u.2.abs) us (x:Int) (bt,TVu x y st pa pc ps)];exact hD
  ·have him:i=m:=by omega
   subst him;rw[Nat.sub_self] at hD;rw[←hD];refine Q.r ?_;exact ⟨(a7,c7,M2,us),zt,kZ _,hk,hl2,rfl,huo⟩
 rintro ⟨a14,c14,M2,us⟩ ⟨hk14,hl14,hus,huo⟩;dsimp only at hk14 hl14 hus huo ⊢;have hG:Z6 j.shards j.dim bs=⟨j.shards,j.dim,e,0,l,(X2 j.shards.toNat bs).2,(K4 bs).2⟩:=by unfold Z6;rw[eh]
 have hlM:=hl1.trans hl14;have hqG:Vo M2 (Z6 j.shards j.dim bs) us:=by rw[hG];exact ⟨s1,s2,hus,huo⟩
 have hshut:∀L',qi (gP q (mY j e l) mt2 md2::gT mt2 us::qF us::gD md2 (K4 bs).2::L') (qD M2 q (Z6 j.shards j.dim bs)::L'):=λL'=>by
  have:=qS (p:=q) (mt:=mt2) (md:=md2) (L:=L') hqG;rw[hG] at this ⊢;exact this
 obtain ⟨hpb,htl⟩:=jFP (dim:=j.dim) s1 s2 bs;have hlen:=jDT (sh:=j.shards) (dim:=j.dim) (bs:=bs);refine Q.r ?_;refine S.c1 (A:=rdS r a14 c14 (X2 j.shards.toNat bs).1) rfl (bB r a14 c14 (X2 j.shards.toNat bs).1.bs (X2 j.shards.toNat bs).1.bad _) ?_;rintro _ _ ⟨rfl,rfl⟩
 by_cases hend:Y7 (X2 j.shards.toNat bs).1.bs (X2 j.shards.toNat bs).1.bad=0
 ·have hdl:=hlen hend
  rw[hend]
  cases hgd:(X2 j.shards.toNat bs).1.good with
  |true=>
   refine Q.r ?_;refine qo (qi.trans (M:=gP q (mY j e l) mt2 md2::gT mt2 us::qF us::gD md2 (K4 bs).2::qp M2::d8 b5 q::gP p j mt md::gT mt ts::qF ts::gD md j.done::L) eG (hshut _)) ?_;refine S.cg q rfl (zD M2 q (Z6 j.shards j.dim bs) _ hpb zo zo) ?_;rintro _ _ ⟨ap,cp,M4,rfl,hl4,rfl⟩;refine Q.r ?_;refine qR ap (λM5 hl5 hs5=> ?_);have hlM5:=hlM.trans (hl4.trans hl5);refine S.c1 (A:=qp M5) rfl (lJ ap a cp c (qu (Z6 j.shards j.dim bs)) bs M5 _ hs5 (hs.mono hlM5) zo) ?_;rintro _ _ ⟨rfl,rfl⟩
   by_cases hpk:qu (Z6 j.shards j.dim bs)=bs
   ·rw[jo hpk]
    have hok:td j.shards j.dim bs:=⟨hend,hgd,hpk⟩;refine Q.r ?_
    by_cases he0:0<j.epoch
    ·have hfu:=Yn hok (.inl he0)
     refine Q.dgo [false,false,false,true,true,false,true] [] [] [0,1,2,3,4,5,6,7,8,9,10,11,12,13,14,15,16,17,18,19,20,21,22,23,24,25] ?_;refine Q.rd7 ?_;refine Q.r ?_;rw[hfu.1,hfu.2];exact N.t rfl (qi.trans (M:=gP p j mt md::gT mt ts::qF ts::gD md j.done::qp M5::L) eG (qS (hq.mono hlM5))) ⟨rfl,M5,hlM5,rfl⟩
    ·by_cases hl0:0<j.last
     ·have hfu:=Yn hok (.inr (.inl hl0))
      refine Q.dgo [false,false,false,true,true,false,true] [] [] [0,1,2,3,4,5,6,7,8,9,10,11,12,13,14,15,16,17,18,19,20,21,22,23,24,25] ?_;refine Q.rd7 ?_;refine Q.r ?_;rw[hfu.1,hfu.2];exact N.t rfl (qi.trans (M:=gP p j mt md::gT mt ts::qF ts::gD md j.done::qp M5::L) eG (qS (hq.mono hlM5))) ⟨rfl,M5,hlM5,rfl⟩
     ·by_cases hz:0<j.done.length+j.tr.length
      ·have hfu:=Yn hok (.inr (.inr hz))
       refine Q.dgo [false,false,false,true,true,false,true] [] [] [0,1,2,3,4,5,6,7,8,9,10,11,12,13,14,15,16,17,18,19,20,21,22,23,24,25] ?_;refine Q.rd7 ?_;refine Q.r ?_;rw[hfu.1,hfu.2];exact N.t rfl (qi.trans (M:=gP p j mt md::gT mt ts::qF ts::gD md j.done::qp M5::L) eG (qS (hq.mono hlM5))) ⟨rfl,M5,hlM5,rfl⟩
      ·have hfu:=jBw hok (λh=>h.elim he0 λh=>h.elim hl0 hz)
       refine Q.dgo [false,false,false,true,true,false,true] [] [] [0,1,2,3,4,5,6,7,8,9,10,11,12,13,14,15,16,17,18,19,20,21,22,23,24,25] ?_;refine Q.rd7 ?_;refine Q.r ?_;refine jB8 q (λmt3 md3 us3 hq3=> ?_);refine Q.r ?_;rw[hfu.1,hfu.2];exact N.t rfl (qi.trans (M:=gP p (Z6 j.shards j.dim bs) mt3 md3::gT mt3 us3::qF us3::gD md3 (Z6 j.shards j.dim bs).done::qp M5::L) eG (qS (hq3.mono hl5))) ⟨rfl,M5,hlM5,rfl⟩
   ·rw[jv hpk]
    have hno:=nq (j:=j) (bs:=bs) (λh=>hpk h.2.2);refine Q.r ?_;rw[hno.1,hno.2];exact N.t rfl (qi.trans (M:=gP p j mt md::gT mt ts::qF ts::gD md j.done::qp M5::L) eG (qS (hq.mono hlM5))) ⟨rfl,M5,hlM5,rfl⟩
  |false=>
   have hno:=nq (j:=j) (bs:=bs) (λh=>by have:=h.2.1;rw[hgd] at this;cases this);refine Q.r ?_;rw[hno.1,hno.2];exact N.t rfl (qi.trans (M:=gP p j mt md::gT mt ts::qF ts::gD md j.done::qp M2::L) eG (qS (hq.mono hlM))) ⟨rfl,M2,hlM,rfl⟩
 ·have hno:=nq (j:=j) (bs:=bs) (λh=>hend h.1)
  refine Q.r ?_;rw[hno.1,hno.2];exact N.t rfl (qi.trans (M:=gP p j mt md::gT mt ts::qF ts::gD md j.done::qp M2::L) eG (qS (hq.mono hlM))) ⟨rfl,M2,hlM,rfl⟩
end Go.Proofs.YtlnfjhiphlfkjaaGreatDoor
namespace Go.Proofs.YtlnfjhiphlfkjaaGreatDoor
open Go Go.SX
theorem y7 {z:Int}{most:Nat}{g:Bool}{rest:List UInt8}(h0:0≤z)(h1:z≤most)(hm:z≤18446744073709551615):vx most ⟨numI z++rest,0,g⟩=(z.toNat,⟨rest,0,g⟩):=by
 unfold vx;dsimp only;rw[jAc rest h0 hm h1]
theorem jBK {z:Int}{last:Nat}{rest:List UInt8}(h0:0<z)(h1:z≤last)(h2:z≤1099511627776):stF last ⟨numI z++rest,0,true⟩=(z.toNat,⟨rest,0,true⟩):=by
 unfold stF;rw[y7 zo zo zo];have e1:decide (0<z.toNat)=true:=jo zo;have e2:decide (z.toNat≤last)=true:=jo zo;simp only[e1,e2,jT]
theorem jEf (z:Int):(numI z).length≠0:=by
 unfold numI
 split
 ·simp
 ·rw[Ki]
  split<;>simp
theorem jCT {last:Nat}(hl:last≤1099511627776){rest:List UInt8}(hr:rest.length≠0):∀(ds acc:List (Int×Int)),(∀d∈ds,0≤d.1∧d.1≤18446744073709551615∧0<d.2∧d.2≤last)→qm (acc++ds)→
  px last ds.length (⟨ds.flatMap packD++rest,0,true⟩,acc)=(⟨rest,0,true⟩,acc++ds)
 | [],acc,_,_=>by
  unfold px
  simp
 |d::ds,acc,h,hk=>by
  obtain ⟨a,b,c,e⟩:=h d kg;have e1:(d::ds).flatMap packD++rest=numI d.1++(numI d.2++(ds.flatMap packD++rest)):=by
   rw[jK];unfold packD;simp only[ju]
  have hne:(ds.flatMap packD++rest).length≠0:=by rw[jc];omega
  have hno:∀u∈acc,u.1≠d.1:=by
   unfold qm at hk;rw[jq,List.nodup_append] at hk;intro u hu;exact hk.2.2 u.1 (jA hu) d.1 (by simp)
  rw[e1,jC];unfold px;dsimp only;rw[y7 a zo b,jBK c e zo];dsimp only;rw[ja hne,Int.toNat_of_nonneg a,Int.toNat_of_nonneg zo,vJ hno];have:=jCT hl hr ds (acc++[(d.1,d.2)]) (λx hx=>h x (jV _ hx)) (by rw[ju];exact hk);rw[this,ju];rfl
theorem jBX {sh:Nat}{g:Bool}{rest:List UInt8}:∀(ps acc:List Int),(∀q∈ps,0≤q∧q≤sh∧q≤18446744073709551615)→mQ sh ps.length (⟨ps.flatMap numI++rest,0,g⟩,acc)=(⟨rest,0,g⟩,acc++ps)
 | [],acc,_=>by
  unfold mQ
  simp
 |q::ps,acc,h=>by
  obtain ⟨a,b,c⟩:=h q kg;have e1:(q::ps).flatMap numI++rest=numI q++(ps.flatMap numI++rest):=by rw[jK,ju]
  rw[e1,jC];unfold mQ;dsimp only;rw[y7 a b c];dsimp only;rw[Int.toNat_of_nonneg a,jBX ps (acc++[q]) λx hx=>h x (jV _ hx),ju];rfl
structure TU (sh last:Nat)(t:TR):Prop where
 x0:0≤t.txn
 x1:t.txn≤18446744073709551615
 b0:0≤t.batch
 b1:t.batch≤18446744073709551615
 s0:0<t.stamp
 s1:t.stamp≤last
 r:Jn t.parts
 pl:t.parts.length≤4
 pn:t.parts≠[]
 pb:∀q∈t.parts,1≤q∧q≤sh
abbrev TR.bare (t:TR):TR:=⟨t.txn,t.batch,t.stamp,0,0,t.parts,[],[],[]⟩
theorem jD3 {ps:List Int}(h:Jn ps):Ja ps ps.length=true:=by
 unfold Ja;refine jo λi hi=> ?_
 by_cases h0:i=0
 ·exact .inl h0
 ·right
  obtain ⟨u,hu⟩:=qx (l:=ps) (k:=i - 1) zo;obtain ⟨w,hw⟩:=qx hi;rw[X9 hu,X9 hw];obtain ⟨a,rfl⟩:=jm.1 hu;obtain ⟨b,rfl⟩:=jm.1 hw;exact List.pairwise_iff_getElem.1 h (i - 1) i a b zo
theorem jDW {sh last:Nat}(hl:last≤1099511627776)(hs:sh≤4){t:TR}(h:TU sh last t)(rest:List UInt8):Q3 sh last ⟨w9 t++rest,0,true⟩=(⟨rest,0,true⟩,t.bare):=by
 have e1:w9 t++rest=numI t.txn++(numI t.batch++(numI t.stamp++(numI (t.parts.length:Int)++(t.parts.flatMap numI++rest)))):=by unfold w9;simp only[ju]
 have hpl:=h.pl;have h0:=h.x0;have h2:=h.b0;have h4:=h.s0;have h5:=h.s1;have hP:mQ sh ((t.parts.length:Int)).toNat (⟨t.parts.flatMap numI++rest,0,true⟩,[])=(⟨rest,0,true⟩,t.parts):=by
  rw[kz,jBX t.parts [] λq hq=>⟨by have:=h.pb q hq;omega,(h.pb q hq).2,by have:=h.pb q hq;omega⟩];rfl
 rw[e1,rB (y7 h.x0 (by have:=h.x1;omega) h.x1) (y7 h.b0 (by have:=h.b1;omega) h.b1) (jBK h.s0 h.s1 zo) (y7 (kQ _) zo zo) hP];have hh:Kn t.parts=true:=by
  cases hp:t.parts with
  |nil=>exact absurd hp h.pn
  |cons v vs=>
   rw[VF];exact jo (by have:=(h.pb v (by rw[hp];exact kg)).1;omega)
 rw[hh,jD3 h.r,Int.toNat_of_nonneg h0,Int.toNat_of_nonneg h2,Int.toNat_of_nonneg zo];rfl
theorem jBz {sh last:Nat}(hl:last≤1099511627776)(hs:sh≤4){rest:List UInt8}:∀(ts:List TR) (acc:List (Int×TR)),(∀t∈ts,TU sh last t)→(∀u∈acc,∀t∈ts,u.1≠t.txn)→(ts.map TR.txn).Nodup→
  rF sh last ts.length (⟨ts.flatMap w9++rest,0,true⟩,acc)=(⟨rest,0,true⟩,acc++ts.map λt=>(t.txn,t.bare))
 | [],acc,_,_,_=>by
  unfold rF
  simp
 |t::ts,acc,h,hd,hn=>by
  have e1:(t::ts).flatMap w9++rest=w9 t++(ts.flatMap w9++rest):=by rw[jK,ju]
  rw [jL,List.nodup_cons] at hn;rw [e1,jC];unfold rF;dsimp only;rw [jDW hl hs (h t kg)];dsimp only;rw [vJ fun u hu => hd u hu t kg];rw [jBz hl hs ts (acc ++ [(t.txn,t.bare)]) (fun x hx => h x (jV _ hx)) (fun u hu x hx => by
   rcases jy.1 hu with hu|hu
   ·exact hd u hu x (jV _ hx)
   ·rw[ji] at hu
    subst hu;intro e;exact hn.1 (by rw[show t.txn=x.txn from e];exact jA hx)) hn.2,ju]
  rfl
abbrev xu (j:JG):JG:=⟨j.shards,j.dim,j.epoch,0,j.last,(xi j).map λt=>(t.txn,t.bare),Jv j⟩
theorem Wk (j:JG):(Jv j).map (·.1)=vq (j.done.map (·.1)):=by
 unfold Jv;rw[kE];exact List.map_id' _
theorem pw {j:JG}(hk:qm j.done):qm (Jv j):=by
 unfold qm;rw[Wk];exact (vE _).nodup_iff.2 hk
theorem jGu {j:JG}(hk:qm j.done){b:Int}(h:b∈vq (j.done.map (·.1))):qE (Jv j) b=some ((qE j.done b).getD 0):=
 (vp (pw hk)).2 (jA (f:=λb=>(b,(qE j.done b).getD 0)) h)
theorem jEG {j:JG}(hk:qm j.done):Jv (xu j)=Jv j:=by
 show (vq ((Jv j).map (·.1))).map (λb=>(b,(qE (Jv j) b).getD 0))=Jv j
 rw[Wk,gk (vE (j.done.map (·.1)))];unfold Jv;refine List.map_congr_left λb hb=> ?_
 have:=jGu hk hb;unfold Jv at this;rw[this];rfl
theorem jCO {f:Int→Option TR}:∀{l:List Int},(∀x∈l,∃t,f x=some t∧t.txn=x)→(l.filterMap f).map TR.txn=l
 | [],_=>rfl
 |x::l,h=>by
  obtain ⟨t,h1,h2⟩:=h x kg;rw[List.filterMap_cons,h1];dsimp only;rw[jL,h2,jCO λy hy=>h y (jV _ hy)]
theorem tg {j:JG}(h:PB j):(ZG j).map TR.txn=vq (j.tr.map (·.1)):=by
 unfold ZG;refine jCO λx hx=> ?_
 obtain ⟨t,ht⟩:=di hx h.kt;exact ⟨t,ht,(h.lk ht).xx⟩
theorem ci {j:JG}(h:PB j):((xi j).map TR.txn).Sublist (vq (j.tr.map (·.1))):=by
 rw[←tg h];exact List.filter_sublist.map _
theorem VJ {j:JG}(h:PB j):((xi j).map TR.txn).Nodup:=(ci h).nodup ((vE _).nodup_iff.2 h.kt)
theorem jAA {j:JG}(h:PB j):vq ((xi j).map TR.txn)=(xi j).map TR.txn:=yB (vE _) (xc _) ((xc _).sublist (ci h))
theorem jFv {f:Int→Option TR}:∀{l:List TR},(∀t∈l,f t.txn=some t.bare)→(l.map TR.txn).filterMap f=l.map TR.bare
 | [],_=>rfl
 |t::l,h=>by
  rw[jL,List.filterMap_cons,h t kg];dsimp only;rw[jFv λy hy=>h y (jV _ hy)];rfl
theorem jC2 {j:JG}(h:PB j):xi (xu j)=(xi j).map TR.bare:=by
 have hk:qm ((xi j).map λt=>(t.txn,t.bare)):=by
  unfold qm;rw[kE];exact VJ h
 have e1:ZG (xu j)=(xi j).map TR.bare:=by
  show (vq (((xi j).map λt=>(t.txn,t.bare)).map (·.1))).filterMap (λx=>qE ((xi j).map λt=>(t.txn,t.bare)) x)=_
  rw[kE]
  show (vq ((xi j).map TR.txn)).filterMap _=_
  rw[jAA h];exact jFv λt ht=>(vp hk).2 (jA (f:=λt:TR=>(t.txn,t.bare)) ht)
 show (ZG (xu j)).filter fj=_
 rw[e1];refine List.filter_eq_self.2 λt ht=> ?_
 obtain ⟨u,hu,rfl⟩:=jM.1 ht;exact (jB.1 hu).2
theorem tU {j:JG}(h:PB j):qu (xu j)=qu j:=by
 unfold qu;rw[jEG h.kd,jC2 h,jf,List.flatMap_map];have e1:Vi (xu j)=Vi j:=by
  show numI j.epoch++numI j.last++numI ((Jv j).length:Int)=_
  have:(Jv j).length=j.done.length:=by
   have:=jj List.length (Wk j);rw[jf,wV,jf] at this;exact this
  rw[this];rfl
 rw[e1];rfl
structure UO (j:JG):Prop where
 pb:PB j
 s1:1≤j.shards
 s2:j.shards≤4
 tl:(xi j).length≤8
 dl:j.done.length≤1048576
 ds:∀d∈j.done,0≤d.1∧0<d.2∧d.2≤j.last
 ts:∀t∈xi j,TU j.shards.toNat j.last.toNat t
theorem jDS {j:JG}(h:UO j):Z6 j.shards j.dim (qu j)=xu j∧td j.shards j.dim (qu j):=by
 have hb:=h.pb;have e0:=hb.e0;have e1:=hb.e1;have l0:=hb.l0;have l1:=hb.l1;have htl:=h.tl;have hdl:=h.dl;have hdn:(Jv j).length=j.done.length:=by
  have:=jj List.length (Wk j);rw[jf,wV,jf] at this;exact this
 have eP:qu j=numI j.epoch++(numI j.last++(numI (j.done.length:Int)++((Jv j).flatMap packD++(numI ((xi j).length:Int)++((xi j).flatMap w9++[]))))):=by
  unfold qu Vi;simp only[ju,jG]
 obtain ⟨T,hT⟩:∃T,T=(xi j).flatMap w9++[]:=⟨_,rfl⟩;obtain ⟨R,hR⟩:∃R,R=numI ((xi j).length:Int)++T:=⟨_,rfl⟩;have hRn:R.length≠0:=by rw[hR,jc];have:=jEf ((xi j).length:Int);omega
 rw[←hT,←hR] at eP;have eH:mV (qu j)=(j.epoch.toNat,j.last.toNat,⟨numI (j.done.length:Int)++((Jv j).flatMap packD++R),0,true⟩):=by
  unfold mV;rw[eP,y7 e0 zo zo];dsimp only;rw[y7 l0 zo zo]
 have eD:K4 (qu j)=(⟨R,0,true⟩,Jv j):=by
  unfold K4;rw [eH];dsimp only;rw [y7 (kQ _) zo zo];dsimp only;rw [kz,← hdn];have := jCT (last := j.last.toNat) zo hRn (Jv j) [] (fun d hd => by
   obtain ⟨b,hbm,rfl⟩:=jM.1 hd;obtain ⟨s,hs⟩:=lM hbm hb.kd;have hm:=vM hs;have h1:=h.ds _ hm;have h2:=hb.d _ hm;dsimp only at h1 h2 ⊢;rw[hs];exact ⟨h1.1,h2.1,h1.2.1,by show s≤_;omega⟩) (by rw[kO];exact pw hb.kd)
  rw[this];rfl
 have eT:X2 j.shards.toNat (qu j)=(⟨[],0,true⟩,(xi j).map λt=>(t.txn,t.bare)):=by
  unfold X2;rw[eH,eD];dsimp only;rw[hR,y7 (kQ _) zo zo];dsimp only;have s2:=h.s2;rw[kz,hT,jBz zo zo (xi j) [] h.ts (λu hu=>by cases hu) (VJ hb)];rfl
 have eGp:Z6 j.shards j.dim (qu j)=xu j:=by
  unfold Z6;rw[eH,eD,eT];dsimp only;rw[Int.toNat_of_nonneg e0,Int.toNat_of_nonneg l0]
 refine ⟨eGp,?_,?_,?_⟩
 ·rw[eT]
  rfl
 ·rw[eT]
 ·rw[eGp]
  exact tU hb
theorem jG6 (b:UInt8):UInt8.ofNat b.toNat=b:=by
 apply UInt8.toNat_inj.1;rw[UInt8.toNat_ofNat'];have:=b.toNat_lt;omega
theorem bF :∀(bs:List UInt8) (i n:Nat),(vW bs i n).2.2=0→∃m rest,bs=Ki m++rest∧vW bs i n=(n+m*2^(7*i),i+(Ki m).length,0)∧(0<i→0<m)
 | [],i,n,h=>by simp[vW] at h
 |b::bs,i,n,h=>by
  rw[yv] at h ⊢;have hb:=b.toNat_lt
  by_cases h9:i=9∧1<b.toNat
  ·rw[jb h9] at h;simp at h
  ·rw[ja h9] at h ⊢
   by_cases hl:b.toNat<128
   ·rw[jb hl] at h ⊢
    by_cases h0:b.toNat=0∧0<i
    ·rw[jb h0] at h;simp at h
    ·rw[ja h0]
     refine ⟨b.toNat,bs,?_,?_,λhi=>by omega⟩
     ·rw[QS hl,jG6];rfl
     ·rw[QS hl,Nat.mod_eq_of_lt hl];rfl
   ·rw[ja hl] at h ⊢
    obtain ⟨m,rest,e1,e2,e3⟩:=bF bs (i+1) _ h;have hm:=e3 zo;have hd:(m*128+b.toNat % 128) / 128=m:=by omega
    have hr:(m*128+b.toNat % 128) % 128+128=b.toNat:=by omega
    have hB:Ki (m*128+b.toNat % 128)=b::Ki m:=by rw[X6 zo,hd,hr,jG6]
    have hp2:2^(7*(i+1))=128*2^(7*i):=by rw[Nat.mul_add,Nat.pow_add,Nat.mul_comm]
    refine ⟨m*128+b.toNat % 128,rest,by rw[hB,e1];rfl,?_,λ_=>by omega⟩;rw[e2,hB,hp2,Nat.add_mul,jC]
    congr 1
    ·rw[Nat.mul_assoc];omega
    ·congr 1;omega
theorem jCe (m:Nat):numI (m:Int)=Ki m:=by
 unfold numI;rw[ja zo,kz]
theorem dt {m:Nat}{s:RS}(h:(vx m s).2.bad=0):s.bad=0∧s.bs=numI (vx m s).1++(vx m s).2.bs:=by
 unfold vx Kh at h ⊢
 by_cases h1:s.bad≠0
 ·rw[jb h1] at h
  exact absurd h h1
 ·rw[ja h1] at h ⊢
  by_cases h2:(qB s.bs m).2.2≠0
  ·rw[jb h2] at h
   exact absurd h h2
  ·rw[ja h2]
   refine ⟨kv.1 h1,?_⟩;have h5:(qB s.bs m).2.2=0:=kv.1 h2;unfold qB at h5 ⊢
   by_cases h6:(vW s.bs 0 0).2.2≠0
   ·rw[jb h6] at h5
    exact absurd h5 h6
   ·rw[ja h6] at h5 ⊢
    by_cases h7:m<(vW s.bs 0 0).1
    ·rw[jb h7] at h5
     simp at h5
    ·rw[ja h7]
     obtain ⟨k,rest,e1,e2,_⟩:=bF s.bs 0 0 (kv.1 h6);rw[e2];dsimp only;have e3:0+k*2^(7*0)=k:=by simp
     rw[e3,kR,jCe]
     conv=>rhs;rhs;rw[e1]
     rw[kF];exact e1
structure zL {α:Type}(enc:α→List UInt8)(dec:RS→α×RS)(ok:α→Prop):Prop where
 fwd:∀x rest g,ok x→dec ⟨enc x++rest,0,g⟩=(x,⟨rest,0,g⟩)
 inv:∀s,(dec s).2.bad=0→s.bad=0∧s.bs=enc (dec s).1++(dec s).2.bs∧ok (dec s).1
theorem zL.mono {α:Type}{e:α→List UInt8}{d:RS→α×RS}{ok:α→Prop}(h:zL e d ok){s:RS}(hb:(d s).2.bad=0):s.bad=0:=(h.inv s hb).1
def Qe {α β:Type}(d1:RS→α×RS)(d2:RS→β×RS)(s:RS):(α×β)×RS:=(((d1 s).1,(d2 (d1 s).2).1),(d2 (d1 s).2).2)
theorem zL.pair {α β:Type}{e1:α→List UInt8}{d1:RS→α×RS}{ok1:α→Prop}{e2:β→List UInt8}{d2:RS→β×RS}{ok2:β→Prop}(h1:zL e1 d1 ok1)(h2:zL e2 d2 ok2):
  zL (λp:α×β=>e1 p.1++e2 p.2) (Qe d1 d2) (λp=>ok1 p.1∧ok2 p.2):=by
 refine ⟨λx rest g hx=> ?_,λs hb=> ?_⟩
 ·unfold Qe
  rw[ju,h1.fwd _ _ _ hx.1,h2.fwd _ _ _ hx.2]
 ·unfold Qe at hb ⊢
  dsimp only at hb ⊢;obtain ⟨b1,b2,b3⟩:=h2.inv _ hb;obtain ⟨a1,a2,a3⟩:=h1.inv _ b1;exact ⟨a1,by rw[ju,←b2];exact a2,a3,b3⟩
def xz (most:Nat)(s:RS):Int×RS:=(((vx most s).1:Int),(vx most s).2)
theorem Kf {most:Nat}(h:most≤18446744073709551615):zL numI (xz most) (λz=>0≤z∧z≤most):=by
 refine ⟨λx rest g hx=> ?_,λs hb=> ?_⟩
 ·unfold xz
  rw[y7 hx.1 hx.2 zo,Int.toNat_of_nonneg hx.1]
 ·unfold xz at hb ⊢
  obtain ⟨a,b⟩:=dt hb;have:=(wd most s).1;exact ⟨a,b,kQ _,by dsimp only;omega⟩
def xh {α:Type}(d:RS→α×RS):Nat→RS×List α→RS×List α
 |0,s=>s
 |k+1,s=>xh d k ((d s.1).2,s.2++[(d s.1).1])
theorem yw {α:Type}(d:RS→α×RS)(k:Nat)(s:RS×List α):xh d (k+1) s=xh d k ((d s.1).2,s.2++[(d s.1).1]):=rfl
theorem bP {α:Type}{e:α→List UInt8}{d:RS→α×RS}{ok:α→Prop}(h:zL e d ok){g:Bool}{rest:List UInt8}:∀(xs acc:List α),(∀x∈xs,ok x)→xh d xs.length (⟨xs.flatMap e++rest,0,g⟩,acc)=(⟨rest,0,g⟩,acc++xs)
 | [],acc,_=>by simp[xh]
 |x::xs,acc,hx=>by
  rw[jC,yw,jK,ju];dsimp only;rw[h.fwd x _ g (hx x kg)];dsimp only;rw[bP h xs _ λy hy=>hx y (jV _ hy),ju];rfl
theorem bO {α:Type}{e:α→List UInt8}{d:RS→α×RS}{ok:α→Prop}(h:zL e d ok):∀(k:Nat) (s:RS×List α),(xh d k s).1.bad=0→s.1.bad=0∧∃xs,(xh d k s).2=s.2++xs∧xs.length=k∧s.1.bs=xs.flatMap e++(xh d k s).1.bs∧∀x∈xs,ok x
 |0,s,hb=>⟨hb,[],by simp[xh],rfl,by simp[xh],λ_ h=>by cases h⟩
 |k+1,s,hb=>by
  rw[yw] at hb ⊢;obtain ⟨b1,xs,e1,e2,e3,e4⟩:=bO h k _ hb;dsimp only at b1 e1 e3;obtain ⟨a1,a2,a3⟩:=h.inv _ b1;refine ⟨a1,_::xs,by rw[e1,ju];rfl,by rw[jC,e2],?_,λx hx=> ?_⟩
  ·rw[jK,ju,←e3]
   exact a2
  ·rcases j9.1 hx with rfl|hx
   ·exact a3
   ·exact e4 x hx
def wL {α:Type}(e:α→List UInt8)(xs:List α):List UInt8:=numI (xs.length:Int)++xs.flatMap e
def fh {α:Type}(most:Nat)(d:RS→α×RS)(s:RS):List α×RS:=let r:=xh d (vx most s).1 ((vx most s).2,[]);(r.2,r.1)
theorem VC {α:Type}{e:α→List UInt8}{d:RS→α×RS}{ok:α→Prop}(h:zL e d ok){most:Nat}(hm:most≤18446744073709551615):zL (wL e) (fh most d) (λxs=>xs.length≤most∧∀x∈xs,ok x):=by
 refine ⟨λx rest g hx=> ?_,λs hb=> ?_⟩
 ·unfold fh wL
  rw[ju,y7 (kQ _) zo zo];dsimp only;rw[kz,bP h _ _ hx.2];rfl
 ·unfold fh at hb ⊢
  dsimp only at hb ⊢;obtain ⟨b1,xs,e1,e2,e3,e4⟩:=bO h _ _ hb;dsimp only at b1 e1 e3;obtain ⟨a1,a2⟩:=dt b1;have:=(wd most s).1;rw[kO] at e1;rw[e1];refine ⟨a1,?_,by omega,e4⟩;unfold wL;rw[e2,ju,←e3];exact a2
def XZ (u:Nat):Int:=if u % 2=1 then -((u / 2:Nat):Int) - 1 else ((u / 2:Nat):Int)
def Xz :Nat→List UInt8→List Int→List Int×List UInt8×Int
 |0,bs,acc=>(acc,bs,0)
 |k+1,bs,acc=>if (qB bs 18446744073709551615).2.2≠0 then ([],[],(qB bs 18446744073709551615).2.2) else if 4294967295<(qB bs 18446744073709551615).1 then ([],[],4)
  else Xz k (bs.drop (qB bs 18446744073709551615).2.1) (acc++[XZ (qB bs 18446744073709551615).1])
theorem J5 (k:Nat)(bs:List UInt8)(acc:List Int):Xz (k+1) bs acc=if (qB bs 18446744073709551615).2.2≠0 then ([],[],(qB bs 18446744073709551615).2.2) else if 4294967295<(qB bs 18446744073709551615).1 then ([],[],4)
  else Xz k (bs.drop (qB bs 18446744073709551615).2.1) (acc++[XZ (qB bs 18446744073709551615).1]):=rfl
def xY (most:Nat)(s:RS):List Int×RS:=
 if s.bad≠0 then ([],s) else if (qB s.bs most).2.2≠0 then ([],{s with bad:=(qB s.bs most).2.2}) else
  let r:=Xz (qB s.bs most).1 (s.bs.drop (qB s.bs most).2.1) []
  if r.2.2≠0 then ([],{s with bad:=r.2.2}) else (r.1,⟨r.2.1,0,s.good⟩)
theorem cV (n:Int):IntKind.u32.wrap n=n % 4294967296:=by simp[IntKind.wrap,IntKind.bits,IntKind.signed]
theorem jCD (n:Int):IntKind.i32.wrap n % 4294967296=n % 4294967296:=by
 have:IntKind.i32.wrap n=if 2147483648≤n % 4294967296 then n % 4294967296 - 4294967296 else n % 4294967296:=by simp[IntKind.wrap,IntKind.bits,IntKind.signed]
 rw[this]
 split<;>omega
theorem X5 {a:Int}(ha:0≤a∧a<4294967296):(BitVec.ofInt 32 a).toNat=a.toNat:=by
 rw[BitVec.toNat_ofInt];have:((2^32:Nat):Int)=4294967296:=by decide
 rw[this];omega
theorem xor32 {a:Int}(ha:0≤a∧a<4294967296):((BitVec.ofInt IntKind.u32.bits a)^^^(BitVec.ofInt IntKind.u32.bits 0)).toNat=a.toNat∧((BitVec.ofInt IntKind.u32.bits a)^^^(BitVec.ofInt IntKind.u32.bits 4294967295)).toNat=4294967295 - a.toNat:=by
 have e1:BitVec.ofInt 32 0=0#32:=by decide
 have e2:BitVec.ofInt 32 4294967295=BitVec.allOnes 32:=by decide
 constructor
 ·show ((BitVec.ofInt 32 a)^^^(BitVec.ofInt 32 0)).toNat=_
  rw[e1,BitVec.xor_zero,X5 ha]
 ·show ((BitVec.ofInt 32 a)^^^(BitVec.ofInt 32 4294967295)).toNat=_
  rw[e2,BitVec.xor_allOnes,BitVec.toNat_not,X5 ha]
theorem cQ {n:Int}(h1: -2147483648≤n)(h2:n≤2147483647):Vq n=if n<0 then -2*n - 1 else 2*n:=by
 unfold Vq;have e0:IntKind.u32.wrap (IntKind.i32.wrap (n*2^1))=(2*n) % 4294967296:=by
  rw[cV,jCD]
  congr 1
  omega
 have hx:0≤(2*n) % 4294967296∧(2*n) % 4294967296<4294967296:=by omega
 rw[e0]
 by_cases hn:n<0
 ·rw[jb hn]
  have e1:n.fdiv (2^31)= -1:=by
   rw[Int.fdiv_eq_ediv_of_nonneg _ zd];omega
  rw[e1,show IntKind.u32.wrap (-1)=4294967295 by rw[cV];decide,(xor32 hx).2,wrap_u64 (by rw[cV];omega) (by rw[cV];omega),cV];omega
 ·rw[ja hn]
  have e1:n.fdiv (2^31)=0:=by
   rw[Int.fdiv_eq_ediv_of_nonneg _ zd];omega
  rw[e1,show IntKind.u32.wrap 0=0 by rw[cV];decide,(xor32 hx).1,wrap_u64 (by rw[cV];omega) (by rw[cV];omega),cV];omega
abbrev Km (n:Int):Prop:= -2147483648≤n∧n≤2147483647
theorem jBh {n:Int}(h:Km n):0≤Vq n∧Vq n≤4294967295∧XZ (Vq n).toNat=n:=by
 obtain ⟨h1,h2⟩:=h;rw[cQ h1 h2];unfold XZ
 by_cases hn:n<0
 ·rw[jb hn,jb zo]
  omega
 ·rw[ja hn,ja zo]
  omega
theorem jFK {u:Nat}(h:u≤4294967295):Km (XZ u)∧Vq (XZ u)=u:=by
 have hr:Km (XZ u):=by
  unfold XZ Km
  split<;>omega
 refine ⟨hr,?_⟩;rw[cQ hr.1 hr.2];unfold XZ
 split<;>split<;>omega
theorem Vs {z:Int}{most:Nat}(rest:List UInt8)(h0:0≤z)(hm:z≤18446744073709551615)(h:z≤most):qB (numI z++rest) most=(z.toNat,(numI z).length,0):=by
 unfold numI;rw[ja zo];exact Z8 rest zo zo
theorem yX {bs:List UInt8}{m:Nat}(h:(qB bs m).2.2=0):bs=numI ((qB bs m).1:Int)++bs.drop (qB bs m).2.1∧(qB bs m).1≤m:=by
 have e:vx m ⟨bs,0,true⟩=((qB bs m).1,⟨bs.drop (qB bs m).2.1,0,true⟩):=by
  unfold vx Kh;dsimp only;rw[ja (by simp),ja (by simp[h])]
 have hi:=dt (m:=m) (s:=⟨bs,0,true⟩) (by rw[e]);have hl:=(wd m ⟨bs,0,true⟩).1;rw[e] at hi hl;exact ⟨hi.2,hl⟩
theorem rx {rest:List UInt8}:∀(v acc:List Int),(∀n∈v,Km n)→Xz v.length (v.flatMap (λn=>numI (Vq n))++rest) acc=(acc++v,rest,0)
 | [],acc,_=>by simp[Xz]
 |n::v,acc,h=>by
  obtain ⟨a,b,c⟩:=jBh (h n kg);rw[jC,J5,jK,ju,Vs _ a zo zo,ja (by simp),ja (by dsimp only;omega)];dsimp only;rw[kF,c,rx v _ λx hx=>h x (jV _ hx),ju];rfl
theorem rv :∀(k:Nat) (bs:List UInt8) (acc:List Int),(Xz k bs acc).2.2=0→∃v,(Xz k bs acc).1=acc++v∧v.length=k∧bs=v.flatMap (λn=>numI (Vq n))++(Xz k bs acc).2.1∧∀n∈v,Km n
 |0,bs,acc,_=>⟨[],by simp[Xz],rfl,by simp[Xz],λ_ h=>by cases h⟩
 |k+1,bs,acc,h=>by
  rw[J5] at h ⊢
  by_cases h1:(qB bs 18446744073709551615).2.2≠0
  ·rw[jb h1] at h
   exact absurd h h1
  ·rw[ja h1] at h ⊢
   by_cases h2:4294967295<(qB bs 18446744073709551615).1
   ·rw[jb h2] at h
    simp at h
   ·rw[ja h2] at h ⊢
    obtain ⟨v,e1,e2,e3,e4⟩:=rv k _ _ h;obtain ⟨f1,f2⟩:=yX (kv.1 h1);obtain ⟨z1,z2⟩:=jFK (u:=(qB bs 18446744073709551615).1) zo;refine ⟨XZ (qB bs 18446744073709551615).1::v,by rw[e1,ju];rfl,by rw[jC,e2],?_,λx hx=> ?_⟩
    ·rw[jK,z2,ju,←e3]
     exact f1
    ·rcases j9.1 hx with rfl|hx
     ·exact z1
     ·exact e4 x hx
theorem QK {most:Nat}(hm:most≤18446744073709551615):zL wh (xY most) (λv=>v.length≤most∧∀n∈v,Km n):=by
 refine ⟨λv rest g h=> ?_,λs hb=> ?_⟩
 ·unfold xY wh
  dsimp only;rw[ja (by simp),ju,Vs _ (kQ _) zo zo,ja (by simp)];dsimp only;rw[kF,kz,rx v [] h.2,ja (by simp)];rfl
 ·unfold xY at hb ⊢
  by_cases h0:s.bad≠0
  ·rw[jb h0] at hb
   exact absurd hb h0
  ·rw[ja h0] at hb ⊢
   by_cases h1:(qB s.bs most).2.2≠0
   ·rw[jb h1] at hb
    exact absurd hb h1
   ·rw[ja h1] at hb ⊢
    dsimp only at hb ⊢
    by_cases h2:(Xz (qB s.bs most).1 (s.bs.drop (qB s.bs most).2.1) []).2.2≠0
    ·rw[jb h2] at hb
     exact absurd hb h2
    ·rw[ja h2]
     obtain ⟨v,e1,e2,e3,e4⟩:=rv _ _ _ (kv.1 h2);obtain ⟨f1,f2⟩:=yX (kv.1 h1);rw[kO] at e1;dsimp only;rw[e1];refine ⟨kv.1 h0,?_,by omega,e4⟩;unfold wh;rw[e2,ju,←e3];exact f1
def vr {α:Type}(b:Bool)(e:α→List UInt8)(x:α):List UInt8:=if b then e x else []
def xS {α:Type}(b:Bool)(x0:α)(d:RS→α×RS)(s:RS):α×RS:=if b then d s else (x0,s)
theorem Kd {α:Type}{e:α→List UInt8}{d:RS→α×RS}{ok:α→Prop}(b:Bool)(x0:α)(h:zL e d ok):zL (vr b e) (xS b x0 d) (λx=>if b=true then ok x else x=x0):=by
 cases b with
 |true=>exact ⟨λx rest g hx=>h.fwd x rest g hx,λs hb=>h.inv s hb⟩
 |false=>exact ⟨λx rest g hx=>by rw[show x=x0 from hx];rfl,λs hb=>⟨hb,rfl,rfl⟩⟩
def xt :List (Bool×Nat)→List Int→List UInt8
 |c::cs,x::xs=>vr c.1 numI x++xt cs xs
 |_,_=> []
def bK :List (Bool×Nat)→RS→List Int×RS
 | [],s=>([],s)
 |c::cs,s=>((xS c.1 0 (xz c.2) s).1::(bK cs (xS c.1 0 (xz c.2) s).2).1,(bK cs (xS c.1 0 (xz c.2) s).2).2)
def V9 :List (Bool×Nat)→List Int→Prop
 | [],[]=>True
 |c::cs,x::xs=>(if c.1=true then 0≤x∧x≤c.2 else x=0)∧V9 cs xs
 |_,_=>False
theorem YO :∀cs:List (Bool×Nat),(∀c∈cs,c.2≤18446744073709551615)→zL (xt cs) (bK cs) (V9 cs)
 | [],_=>⟨λx rest g hx=>by
   cases x with
   |nil=>rfl
   |cons y ys=>exact absurd hx (by simp[V9]),λs hb=>⟨hb,rfl,trivial⟩⟩
 |c::cs,h=>by
  have h1:=Kd c.1 0 (Kf (h c (by simp)));have h2:=YO cs (λd hd=>h d (by simp[hd]));refine ⟨λx rest g hx=> ?_,λs hb=> ?_⟩
  ·cases x with
   |nil=>exact absurd hx (by simp[V9])
   |cons y ys=>
    obtain ⟨k1,k2⟩:=hx
    show ((xS c.1 0 (xz c.2) _).1::_,_)=_
    unfold xt;rw[ju,h1.fwd y _ g k1,h2.fwd ys rest g k2]
  ·obtain ⟨b1,b2,b3⟩:=h2.inv _ hb
   obtain ⟨a1,a2,a3⟩:=h1.inv _ b1;refine ⟨a1,?_,a3,b3⟩
   show s.bs=(vr c.1 numI _++xt cs _)++_
   rw[ju];exact a2.trans (jj _ b2)
def qC (k i:Nat):Bool:=(fldN k).testBit i
def mostK :List Nat:=[18446744073709551615,18446744073709551615,1099511627776,1099511627776,1099511627776,18446744073709551615,1099511627776,16,256,13,16]
def zH (k:Nat):List (Bool×Nat):=mostK.zipIdx.map λm=>(qC k m.2,m.1)
theorem jEO (k:Nat):∀c∈zH k,c.2≤18446744073709551615:=by
 intro c hc;obtain ⟨m,hm,rfl⟩:=jM.1 hc;have:m.1∈mostK:=(List.mem_zipIdx' hm).2▸List.getElem_mem _;revert this;unfold mostK;generalize m.1=z;intro h
 simp at h
 omega
abbrev HL3 :=List (Int×Int×List Int)
abbrev xH (o:Int×List Int):List UInt8:=numI o.1++wh o.2
abbrev tY :RS→(Int×List Int)×RS:=Qe (xz 1099511627776) (xY 8)
abbrev xU (h:Int×Int×List Int):List UInt8:=numI h.1++(numI h.2.1++wh h.2.2)
abbrev jAo :RS→(Int×Int×List Int)×RS:=Qe (xz 1099511627776) (Qe (xz 18446744073709551615) (xY 8))
abbrev jDz :=List Int×List Int×VL×List Int×HL3
abbrev jDg (k:Nat)(t:jDz):List UInt8:=xt (zH k) t.1++(vr (qC k 11) (wL numI) t.2.1++(vr (qC k 12) (wL xH) t.2.2.1++(vr (qC k 13) wh t.2.2.2.1++vr (qC k 14) (wL xU) t.2.2.2.2)))
abbrev Xp (k:Nat):RS→jDz×RS:=Qe (bK (zH k)) (Qe (xS (qC k 11) [] (fh 4 (xz 16))) (Qe (xS (qC k 12) [] (fh 16 tY)) (Qe (xS (qC k 13) [] (xY 8)) (xS (qC k 14) [] (fh 16 jAo)))))
abbrev vOK (v:List Int):Prop:=v.length≤8∧∀n∈v,Km n
abbrev YL (o:Int×List Int):Prop:=(0≤o.1∧o.1≤(1099511627776:Nat))∧vOK o.2
abbrev Qn (h:Int×Int×List Int):Prop:=(0≤h.1∧h.1≤(1099511627776:Nat))∧(0≤h.2.1∧h.2.1≤(18446744073709551615:Nat))∧vOK h.2.2
abbrev jFB (k:Nat)(t:jDz):Prop:=V9 (zH k) t.1∧(if qC k 11=true then t.2.1.length≤4∧∀x∈t.2.1,0≤x∧x≤(16:Nat) else t.2.1=[])∧(if qC k 12=true then t.2.2.1.length≤16∧∀o∈t.2.2.1,YL o else t.2.2.1=[])∧(if qC k 13=true then vOK t.2.2.2.1 else t.2.2.2.1=[])∧(if qC k 14=true then t.2.2.2.2.length≤16∧∀h∈t.2.2.2.2,Qn h else t.2.2.2.2=[])
theorem Ze (k:Nat):zL (jDg k) (Xp k) (jFB k):=
 (YO _ (jEO k)).pair ((Kd _ _ (VC (Kf zd) zd)).pair ((Kd _ _ (VC ((Kf zd).pair (QK zd)) zd)).pair ((Kd _ _ (QK zd)).pair (Kd _ _ (VC ((Kf zd).pair ((Kf zd).pair (QK zd))) zd)))))
def XE (n:NA):jDz:=([n.txn,n.batch,n.stamp,n.after,n.mark,n.query,n.id,n.k,n.ef,n.code,n.who],n.parts,n.ops,n.vec,n.hits)
def mkN (k:Int)(t:jDz):NA:=⟨k,t.1.getD 0 0,t.1.getD 1 0,t.1.getD 2 0,t.1.getD 3 0,t.1.getD 4 0,t.1.getD 5 0,t.1.getD 6 0,t.1.getD 7 0,t.1.getD 8 0,t.1.getD 9 0,t.1.getD 10 0,t.2.1,t.2.2.1,t.2.2.2.1,t.2.2.2.2⟩
theorem jGa (n:NA):mkN n.kind (XE n)=n:=rfl
def yi (n:NA):List UInt8:=numI n.kind++jDg n.kind.toNat (XE n)
def XP (s:RS):NA×RS:=(mkN (vx 255 s).1 (Xp (vx 255 s).1 (vx 255 s).2).1,(Xp (vx 255 s).1 (vx 255 s).2).2)
structure OKn (n:NA):Prop where
 k:0≤n.kind∧n.kind≤(255:Nat)
 b:jFB n.kind.toNat (XE n)
theorem jEJ {n:NA}(h:OKn n)(rest:List UInt8)(g:Bool):XP ⟨yi n++rest,0,g⟩=(n,⟨rest,0,g⟩):=by
 unfold XP yi;rw[ju,y7 h.k.1 h.k.2 (by have:=h.k.2;omega)];dsimp only;rw[(Ze n.kind.toNat).fwd _ rest g h.b];dsimp only;rw[Int.toNat_of_nonneg h.k.1,jGa]
def ZF (p:List UInt8):Option NA:=if JD p=0∧ZM p=[]∧(XP ⟨V8 p,0,true⟩).2.bad=0∧(XP ⟨V8 p,0,true⟩).2.bs=[]∧qn (XP ⟨V8 p,0,true⟩).1=true then some (XP ⟨V8 p,0,true⟩).1 else none
def qz (n:NA):List UInt8:=frB (yi n)
structure wg (n:NA):Prop where
 a:xW n
 o:∀o∈n.ops,0≤o.1
 h:∀h∈n.hits,0≤h.1∧0≤h.2.1∧h.2.1≤18446744073709551615
theorem Wz {v:List Int}(h:wQ v=true):vOK v:=by
 unfold wQ at h;simp only[jF,jS,kL,List.any_eq_false] at h;refine ⟨h.1.2,λn hn=> ?_⟩;have:=h.2 n hn;unfold VN at this;simp only[kU,jS] at this;unfold Km;omega
theorem Wl {v:List Int}(h:ws v=true):vOK v:=by
 unfold ws at h
 by_cases h0:v.length=0
 ·rw[List.length_eq_zero_iff.1 h0]
  exact ⟨jw _,λn hn=>by cases hn⟩
 ·rw[jv h0] at h
  exact Wz h
theorem Y5 {b:Bool}{x:Int}{m:Nat}(h0:0≤x)(h1:x≤m)(h2:x≠0→b=true):if b=true then 0≤x∧x≤m else x=0:=by
 split
 ·exact ⟨h0,h1⟩
 ·next h=>exact Classical.byContradiction λhx=>h (h2 hx)
theorem jDj {n:NA}{k i:Nat}(h:(n.bits.zipIdx.all λb=> !b.1||(fldN k).testBit b.2)=true)(hi:n.bits.getD i false=true):qC k i=true:=by
 rw[List.all_eq_true] at h
 by_cases hl:i<n.bits.length
 ·have hm:(n.bits[i],i)∈n.bits.zipIdx:=by
   refine List.mem_iff_getElem?.2 ⟨i,?_⟩;rw[List.getElem?_zipIdx,jY hl];simp
  have h2:=h _ hm;rw[j8,jY hl] at hi;dsimp only[Option.getD_some] at hi h2;rw[hi] at h2;unfold qC
  simpa using h2
 ·rw[j8,List.getElem?_eq_none zo] at hi
  cases hi
theorem xO {n:NA}(h:qn n=true)(u:wg n):OKn n:=by
 unfold qn at h;simp only[jF,jS] at h;obtain ⟨⟨hk,hb⟩,hB⟩:=h;unfold vV at hB;simp only[jF,kL,Bool.or_eq_false_iff,j5] at hB;obtain ⟨⟨⟨⟨⟨⟨⟨⟨⟨⟨c1,c2⟩,c3⟩,c4⟩,c5⟩,c6⟩,c7⟩,⟨⟨⟨d1,d2⟩,d3⟩,d4⟩⟩,e1⟩,e2⟩,e3⟩:=hB;have hu:=u.a;have g:=λi hi=>jDj (i:=i) hb hi
 have gn:∀{x:Int},0≤x→x≠0→decide (0<x)=true:=λh0 hx=>jo zo
 have gz:∀{x:Int},x≠0→(!decide (x=0))=true:=λhx=>by rw[jv hx];rfl
 have gl:∀{α:Type} {l:List α},l≠[]→decide (0<(l.length:Int))=true:=λhl=>jo (by have:=kA.2 hl;omega)
 refine ⟨⟨by omega,by omega⟩,⟨?_,?_,?_,?_,?_⟩⟩
 ·have e:V9 (zH n.kind.toNat) (XE n).1=((if qC n.kind.toNat 0=true then 0≤n.txn∧n.txn≤(18446744073709551615:Nat) else n.txn=0)∧(if qC n.kind.toNat 1=true then 0≤n.batch∧n.batch≤(18446744073709551615:Nat) else n.batch=0)∧(if qC n.kind.toNat 2=true then 0≤n.stamp∧n.stamp≤(1099511627776:Nat) else n.stamp=0)∧(if qC n.kind.toNat 3=true then 0≤n.after∧n.after≤(1099511627776:Nat) else n.after=0)∧(if qC n.kind.toNat 4=true then 0≤n.mark∧n.mark≤(1099511627776:Nat) else n.mark=0)∧(if qC n.kind.toNat 5=true then 0≤n.query∧n.query≤(18446744073709551615:Nat) else n.query=0)∧(if qC n.kind.toNat 6=true then 0≤n.id∧n.id≤(1099511627776:Nat) else n.id=0)∧(if qC n.kind.toNat 7=true then 0≤n.k∧n.k≤(16:Nat) else n.k=0)∧(if qC n.kind.toNat 8=true then 0≤n.ef∧n.ef≤(256:Nat) else n.ef=0)∧(if qC n.kind.toNat 9=true then 0≤n.code∧n.code≤(13:Nat) else n.code=0)∧(if qC n.kind.toNat 10=true then 0≤n.who∧n.who≤(16:Nat) else n.who=0)∧True):=rfl
  show V9 (zH n.kind.toNat) (XE n).1
  rw[e];have h1:=hu.txn;have h2:=hu.batch;have h3:=hu.stamp;have h4:=hu.after;have h5:=hu.mark;have h6:=hu.query;have h7:=hu.id;exact ⟨Y5 h1.1 zo λhx=>g 0 (gn h1.1 hx),Y5 h2.1 zo λhx=>g 1 (gn h2.1 hx),Y5 h3.1 zo λhx=>g 2 (gn h3.1 hx),Y5 h4.1 zo λhx=>g 3 (gn h4.1 hx),Y5 h5.1 zo λhx=>g 4 (gn h5.1 hx),Y5 h6.1 zo λhx=>g 5 (gn h6.1 hx),Y5 h7.1 zo λhx=>g 6 (gn h7.1 hx),Y5 zo zo λhx=>g 7 (gz hx),Y5 zo zo λhx=>g 8 (gz hx),Y5 zo zo λhx=>g 9 (gz hx),Y5 zo zo λhx=>g 10 (gz hx),trivial⟩
 ·show if qC n.kind.toNat 11=true then n.parts.length≤4∧∀x∈n.parts,0≤x∧x≤(16:Nat) else n.parts=[]
  split
  ·refine ⟨by omega,λx hx=> ?_⟩
   unfold vX at e1;rw[List.all_eq_true] at e1;obtain ⟨i,hi,rfl⟩:=List.mem_iff_getElem.1 hx;have:=e1 i (List.mem_range.2 hi);unfold dE at this;simp only[jF,jS] at this;have h2:=this.1;rw[j8,jY hi] at h2;dsimp only[Option.getD_some] at h2;omega
  ·next hb2=>exact Classical.byContradiction λhx=>hb2 (g 11 (gl hx))
 ·show if qC n.kind.toNat 12=true then n.ops.length≤16∧∀o∈n.ops,YL o else n.ops=[]
  split
  ·refine ⟨by omega,λo ho=> ?_⟩
   rw[List.any_eq_false] at e2;have h2:=e2 o ho;unfold xv at h2;simp only[kU,jS,kL,not_or] at h2;have h0:=u.o o ho;exact ⟨⟨h0,by omega⟩,Wl (by simpa using h2.2)⟩
  ·next hb2=>exact Classical.byContradiction λhx=>hb2 (g 12 (gl hx))
 ·show if qC n.kind.toNat 13=true then vOK n.vec else n.vec=[]
  split
  ·exact Wl (by simpa using d4)
  ·next hb2=>exact Classical.byContradiction λhx=>hb2 (g 13 (gl hx))
 ·show if qC n.kind.toNat 14=true then n.hits.length≤16∧∀h∈n.hits,Qn h else n.hits=[]
  split
  ·refine ⟨by omega,λo ho=> ?_⟩
   rw[List.any_eq_false] at e3;have h2:=e3 o ho;unfold yd at h2;simp only[kU,jS,kL,not_or] at h2;have h0:=u.h o ho;exact ⟨⟨h0.1,by omega⟩,⟨h0.2.1,by have:=h0.2.2;omega⟩,Wz (by simpa using h2.2)⟩
  ·next hb2=>exact Classical.byContradiction λhx=>hb2 (g 14 (gl hx))
theorem jB6 {α:Type}{b:Bool}{e:α→List UInt8}{x:α}{m:Nat}(h:(e x).length≤m):(vr b e x).length≤m:=by unfold vr;split;exact h;exact jw _
theorem QR :∀(cs:List (Bool×Nat)) (xs:List Int),(∀x∈xs,x≤18446744073709551615)→(xt cs xs).length≤10*xs.length
 | [],xs,_=>by simp[xt]
 |c::cs,[],_=>by simp[xt]
 |c::cs,x::xs,h=>by
  have h1:=jB6 (b:=c.1) (qr (h x (by simp)));have h2:=QR cs xs (λy hy=>h y (by simp[hy]));unfold xt;rw[jc,jC];omega
theorem WK {α:Type}{e:α→List UInt8}{m:Nat}:∀xs:List α,(∀x∈xs,(e x).length≤m)→(xs.flatMap e).length≤xs.length*m
 | [],_=>by simp
 |x::xs,h=>by
  have h1:=h x (by simp);have h2:=WK xs (λy hy=>h y (by simp[hy]));rw[jK,jc,jC,Nat.succ_mul];omega
theorem Y8 {α:Type}{e:α→List UInt8}{m k:Nat}{xs:List α}(h:∀x∈xs,(e x).length≤m)(hk:xs.length≤k)(hk2:k≤1000000):(wL e xs).length≤10+k*m:=by
 have h1:=WK xs h;have h2:=qr (z:=(xs.length:Int)) zo;have h3:=Nat.mul_le_mul_right m hk;unfold wL;rw[jc];omega
theorem xj {v:List Int}(h:vOK v):(wh v).length≤90:=by
 have h1:=qr (z:=(v.length:Int)) (by have:=h.1;omega);have h2:=WK (e:=λn=>numI (Vq n)) (m:=10) v (λn hn=>qr (by have:=(jBh (h.2 n hn)).2.1;omega));have h3:=h.1;unfold wh;rw[jc];omega
theorem Jl {n:NA}(h:OKn n)(u:wg n):(yi n).length≤4096:=by
 obtain ⟨hk,k1,k2,k3,k4,k5⟩ := h;have a0 := qr (z := n.kind) (by have := hk.2;omega);have a1 := QR (zH n.kind.toNat) (XE n).1 (fun x hx => by
  have h1:=u.a.txn;have h2:=u.a.batch;have h3:=u.a.stamp;have h4:=u.a.after;have h5:=u.a.mark;have h6:=u.a.query;have h7:=u.a.id;have h8:=u.a.k;have h9:=u.a.ef;have h10:=u.a.code;have h11:=u.a.who;simp only[XE,j9,List.not_mem_nil,or_false] at hx;omega)
 have a2:(vr (qC n.kind.toNat 11) (wL numI) n.parts).length≤50:=by
  unfold vr
  split
  ·next hb=>
   have k2:if qC n.kind.toNat 11=true then n.parts.length≤4∧∀x∈n.parts,0≤x∧x≤(16:Nat) else n.parts=[]:=k2
   rw[jb hb] at k2;exact Y8 (m:=10) (k:=4) (λx hx=>qr (by have:=(k2.2 x hx).2;omega)) k2.1 zd
  ·exact jw _
 have a3:(vr (qC n.kind.toNat 12) (wL xH) n.ops).length≤1610:=by
  unfold vr
  split
  ·next hb=>
   have k3:if qC n.kind.toNat 12=true then n.ops.length≤16∧∀o∈n.ops,YL o else n.ops=[]:=k3
   rw[jb hb] at k3;refine Y8 (m:=100) (k:=16) (λo ho=> ?_) k3.1 zd;have h1:=qr (z:=o.1) (by have:=(k3.2 o ho).1.2;omega);have h2:=xj (k3.2 o ho).2;rw[jc];omega
  ·exact jw _
 have a4:(vr (qC n.kind.toNat 13) wh n.vec).length≤90:=by
  unfold vr
  split
  ·next hb=>
   have k4:if qC n.kind.toNat 13=true then vOK n.vec else n.vec=[]:=k4
   rw[jb hb] at k4;exact xj k4
  ·exact jw _
 have a5:(vr (qC n.kind.toNat 14) (wL xU) n.hits).length≤1770:=by
  unfold vr
  split
  ·next hb=>
   have k5:if qC n.kind.toNat 14=true then n.hits.length≤16∧∀h∈n.hits,Qn h else n.hits=[]:=k5
   rw[jb hb] at k5;refine Y8 (m:=110) (k:=16) (λo ho=> ?_) k5.1 zd;have h1:=qr (z:=o.1) (by have:=(k5.2 o ho).1.2;omega);have h3:=qr (z:=o.2.1) (by have:=(k5.2 o ho).2.1.2;omega);have h2:=xj (k5.2 o ho).2.2;rw[jc,jc];omega
  ·exact jw _
 have e1:(XE n).1.length=11:=rfl;unfold yi
 show (numI n.kind++(xt (zH n.kind.toNat) (XE n).1++(vr (qC n.kind.toNat 11) (wL numI) n.parts++(vr (qC n.kind.toNat 12) (wL xH) n.ops++(vr (qC n.kind.toNat 13) wh n.vec++vr (qC n.kind.toNat 14) (wL xU) n.hits))))).length≤4096
 simp only[jc];omega
theorem J6 {n:NA}(h:qn n=true)(u:wg n):ZF (qz n)=some n:=by
 have hl:=Jl (xO h u) u;have hO:=xO h u;obtain ⟨h1,h2,h3,_⟩:=gM (yi n) [] hl;rw[jG] at h1 h2 h3;have hd:=jEJ hO [] true;rw[jG] at hd;unfold ZF qz;rw[h2,hd];rw[jb ⟨h1,h3,rfl,rfl,h⟩]
attribute [local irreducible] swp qq qL qJ vZ qh St qi qk vu qH
theorem sN :∀k,k<23→∀i,i<15→decide (¬IntKind.i64.wrap (((BitVec.ofInt IntKind.i64.bits ((fldN k:Nat):Int))&&&(BitVec.ofInt IntKind.i64.bits ((2^i:Nat):Int))).toNat:Int)=0)=qC k i:=by decide+kernel
abbrev yC (b:Nat)(n:NV):HP:=pt b (cl n.cells 82)
theorem Kv (b:Nat)(n:NV)(k i:Nat)(f:Int)(M:OM)(L:HL)(hT:zB M)(hk:n.kind=(k:Int))(hk2:k<23)(hi:i<15)(hf:f=((2^i:Nat):Int)):
  qh kY 153 [.int .i64 f,.pointer (some ⟨b,0,none⟩)] (yC b n::qp M::L) (λr L'=>r=.bool (qC k i)∧L'=yC b n::qp M::L):=by
 refine qg Tryz.func153 rfl rfl rfl ?_;have hs:KC[k]? =some (wU k):=by
  unfold wU;rw[jY (show k<KC.length by show k<23;omega)];rfl
 have hr:vi (yC b n::qp M::L) 0 (0+k*2) (ST.cells (wU k)):=(hT.rd (L:=yC b n::qp M::L)).part λj v e=>Ko (g:=ST.cells) (λ_=>rfl) KC k j _ v hs e
 have hb:=sN k hk2 i hi;rw[←hf] at hb;have hfl:=Yt k;refine Q.r ?_;refine S.y (Y.iaa (k:=k) rfl (by show some (Value.int .u8 n.kind)=_;rw[hk]) rfl zo) ?_;refine Q.rn ?_;refine S.y (Y.ldRj rfl hr rfl) ?_;refine Q.r ?_;refine S.y (Y.and rfl rfl) ?_;rw[hfl];refine Q.r ?_;refine N.t rfl (kZ _) ⟨?_,rfl⟩;rw[←hb]
 by_cases h0:IntKind.i64.wrap (((BitVec.ofInt IntKind.i64.bits ((fldN k:Nat):Int))&&&(BitVec.ofInt IntKind.i64.bits f)).toNat:Int)=0
 ·rw[jo h0,jv (λh=>h h0)];rfl
 ·rw[jv h0,jo h0];rfl
end Go.Proofs.YtlnfjhiphlfkjaaGreatDoor
