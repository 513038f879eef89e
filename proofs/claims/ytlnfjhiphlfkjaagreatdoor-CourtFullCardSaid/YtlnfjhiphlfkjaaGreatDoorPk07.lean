/- Walks of functions, and plain laws, that the last text rests on. No condition. -/
import Derived.Test.YtlnfjhiphlfkjaaGreatDoorPk06
set_option linter.unusedVariables false
set_option linter.unusedSimpArgs false
set_option linter.unusedSectionVars false
set_option maxHeartbeats 4000000
namespace Go.Proofs.YtlnfjhiphlfkjaaGreatDoor
open Go Go.SX
attribute [local irreducible] swp qq qL qJ vZ qh St qi qk vu qH
def Xx (d:DK)(bs:List UInt8):Int:=if wB d=false then 9 else if lz (vd d) bs then 8 else 0
def JT (d:DK)(n bs:List UInt8):DK:=if Xx d bs=0 then wrD (vd d) n bs else vd d
theorem Zm (p:Nat)(d:DK)(n:List UInt8)(a:OA)(c:Nat)(vs:List YB)(M:OM)(L:HL)(hn:WA n)(hfew:d.fs.length≤15)(h:qI M a vs.length 1 (vs.flatMap YB.cells))(hv:∀v∈vs,wq M v)(hc:vs.length≤c)(hvl:vs.length≤1000000)(hb:(qX vs).length≤1000000000):
  qh kY 21 [qK p,str n,.slice a vs.length c] (qt p d::qp M::L) (λr L'=>r=.int .i64 (Xx d (qX vs))∧∃M',qV M M'∧L'=qt p (JT d n (qX vs))::qp M'::L):=by
 refine qg Tryz.func21 rfl rfl rfl ?_;refine Q.r ?_;(repeat (intro b1;refine Q.r ?_));refine S.y (Y.mf rfl rfl) ?_;rename_i bd bn;refine S.ck p rfl (zA p d 58 [qK b1,qK bn,qK bd] none 0 [] _ (wrR p (vd d) n (qX vs) M L) (λX=>⟨rfl,.inl rfl⟩) (by simp) (λh1 h2=> ?_)) ?_
 ·refine qh.ent (L':=qt p (vd d)::pt b1 (cl [.slice a vs.length c] 73)::pt bn (cl [str n] 9)::pt bd (cl [qK p] 24)::qp M::L) eG ?_
  exact mr p b1 bn bd (vd d) n a c vs M L hn (by rw[qU];exact hfew) h hv hc hvl hb
 intro v L' hR;refine Q.r ?_
 rcases hR with ⟨h1,rfl,rfl⟩|⟨_,⟨x,hx,_⟩,_,_⟩|⟨h1,_,M1,hl1,hw⟩
 ·have e:Xx d (qX vs)=9:=by unfold Xx;rw[jb h1]
  refine N.t rfl ?_ ⟨by rw[e],M,qV.refl _,by unfold JT;rw[e,ja zd]⟩;exact eG
 ·cases hx
 ·rcases hw with ⟨hf,rfl,rfl⟩|⟨hf,rfl,rfl⟩
  ·have e:Xx d (qX vs)=8:=by unfold Xx;rw[ja (by rw[h1];decide),jb hf]
   exact N.t rfl (kZ _) ⟨by rw[e],M1,hl1,by unfold JT;rw[e,ja zd]⟩
  ·have e:Xx d (qX vs)=0:=by unfold Xx;rw[ja (by rw[h1];decide),ja hf]
   exact N.t rfl (kZ _) ⟨by rw[e],M1,hl1,by unfold JT;rw[e,jb rfl]⟩
def fmD (d:DK)(n:List UInt8):DK:={d with fs:=qN d.fs n ((vU d n).1,(vU d n).1.length)}
theorem p7 (p bp bd:Nat)(d:DK)(n:List UInt8)(a:OA)(c:Nat)(M:OM)(L:HL)(h:qI M a 1 1 [str n])(hh:we d n):
  qh kY 183 [qK bp,qK bd] (qt p d::pt bp (cl [.slice a 1 c] 68)::pt bd (cl [qK p] 24)::qp M::L) (λr L'=>r=.int .i64 0∧L'=qt p (fmD d n)::qp M::L):=by
 refine wm λmp ts hd=> ?_
 refine qg Tryz.func183 rfl rfl rfl ?_;obtain ⟨u,hz⟩:∃u,qE (α:=Nat×FV) ts n=some u:=by
  cases hz:qE (α:=Nat×FV) ts n with
  |some u=>exact ⟨u,rfl⟩
  |none=>exact absurd ((Jf hd.fs).2 hz) hh
 obtain ⟨k,hkk⟩:=YV hz;obtain ⟨ub,ua,uc,ubs,ufirm⟩:=u;refine Vu hkk ?_;refine Q.r ?_;have hrd:qY (yJ (ub,(⟨ua,uc,ubs,ufirm⟩:FV))::xg (ub,(⟨ua,uc,ubs,ufirm⟩:FV))::xm (ts.eraseIdx k)::dP p mp d::dM mp ts::pt bp (cl [.slice a 1 c] 68)::pt bd (cl [qK p] 24)::qp M::L) a 1 1 ([n].flatMap sC):=h.rd;obtain ⟨b,o,rfl,hr⟩:=qY.elem (k:=0) (x:=n) (g:=sC) (λ_=>rfl) hrd rfl rfl;refine qw (σ:=Unit) (λ_=> []) (λ_=>qt p (fmD d n)::qp M::L) (λ_=>True) ?_ ?_
 ·refine ql (σ:=Nat) (λk=> [(1,qK bd),(5,.slice (some ⟨b,o,none⟩) 1 c),(6,.int .i64 ((1:Nat):Int)),(7,.int .i64 k)])
   (λi=>yJ (ub,(⟨ua,uc,ubs,if i=0 then ufirm else ubs.length⟩:FV))::xg (ub,(⟨ua,uc,ubs,ufirm⟩:FV))::xm (ts.eraseIdx k)::dP p mp d::dM mp ts::pt bp (cl [.slice (some ⟨b,o,none⟩) 1 c] 68)::pt bd (cl [qK p] 24)::qp M::L)
   (λi=>i≤1) (λi=>1 - i) 0 zt (kZ _) zo ?_
  intro i hi
  by_cases h0:i=0
  ·subst h0
   rw[jb rfl];refine Q.r ?_;refine Q.dgo [true,false,false,true,true,true,true] [18] [18] [0,1,2,3,4,5,6,7,8,9,10,11,12,13,14,15,16,17,18] ?_;refine Q.rd2 ?_;refine D.y rfl rfl rfl zk (Y.lk false rfl rfl (λw=>Tryz.zeroValue124 w)) ?_;rw[hz];dsimp only;refine Q.rd2 ?_;refine D.y rfl rfl rfl zk (Y.lk false rfl rfl (λw=>Tryz.zeroValue124 w)) ?_;rw[hz];dsimp only;refine Q.rd2 ?_;refine Q.dc rfl rfl rfl rfl ?_;refine Q.r ?_;refine Q.rd2 ?_;refine Q.r ?_;exact ⟨1,zt,by rw[ja zd];exact eG,by omega,by omega⟩
  ·have h1:i=1:=by omega
   subst h1;rw[ja zd];refine Q.r ?_;have hkf:=Qm hd.fs hd.key;have hfk:d.fs[k]? =some (n,ubs,ufirm):=by rw[←hd.fs,jZ,hkk];rfl
   have hlk:qE d.fs n=some (ubs,ufirm):=by rw[Xl hd.fs,hz];rfl
   have hwf:(fmD d n).fs=d.fs.set k (n,ubs,ubs.length):=by
    show qN d.fs n _=_
    unfold vU;rw[hlk];exact du hkf hfk
   have hus:qT (fmD d n).fs=qT d.fs:=by
    rw[hwf];unfold qT;rw[Yv (λu:List UInt8×List UInt8×Nat=>u.2.1.length) (y:=(n,ubs,ubs.length)) hfk rfl]
   have hd2:W5 (fmD d n) (ts.set k (n,ub,⟨ua,uc,ubs,ubs.length⟩)):=hd.set hkk _ rfl rfl hwf (by rw[hus];exact hd.used) (jz _);refine ⟨(),trivial,?_,trivial⟩;exact qi.trans (M:=yJ (ub,(⟨ua,uc,ubs,ubs.length⟩:FV))::xg (ub,(⟨ua,uc,ubs,ubs.length⟩:FV))::xm (ts.eraseIdx k)::dP p mp d::dM mp ts::qp M::L) eG (Qs hkk hd2)
 ·intro _ _
  refine Q.r ?_;exact N.t rfl (kZ _) ⟨rfl,rfl⟩
theorem Qo {M:OM}{L:HL}:∀X:HL,xq M L→xq M (X++L)
 | [],h=>h
 |A::X,h=>by
  have:=Qo X h;exact xq.there
def Yc (d:DK)(n:List UInt8):Int:=if wB d=false then 9 else if we d n then 0 else 6
def VH (d:DK)(n:List UInt8):DK:=if Yc d n=0 then fmD (vd d) n else vd d
theorem wk (d:DK)(n:List UInt8):we (vd d) n↔we d n:=by unfold we;rw[qU]
theorem Q1 (p:Nat)(d:DK)(n:List UInt8)(a:OA)(c:Nat)(M:OM)(L:HL)(h:qI M a 1 1 [str n]):
  qh kY 128 [qK p,.slice a 1 c] (qt p d::qp M::L) (λr L'=>r=.int .i64 (Yc d n)∧L'=qt p (VH d n)::qp M::L):=by
 refine qg Tryz.func128 rfl rfl rfl ?_;refine Q.r ?_;(repeat (intro b1;refine Q.r ?_));refine S.y (Y.mf rfl rfl) ?_;refine Q.r ?_;rename_i bd;refine S.ck p rfl (zA p d 183 [qK b1,qK bd] a c [n] _ (λr L'=>r=.int .i64 0∧L'=qt p (fmD (vd d) n)::qp M::L) (λX=>qI.rd h (hm:=Qo X inferInstance)) (by simp) (λh1 h2=> ?_)) ?_
 ·refine qh.ent (L':=qt p (vd d)::pt b1 (cl [.slice a 1 c] 68)::pt bd (cl [qK p] 24)::qp M::L) eG ?_
  exact p7 p b1 bd (vd d) n a c M L h ((wk d n).2 (h2 n (by simp)))
 intro v L' hR;refine Q.r ?_
 rcases hR with ⟨h1,rfl,rfl⟩|⟨h1,⟨x,hx,hx2⟩,rfl,rfl⟩|⟨h1,h2,rfl,rfl⟩
 ·have e:Yc d n=9:=by unfold Yc;rw[jb h1]
  refine N.t rfl ?_ ⟨by rw[e],by unfold VH;rw[e,ja zd]⟩;exact eG
 ·rw[ji.1 hx] at hx2
  have e:Yc d n=6:=by unfold Yc;rw[ja (by rw[h1];decide),ja hx2]
  refine N.t rfl ?_ ⟨by rw[e],by unfold VH;rw[e,ja zd]⟩;exact eG
 ·have e:Yc d n=0:=by unfold Yc;rw[ja (by rw[h1];decide),jb (h2 n (by simp))]
  exact N.t rfl (kZ _) ⟨by rw[e],by unfold VH;rw[e,jb rfl]⟩
end Go.Proofs.YtlnfjhiphlfkjaaGreatDoor
namespace Go.SX
open Go
theorem db {P:Program}{n:Nat}{cd:Code}{Q:vm}{f:vL}{L:HL}(a:OA){t sz m c:Nat}{cs:List Value}{L0:HL}[h:KU a L t sz m c cs L0]
  (hk:cs.length=m*sz→(m=0∨∃b,a=some ⟨b,0,none⟩)→m≤c→swp P n cd Q f (slO t sz a m c cs::L0)):swp P n cd Q f L:=
 vh (h.ent.trans rH) (K8 λhp=>hk hp.1 hp.2.1 hp.2.2)
theorem jBN {t sz m c k:Nat}{a:OA}{cs:List Value}{L:HL}(hk:k≤m):qi (slO t sz a m c cs::L) (slO t sz a k c (cs.take (k*sz))::L):=λw F H=>by
 have H0:St w (slO t sz a m c cs::(L++F)):=by simpa using H
 obtain ⟨hl,hq⟩:=St.slO_open H0
 rcases hq with ⟨rfl,rfl,rfl,rfl,H2⟩|⟨b,rest,rfl,hm,hc,H2⟩
 ·have:k=0:=by omega
  subst this;have:=St.slO_none (t:=t) (sz:=sz) H2
  simpa using this
 ·have e:cs++rest=cs.take (k*sz)++(cs.drop (k*sz)++rest):=by rw[←ju,kJ]
  have hks:k*sz≤m*sz:=Nat.mul_le_mul_right _ hk;rw[e] at H2 hc;have:=St.slO_shut (sz:=sz) (m:=k) (c:=c) (by rw[jP];omega) zo hc H2
  simpa using this
end Go.SX
namespace Go.Proofs.YtlnfjhiphlfkjaaGreatDoor
open Go Go.SX
attribute [local irreducible] swp qq qL qJ vZ qh St qi qk vu qH
theorem Yu {t m c k:Nat}{a:OA}{bs:List UInt8}{L:HL}(hm:bs.length=m)(hk:k≤m):qi (slO t 1 a m c (bs.map B)::L) (slO t 1 a (bs.take k).length c ((bs.take k).map B)::L):=by
 have h:=jBN (t:=t) (sz:=1) (m:=m) (c:=c) (k:=k) (a:=a) (cs:=bs.map B) (L:=L) hk;rw[jX,←List.map_take] at h;have e:(bs.take k).length=k:=by rw[jP];omega
 rw[e];exact h
theorem W5.len {d:DK}{ts:List DE}(hd:W5 d ts){k:Nat}{u:DE}(h:ts[k]? =some u):u.2.2.bs.length≤1048576∧u.2.2.bs.length≤qT d.fs:=by
 have h1:=hd.used;have h2:=hd.rm;have h3:u.2.2.bs.length≤qT d.fs:=by
  rw[←Kz hd];exact QN (jA (f:=λu:DE=>u.2.2.bs.length) (jn h))
 omega
theorem f4 {l:List (List UInt8×List UInt8×Nat)}{i:Nat}{u v:List UInt8×List UInt8×Nat}(h:l[i]? =some u)(hl:v.2.1.length≤u.2.1.length):qT (l.set i v)≤qT l:=by
 induction l generalizing i with
 |nil=>simp at h
 |cons x l ih=>
  cases i with
  |zero=>
   simp at h;subst h
   show v.2.1.length+qT l≤x.2.1.length+qT l
   omega
  |succ i=>
   have:=ih (i:=i) (by simpa using h)
   show x.2.1.length+qT (l.set i v)≤x.2.1.length+qT l
   omega
def zG (d:DK)(n:List UInt8):Nat:=(vU d n).1.length - (vU d n).2
theorem Zp (p:Nat)(d:DK)(n:List UInt8)(L:HL):
  qh kY 143 [qK p,str n] (qt p d::L) (λr L'=>r=.int .i64 (zG d n)∧L'=qt p d::L):=by
 refine wm λmp ts hd=> ?_
 refine qg Tryz.func143 rfl rfl rfl ?_;refine Q.r ?_;refine S.y (Y.lk false rfl rfl (λw=>Tryz.zeroValue124 w)) ?_
 cases hz:qE (α:=Nat×FV) ts n with
 |none=>
  dsimp only;refine Q.r ?_;refine N.t rfl (vD hd) ⟨?_,rfl⟩;unfold zG vU;rw[Xl hd.fs,hz];rfl
 |some u=>
  dsimp only;obtain ⟨k,hkk⟩:=YV hz;obtain ⟨ub,ua,uc,ubs,ufirm⟩:=u;have hfi:=hd.firm _ (jn hkk);dsimp only at hfi;have hul:=hd.len hkk;dsimp only at hul;refine dB hkk ?_;refine Q.r ?_;refine Q.dgo [true,false,false,true,true] [] [] [0,1,2,3,4,5,6,7,8,9,10,11,12,13,14,15,16,17,18,19,20] ?_;refine Q.rd ?_;refine D.y rfl rfl rfl zk (Y.lk false rfl rfl (λw=>Tryz.zeroValue124 w)) ?_;rw[hz];dsimp only;refine Q.rd ?_;refine D.y rfl rfl rfl zk (Y.lk false rfl rfl (λw=>Tryz.zeroValue124 w)) ?_;rw[hz];dsimp only;refine Q.rd ?_;refine D.yp rfl rfl rfl (Y.subN (a:=ubs.length) (b:=ufirm) rfl rfl ⟨hfi,by omega⟩) ?_;refine Q.rd ?_;refine Q.r ?_;refine N.t rfl (qi.trans (M:=yJ (ub,(⟨ua,uc,ubs,ufirm⟩:FV))::xg (ub,(⟨ua,uc,ubs,ufirm⟩:FV))::xm (ts.eraseIdx k)::dP p mp d::dM mp ts::L) eG (qi.trans (Ya hkk) (qi.trans (M:=dP p mp d::dM mp ts::xm ts::L) eG (vD hd)))) ⟨?_,rfl⟩;unfold zG vU;rw[Xl hd.fs,hz];rfl
def tmD (d:DK)(n:List UInt8)(k:Nat):DK:={d with fs:=qN d.fs n ((vU d n).1.take k,min (vU d n).2 k)}
theorem pG (p bd bn bk:Nat)(d:DK)(n:List UInt8)(k:Nat)(L:HL)(hh:we d n)(hk:k≤(vU d n).1.length):
  qh kY 192 [qK bd,qK bn,qK bk] (qt p d::pt bd (cl [qK p] 24)::pt bn (cl [str n] 9)::pt bk (cl [.int .i64 k] 3)::L) (λr L'=>r=.int .i64 0∧L'=qt p (tmD d n k)::L):=by
 refine wm λmp ts hd=> ?_
 refine qg Tryz.func192 rfl rfl rfl ?_;obtain ⟨u,hz⟩:∃u,qE (α:=Nat×FV) ts n=some u:=by
  cases hz:qE (α:=Nat×FV) ts n with
  |some u=>exact ⟨u,rfl⟩
  |none=>exact absurd ((Jf hd.fs).2 hz) hh
 obtain ⟨i,hkk⟩:=YV hz;obtain ⟨ub,ua,uc,ubs,ufirm⟩:=u;have hlk:qE d.fs n=some (ubs,ufirm):=by rw[Xl hd.fs,hz];rfl
 have hfd:vU d n=(ubs,ufirm):=by unfold vU;rw[hlk];rfl
 rw[hfd] at hk;dsimp only at hk;have hfi:=hd.firm _ (jn hkk);dsimp only at hfi;have hul:=hd.len hkk;dsimp only at hul;refine Vu hkk ?_;refine Q.r ?_;refine Q.dgo [false,false,false,true,true,true,true,true] [] [] [0,1,2,3,4,5,6] ?_;refine Q.rd ?_;refine D.y rfl rfl rfl zk (Y.lk false rfl rfl (λw=>Tryz.zeroValue124 w)) ?_;rw[hz];dsimp only[cond_false];refine Q.rd ?_;refine Q.r ?_;refine Q.dgo [true,false,false,true,true,true,true,true] [] [] [0,1,2,3,4,5,6,7,8,9,10] ?_;refine Q.rd ?_;refine Q.r ?_;have hfin:qi (slO 5 1 ua ubs.length uc (ubs.map B)::pt ub (cl [.slice ua k uc,.int .i64 (min (ufirm:Int) (k:Int))] 126)::xm (ts.eraseIdx i)::dP p mp d::dM mp ts::L) (qt p (tmD d n k)::L):=by
  have hkf:=Qm hd.fs hd.key;have hfk:d.fs[i]? =some (n,ubs,ufirm):=by rw[←hd.fs,jZ,hkk];rfl
  have hwf:(tmD d n k).fs=d.fs.set i (n,ubs.take k,min ufirm k):=by
   show qN d.fs n _=_
   rw[hfd];exact du hkf hfk
  have hd2 : W5 (tmD d n k) (ts.set i (n,ub,⟨ua,uc,ubs.take k,min ufirm k⟩)) := hd.set hkk _ rfl rfl hwf (by
   have h1:=hd.used;have h2:qT (tmD d n k).fs≤qT d.fs:=by
    rw[hwf];exact f4 hfk (by simp;omega)
   show (qT (tmD d n k).fs:Int)≤d.room
   omega) (by
   show min ufirm k≤(ubs.take k).length
   rw[jP];omega)
  refine qi.trans (Yu rfl hk) ?_;have e1:(ubs.take k).length=k:=by rw[jP];omega
  have e2:(min (ufirm:Int) (k:Int))=((min ufirm k:Nat):Int):=by omega
  refine qi.trans (M:=yJ (ub,(⟨ua,uc,ubs.take k,min ufirm k⟩:FV))::xg (ub,(⟨ua,uc,ubs.take k,min ufirm k⟩:FV))::xm (ts.eraseIdx i)::dP p mp d::dM mp ts::L) ?_ (Qs hkk hd2)
  show qi _ (pt ub (cl [.slice ua (ubs.take k).length uc,.int .i64 ((min ufirm k:Nat):Int)] 126)::slO 5 1 ua (ubs.take k).length uc ((ubs.take k).map B)::xm (ts.eraseIdx i)::dP p mp d::dM mp ts::L)
  rw[e1,e2];exact eG

 refine db ua (λ_ _ hcap=> ?_);dsimp only at hcap;refine vh (L':=yJ (ub,(⟨ua,uc,ubs,ufirm⟩:FV))::xg (ub,(⟨ua,uc,ubs,ufirm⟩:FV))::xm (ts.eraseIdx i)::dP p mp d::dM mp ts::pt bd (cl [qK p] 24)::pt bn (cl [str n] 9)::pt bk (cl [.int .i64 k] 3)::L) eG ?_;refine Q.dgo [false,true,true,true,true,true,true,true] [5,11,16,19] [] [0,1,2,3,4,6,8,9,10,12,99999,0,0,0,0,0,0,0,0,0] ?_;refine Q.rd2 ?_;refine D.two 5 11 [7,11,13,14,15,16,17,18,19] [13,5,7,14,15,16,17,18,19] zk rfl rfl rfl rfl zk zk ?_ ?_
 ·refine Q.r ?_
  refine Q.rd2 ?_;refine D.yp rfl rfl rfl (Y.slT (h:=k) rfl rfl rfl (by dsimp only;omega)) ?_;refine Q.rd2 ?_;refine D.e rfl rfl rfl ?_;refine Q.r ?_;refine Q.rd2 ?_;refine D.e rfl rfl rfl ?_;refine Q.r ?_;refine Q.rd2 ?_;refine D.e rfl rfl rfl ?_;refine Q.r ?_;refine Q.rd2 ?_;refine Q.r ?_;refine N.t rfl (qi.trans (M:=slO 5 1 ua ubs.length uc (ubs.map B)::pt ub (cl [.slice ua k uc,.int .i64 (min (ufirm:Int) (k:Int))] 126)::xm (ts.eraseIdx i)::dP p mp d::dM mp ts::L) eG hfin) ⟨rfl,rfl⟩
 ·refine Q.r ?_
  refine Q.rd2 ?_;refine D.e rfl rfl rfl ?_;refine Q.r ?_;refine Q.rd2 ?_;refine D.yp rfl rfl rfl (Y.slT (h:=k) rfl rfl rfl (by dsimp only;omega)) ?_;refine Q.rd2 ?_;refine D.e rfl rfl rfl ?_;refine Q.r ?_;refine Q.rd2 ?_;refine D.e rfl rfl rfl ?_;refine Q.r ?_;refine Q.rd2 ?_;refine Q.r ?_;refine N.t rfl (qi.trans (M:=slO 5 1 ua ubs.length uc (ubs.map B)::pt ub (cl [.slice ua k uc,.int .i64 (min (ufirm:Int) (k:Int))] 126)::xm (ts.eraseIdx i)::dP p mp d::dM mp ts::L) eG hfin) ⟨rfl,rfl⟩
def tmE (d:DK)(n:List UInt8):Int:=if wB d=false then 9 else if we d n then 0 else 6
def W8 (d:DK)(n:List UInt8)(k:Nat):DK:=if tmE d n=0 then tmD (vd d) n k else vd d
theorem lF (d:DK)(n:List UInt8):vU (vd d) n=vU d n:=by unfold vU;rw[qU]
theorem qY.rowk {L:HL}{b n:Nat}{l:List Value}{t:TypeId}[h:zK b L (cl l t)](hl:l.length=n):qY L (some ⟨b,0,none⟩) n 1 l:=⟨by rw[hl,jX],.inr ⟨b,0,rfl,vi.row⟩⟩
theorem qY.app {L:HL}{a:OA}{m sz:Nat}{cs:List Value}(h:qY L a m sz cs):∀X:HL,qY (X++L) a m sz cs
 | []=>h
 |A::X=>qY.ent (qY.app h X) (Sub.there (A:=A) (h:=Sub.refl)).ent
theorem jAM (p:Nat)(d:DK)(n:List UInt8)(k:Nat)(L:HL)(hk:k≤(vU d n).1.length):
  qh kY 142 [qK p,str n,.int .i64 k] (qt p d::L) (λr L'=>r=.int .i64 (tmE d n)∧L'=qt p (W8 d n k)::L):=by
 refine qg Tryz.func142 rfl rfl rfl ?_;refine Q.r ?_;(repeat (intro b1;refine Q.r ?_));refine S.y (Y.mf rfl rfl) ?_;refine Q.r ?_;(repeat (intro b1;refine Q.r ?_));rename_i bd bn bk;refine S.ck p rfl (zA p d 192 [qK bd,qK bn,qK bk] (some ⟨b1,0,none⟩) 1 [n] _ (λr L'=>r=.int .i64 0∧L'=qt p (tmD (vd d) n k)::L) (λX=>qY.app (qY.rowk rfl) X) (by simp) (λh1 h2=> ?_)) ?_
 ·refine qh.ent (L':=qt p (vd d)::pt bd (cl [qK p] 24)::pt bn (cl [str n] 9)::pt bk (cl [.int .i64 k] 3)::L) eG ?_
  exact pG p bd bn bk (vd d) n k L ((wk d n).2 (h2 n (by simp))) (by rw[lF];exact hk)
 intro v L' hR;refine Q.r ?_
 rcases hR with ⟨h1,rfl,rfl⟩|⟨h1,⟨x,hx,hx2⟩,rfl,rfl⟩|⟨h1,h2,rfl,rfl⟩
 ·have e:tmE d n=9:=by unfold tmE;rw[jb h1]
  refine N.t rfl ?_ ⟨by rw[e],by unfold W8;rw[e,ja zd]⟩;exact eG
 ·rw[ji.1 hx] at hx2
  have e:tmE d n=6:=by unfold tmE;rw[ja (by rw[h1];decide),ja hx2]
  refine N.t rfl ?_ ⟨by rw[e],by unfold W8;rw[e,ja zd]⟩;exact eG
 ·have e:tmE d n=0:=by unfold tmE;rw[ja (by rw[h1];decide),jb (h2 n (by simp))]
  exact N.t rfl (kZ _) ⟨by rw[e],by unfold W8;rw[e,jb rfl]⟩
theorem VI {α:Type}{ts:List (List UInt8×α)}(hk:qm ts){k:Nat}{n:List UInt8}{u:α}(h:ts[k]? =some (n,u)):qO ts n=ts.eraseIdx k:=by
 have hkl:k<ts.length:=(jm.1 h).1;have he:=(jm.1 h).2
 rcases wJ ts hk n with ⟨p,a,q,hpq,hp,hqn⟩|hn
 ·have hkp:k=p.length:=by
   rw[hpq] at h
   rcases Nat.lt_trichotomy k p.length with h1|h1|h1
   ·rw[ko h1] at h
    exact absurd rfl (hp _ (jn h))
   ·exact h1
   ·rw[kG zo] at h
    obtain ⟨d,hd⟩:∃d,k - p.length=d+1:=⟨k - p.length - 1,by omega⟩;rw[hd,jg] at h;exact absurd rfl (hqn _ (jn h))
  rw[hpq,Qt hp hqn,hkp,List.eraseIdx_append_of_length_le (jz _),Nat.sub_self,List.eraseIdx_cons_zero]
 ·exact absurd rfl (hn (n,u) (jn h))
theorem jBt (l:List (List UInt8×List UInt8×Nat))(n:List UInt8):qT (qO l n)≤qT l:=by
 induction l with
 |nil=>exact jz _
 |cons x l ih=>
  have e:qT (x::l)=x.2.1.length+qT l:=by simp[qT]
  by_cases h:x.1=n
  ·have:qO (x::l) n=qO l n:=by simp[qO,h]
   rw[this];omega
  ·have:qO (x::l) n=x::qO l n:=by simp[qO,h]
   rw[this];have:qT (x::qO l n)=x.2.1.length+qT (qO l n):=by simp[qT]
   omega
theorem sX (ts:List DE)(n:List UInt8):(qO (α:=Nat×FV) ts n).map DE.abs=qO (ts.map DE.abs) n:=by
 induction ts with
 |nil=>rfl
 |cons x ts ih=>
  by_cases h:x.1=n
  ·have e1:qO (α:=Nat×FV) (x::ts) n=qO (α:=Nat×FV) ts n:=by simp[qO,h]
   have e2:qO ((x::ts).map DE.abs) n=qO (ts.map DE.abs) n:=by simp[qO,h]
   rw[e1,e2,ih]
  ·have e1:qO (α:=Nat×FV) (x::ts) n=x::qO (α:=Nat×FV) ts n:=by simp[qO,h]
   have e2:qO ((x::ts).map DE.abs) n=x.abs::qO (ts.map DE.abs) n:=by simp[qO,h]
   rw[e1,e2,←ih];rfl
def jAx (d:DK)(n:List UInt8):DK:={d with fs:=qO d.fs n}
theorem W5.del {d:DK}{ts:List DE}(h:W5 d ts)(n:List UInt8):W5 (jAx d n) (qO (α:=Nat×FV) ts n):=
 ⟨by rw[sX,h.fs];rfl,yo h.key n,h.lm,h.rm,by
  have h1:=jBt d.fs n;have h2:=h.used
  show (qT (qO d.fs n):Int)≤d.room
  omega,ke (kw _ _) h.few,λu hu=>h.firm u (jB.1 hu).1⟩
theorem jGl {ts:List DE}(hk:qm ts)(n:List UInt8){L:HL}:qi (xm ts::L) (xm (qO (α:=Nat×FV) ts n)::L):=by
 cases hz:qE (α:=Nat×FV) ts n with
 |none=>
  have e:qO (α:=Nat×FV) ts n=ts:=WO λu hu h=>by
   have:=(vp hk (x:=n) (a:=u.2)).2 (by rw[←h];exact hu);rw[this] at hz;cases hz
  rw[e];exact kZ _
 |some u=>
  obtain ⟨k,hkk⟩:=YV hz;rw[VI hk hkk];exact qi.trans (pq hkk) (qi.drop (qi.drop (kZ _)))
def swD (d:DK)(n m:List UInt8):DK:={d with fs:=qO d.fs n++[(m,(vU d n).1.take (vU d n).2,(vU d n).2)]}
theorem pH (p bd bn bm:Nat)(d:DK)(n m:List UInt8)(L:HL)(hh:we d n)(hm:¬we d m)(hr:WA m):
  qh kY 184 [qK bd,qK bn,qK bm] (qt p d::pt bd (cl [qK p] 24)::pt bn (cl [str n] 9)::pt bm (cl [str m] 9)::L) (λr L'=>r=.int .i64 0∧L'=qt p (swD d n m)::L):=by
 refine wm λmp ts hd=> ?_
 refine qg Tryz.func184 rfl rfl rfl ?_;obtain ⟨u,hz⟩:∃u,qE (α:=Nat×FV) ts n=some u:=by
  cases hz:qE (α:=Nat×FV) ts n with
  |some u=>exact ⟨u,rfl⟩
  |none=>exact absurd ((Jf hd.fs).2 hz) hh
 obtain ⟨i,hkk⟩:=YV hz;obtain ⟨ub,ua,uc,ubs,ufirm⟩:=u;have hlk:qE d.fs n=some (ubs,ufirm):=by rw[Xl hd.fs,hz];rfl
 have hfd:vU d n=(ubs,ufirm):=by unfold vU;rw[hlk];rfl
 have hfi:=hd.firm _ (jn hkk);dsimp only at hfi;have hul:=hd.len hkk;dsimp only at hul;refine Vu hkk ?_;refine Q.r ?_;refine Q.dgo [false,false,false,true,true,true,true,true] [] [] [0,1,2,3,4,5,6] ?_;refine Q.rd ?_;refine D.y rfl rfl rfl zk (Y.lk false rfl rfl (λw=>Tryz.zeroValue124 w)) ?_;rw[hz];dsimp only[cond_false];refine Q.rd ?_;refine Q.r ?_;refine S.cr rfl (Yz m _ hr) ?_;rintro _ _ ⟨rfl,rfl⟩;refine Q.r ?_;refine db ua (λ_ _ hcap=> ?_);dsimp only at hcap;refine vh (L':=yJ (ub,(⟨ua,uc,ubs,ufirm⟩:FV))::xg (ub,(⟨ua,uc,ubs,ufirm⟩:FV))::xm (ts.eraseIdx i)::dP p mp d::dM mp ts::pt bd (cl [qK p] 24)::pt bn (cl [str n] 9)::pt bm (cl [str m] 9)::L) eG ?_;refine Q.dgo [true,false,false,false,false,false,false,false] [12] [12] [0,1,2,3,4,5,6,7,8,9,10,11,12] ?_;refine Q.rd2 ?_;refine D.yp rfl rfl rfl (Y.slT (h:=ufirm) rfl rfl rfl (by dsimp only;omega)) ?_;refine Q.rd2 ?_;refine Q.dc rfl rfl rfl rfl ?_;refine Q.r ?_;refine Q.rd2 ?_;refine Q.r ?_;refine vh (L':=pt ub (cl [.slice ua ufirm uc,.int .i64 ufirm] 126)::slO 5 1 ua ubs.length uc (ubs.map B)::xm (ts.eraseIdx i)::dP p mp d::pt bd (cl [qK p] 24)::pt bn (cl [str n] 9)::pt bm (cl [str m] 9)::dM mp ts::L) eG ?_;refine Q.dgo [false,false,false,true,true,true,true,false] [5] [] [0,1,2,3,4,5] ?_;refine Q.rd ?_;refine D.e rfl rfl rfl ?_;refine S.dl rfl rfl ?_;refine Q.r ?_;refine Q.rd2 ?_;refine Q.r ?_;rw[VI hd.key hkk];refine vh (L':=dP p mp d::pt bd (cl [qK p] 24)::pt bn (cl [str n] 9)::pt bm (cl [str m] 9)::dM mp (ts.eraseIdx i)::pt ub (cl [.slice ua ufirm uc,.int .i64 ufirm] 126)::slO 5 1 ua ubs.length uc (ubs.map B)::xm (ts.eraseIdx i)::L) eG ?_;refine Q.dgo [true,true,true,true,false,false,false,false] [6] [] [0,1,2,3,4,5,6] ?_;refine Q.rd ?_;refine D.e rfl rfl rfl ?_;refine S.mu (u:=((ub,⟨ua,uc,ubs.take ufirm,ufirm⟩):Nat×FV)) rfl rfl rfl ?_;refine Q.r ?_;refine Q.rd2 ?_
 refine Q.r ?_;have hdel:qO (α:=Nat×FV) ts n=ts.eraseIdx i:=VI hd.key hkk;have hmn:∀u∈ts.eraseIdx i,u.1≠m:=by
  intro u hu h;rw[←hdel] at hu;have h1:=(jB.1 hu).1;exact hm λh2=>by
   have:=(vp hd.key (x:=m) (a:=u.2)).2 (by rw[←h];exact h1);rw[(Jf hd.fs).1 h2] at this;cases this
 have hk1:(ubs.take ufirm).length=ufirm:=by rw[jP];omega
 have hput:qN (α:=Nat×FV) (ts.eraseIdx i) m ((ub,⟨ua,uc,ubs.take ufirm,ufirm⟩):Nat×FV)=ts.eraseIdx i++[(m,ub,⟨ua,uc,ubs.take ufirm,ufirm⟩)]:=vJ hmn;rw[hput];have hus:qT (qO d.fs n)+ubs.length=qT d.fs:=by
  have h1:=ze ts i _ hkk;have h2:=(h1.map λu:DE=>u.2.2.bs.length).sum_nat;rw[jL,List.sum_cons] at h2;rw[Kz hd] at h2;have h3:=Kz (hd.del n);rw[hdel] at h3;have h4:qT (jAx d n).fs=qT (qO d.fs n):=rfl;rw[h4] at h3;dsimp only at h2;omega
 have hd2:W5 (swD d n m) (ts.eraseIdx i++[(m,ub,⟨ua,uc,ubs.take ufirm,ufirm⟩)]):=by
  refine ⟨?_,?_,hd.lm,hd.rm,?_,?_,?_⟩
  ·rw[jq,←hdel,sX,hd.fs]
   show _=qO d.fs n++[(m,(vU d n).1.take (vU d n).2,(vU d n).2)]
   rw[hfd];rfl
  ·rw[←hput,←hdel];exact vy (yo hd.key n) m _
  ·show (qT (qO d.fs n++[(m,(vU d n).1.take (vU d n).2,(vU d n).2)]):Int)≤d.room
   rw[K7,hfd];have h1:=hd.used;have h2:qT [(m,ubs.take ufirm,ufirm)]=ufirm:=by simp[qT];omega
   rw[h2];omega
  ·have h1:=hd.few
   have h2:=(jm.1 hkk).1;rw[jc,List.length_eraseIdx_of_lt h2]
   show _+1≤16
   omega
  ·intro u hu
   rcases jy.1 hu with hu|hu
   ·rw[←hdel] at hu;exact hd.firm u (jB.1 hu).1
   ·rw[ji.1 hu]
    show ufirm≤(ubs.take ufirm).length
    omega
 refine N.t rfl ?_ ⟨rfl,rfl⟩;refine qi.trans (M:=slO 5 1 ua ubs.length uc (ubs.map B)::pt ub (cl [.slice ua ufirm uc,.int .i64 ufirm] 126)::xm (ts.eraseIdx i)::dP p mp d::dM mp (ts.eraseIdx i++[(m,ub,⟨ua,uc,ubs.take ufirm,ufirm⟩)])::L) eG ?_;refine qi.trans (Yu rfl hfi) ?_;refine qi.trans (M:=yJ (ub,(⟨ua,uc,ubs.take ufirm,ufirm⟩:FV))::xg (ub,(⟨ua,uc,ubs.take ufirm,ufirm⟩:FV))::xm (ts.eraseIdx i)::dP p mp (swD d n m)::dM mp (ts.eraseIdx i++[(m,ub,⟨ua,uc,ubs.take ufirm,ufirm⟩)])::L) ?_ (qi.trans (jCL (ts.eraseIdx i) (m,ub,⟨ua,uc,ubs.take ufirm,ufirm⟩)) (qi.trans (M:=dP p mp (swD d n m)::dM mp (ts.eraseIdx i++[(m,ub,⟨ua,uc,ubs.take ufirm,ufirm⟩)])::xm (ts.eraseIdx i++[(m,ub,⟨ua,uc,ubs.take ufirm,ufirm⟩)])::L) eG (vD hd2)))
 show qi _ (pt ub (cl [.slice ua (ubs.take ufirm).length uc,.int .i64 ufirm] 126)::slO 5 1 ua (ubs.take ufirm).length uc ((ubs.take ufirm).map B)::xm (ts.eraseIdx i)::dP p mp d::dM mp (ts.eraseIdx i++[(m,ub,⟨ua,uc,ubs.take ufirm,ufirm⟩)])::L)
 rw[hk1];exact eG
def swE (d:DK):Int:=if wB d=false then 9 else 0
def swS (d:DK)(n m:List UInt8):DK:=if wB d=false then vd d else swD (vd d) n m
theorem jAN (p:Nat)(d:DK)(n m:List UInt8)(L:HL)(hh:we d n)(hm:¬we d m)(hr:WA m):
  qh kY 129 [qK p,str n,str m] (qt p d::L) (λr L'=>r=.int .i64 (swE d)∧L'=qt p (swS d n m)::L):=by
 refine qg Tryz.func129 rfl rfl rfl ?_;refine Q.r ?_;(repeat (intro b1;refine Q.r ?_));refine S.y (Y.mf rfl rfl) ?_;refine Q.r ?_;rename_i bd bn;refine S.ck p rfl (zA p d 184 [qK bd,qK bn,qK b1] none 0 [] _ (λr L'=>r=.int .i64 0∧L'=qt p (swD (vd d) n m)::L) (λX=>⟨rfl,.inl rfl⟩) (by simp) (λh1 h2=> ?_)) ?_
 ·refine qh.ent (L':=qt p (vd d)::pt bd (cl [qK p] 24)::pt bn (cl [str n] 9)::pt b1 (cl [str m] 9)::L) eG ?_
  exact pH p bd bn b1 (vd d) n m L ((wk d n).2 hh) (λh=>hm ((wk d m).1 h)) hr
 intro v L' hR;refine Q.r ?_
 rcases hR with ⟨h1,rfl,rfl⟩|⟨h1,⟨x,hx,hx2⟩,rfl,rfl⟩|⟨h1,h2,rfl,rfl⟩
 ·refine N.t rfl ?_ ⟨by unfold swE;rw[jb h1],by unfold swS;rw[jb h1]⟩
  exact eG
 ·cases hx
 ·have h3:¬wB d=false:=by rw[h1];decide
  exact N.t rfl (kZ _) ⟨by unfold swE;rw[ja h3],by unfold swS;rw[ja h3]⟩
def Qr (d:DK)(ns:List (List UInt8)):DK:={d with fs:=ns.foldl qO d.fs}
theorem pu (d:DK)(ns:List (List UInt8))(n:List UInt8):Qr d (ns++[n])=jAx (Qr d ns) n:=by
 unfold Qr jAx;rw[List.foldl_append];rfl
theorem p8 (p bn bd:Nat)(d:DK)(a:OA)(c:Nat)(ns:List (List UInt8))(L:HL)(hns:∀X:HL,qY (X++L) a ns.length 1 (ns.map str))(hn:ns.length≤1000000):
  qh kY 144 [qK bn,qK bd] (qt p d::pt bn (cl [.slice a ns.length c] 68)::pt bd (cl [qK p] 24)::L) (λr L'=>r=.int .i64 0∧L'=qt p (Qr d ns)::L):=by
 refine qg Tryz.func144 rfl rfl rfl ?_;refine Q.r ?_;have hns0:∀X:HL,qY (X++L) a ns.length 1 (ns.flatMap sC):=λX=>by rw[Wi];exact hns X
 refine qw (σ:=Unit) (λ_=> []) (λ_=>qt p (Qr d ns)::L) (λ_=>True) ?_ ?_
 ·refine ql (σ:=Nat) (λk=> [(0,qK bn),(1,qK bd),(5,.slice a ns.length c),(6,.int .i64 ns.length),(7,.int .i64 k)]) (λk=>qt p (Qr d (ns.take k))::pt bn (cl [.slice a ns.length c] 68)::pt bd (cl [qK p] 24)::L)
   (λk=>k≤ns.length) (λk=>ns.length - k) 0 zt (kZ _) zo ?_
  intro k hk
  by_cases hlt:k<ns.length
  ·obtain ⟨n,hnk⟩:=qx hlt
   obtain ⟨b,o,rfl,hr⟩:=qY.elem (g:=sC) (λ_=>rfl) (show qY L a ns.length 1 (ns.flatMap sC) from hns0 []) hnk rfl;refine Yq p λmp ts hd=> ?_
   have hr2:=hr.sub (L:=dP p mp (Qr d (ns.take k))::dM mp ts::xm ts::pt bn (cl [.slice (some ⟨b,o,none⟩) ns.length c] 68)::pt bd (cl [qK p] 24)::L);refine Q.r ?_;refine S.dl rfl rfl ?_;refine Q.r ?_;refine ⟨k+1,zt,?_,by omega,by omega⟩;rw[qA hnk,pu];refine qi.trans (M:=xm ts::dP p mp (jAx (Qr d (ns.take k)) n)::dM mp (qO (α:=Nat×FV) ts n)::pt bn (cl [.slice (some ⟨b,o,none⟩) ns.length c] 68)::pt bd (cl [qK p] 24)::L) eG (qi.trans (jGl hd.key n) ?_);exact qi.trans (M:=dP p mp (jAx (Qr d (ns.take k)) n)::dM mp (qO (α:=Nat×FV) ts n)::xm (qO (α:=Nat×FV) ts n)::pt bn (cl [.slice (some ⟨b,o,none⟩) ns.length c] 68)::pt bd (cl [qK p] 24)::L) eG (vD (hd.del n))
  ·have hke:k=ns.length:=by omega
   subst hke;rw[jI];refine Q.r ?_;exact ⟨(),trivial,by exact eG,trivial⟩
 ·intro _ _
  refine Q.r ?_;exact N.t rfl (kZ _) ⟨rfl,rfl⟩
def drE (d:DK)(ns:List (List UInt8)):Int:=if wB d=false then 9 else 0
def drS (d:DK)(ns:List (List UInt8)):DK:=if wB d=false then vd d else Qr (vd d) ns
theorem W4 (p:Nat)(d:DK)(a:OA)(c:Nat)(ns:List (List UInt8))(L:HL)(hns:∀X:HL,qY (X++L) a ns.length 1 (ns.map str))(hn:ns.length≤1000000)(hh:∀n∈ns,we d n):
  qh kY 76 [qK p,.slice a ns.length c] (qt p d::L) (λr L'=>r=.int .i64 (drE d ns)∧L'=qt p (drS d ns)::L):=by
 refine qg Tryz.func76 rfl rfl rfl ?_;refine Q.r ?_;(repeat (intro b1;refine Q.r ?_));refine S.y (Y.mf rfl rfl) ?_;refine Q.r ?_;rename_i bd;refine S.ck p rfl (zA p d 144 [qK b1,qK bd] a c ns _ (λr L'=>r=.int .i64 0∧L'=qt p (Qr (vd d) ns)::L) (λX=>by have:=hns (X++[pt b1 (cl [.slice a ns.length c] 68),pt bd (cl [qK p] 24)]);rw[ju] at this;exact this) hn (λh1 h2=> ?_)) ?_
 ·refine qh.ent (L':=qt p (vd d)::pt b1 (cl [.slice a ns.length c] 68)::pt bd (cl [qK p] 24)::L) eG ?_
  exact p8 p b1 bd (vd d) a c ns L hns hn
 intro v L' hR;refine Q.r ?_
 rcases hR with ⟨h1,rfl,rfl⟩|⟨h1,⟨x,hx,hx2⟩,rfl,rfl⟩|⟨h1,h2,rfl,rfl⟩
 ·refine N.t rfl ?_ ⟨by unfold drE;rw[jb h1],by unfold drS;rw[jb h1]⟩
  exact eG
 ·exact absurd (hh x hx) hx2
 ·have h3:¬wB d=false:=by rw[h1];decide
  exact N.t rfl (kZ _) ⟨by unfold drE;rw[ja h3],by unfold drS;rw[ja h3]⟩
attribute [local irreducible] zN
def apT (rec:Loop)(l D bs:Nat)(pre:List (List UInt8)):HP:=d9 λx:OA×Nat=>yA [pt l (.loop rec),pt D (.deferred (some [])),pt bs (cl [.slice x.1 pre.length x.2] 68),slO 9 1 x.1 pre.length x.2 (pre.map str)]
theorem l9 {rec:Loop}{l D bs:Nat}{pre:List (List UInt8)}{a:OA}{c:Nat}{L:HL}:qi (pt l (.loop rec)::pt D (.deferred (some []))::pt bs (cl [.slice a pre.length c] 68)::slO 9 1 a pre.length c (pre.map str)::L) (apT rec l D bs pre::L):=
 qi.trans (qi.shut_all (L:=[_,_,_,_])) (qi.shut_ex (P:=λx:OA×Nat=>yA [pt l (.loop rec),pt D (.deferred (some [])),pt bs (cl [.slice x.1 pre.length x.2] 68),slO 9 1 x.1 pre.length x.2 (pre.map str)]) (a,c))
theorem mb {rec:Loop}{l D bs:Nat}{pre:List (List UInt8)}{w:World}{L:HL}(H:St w (apT rec l D bs pre::L)):∃a c,St w (pt l (.loop rec)::pt D (.deferred (some []))::pt bs (cl [.slice a pre.length c] 68)::slO 9 1 a pre.length c (pre.map str)::L):=by
 obtain ⟨x,H⟩:=St.open_ex H;exact ⟨x.1,x.2,St.ent (qi.open_all (L:=[_,_,_,_])) H⟩
theorem jDr {fn:FuncId}{tm:Array Value}{l D bs:Nat}{pre:List (List UInt8)}{x:List UInt8}{assign body:Code}(htm:tm.size=13)(hbs:tm[2]? =some (.pointer (some ⟨bs,0,none⟩)))(hN:pre.length<1048576)
  (ha:assign=.region 2 ([⟨some 5,.assign (.tmp 7),9, "iter.go:51",#[],none⟩]:List Oper).toArray false)
  (hb : ∃ l1 id,body = .block 1 (.region id (l1 : List Oper).toArray false) ∧ wA 13 l1 = true ∧
   ∀(v:List UInt8) (a:OA) (c k:Nat) (cs:List Value),k<1048576→zN kY 13 (some l) l1 l1 (qL (λf L=>∃a' c',L=[pt bs (cl [.slice a' (k+1) c'] 68),slO 9 1 a' (k+1) c' (cs++[str v])]) (λ_ _ _=>False)) (v7 [(2,.pointer (some ⟨bs,0,none⟩)),(5,str v)]) [pt bs (cl [.slice a k c] 68),slO 9 1 a k c cs]):
  QD kY l (str x) [apT (vB fn tm #[7] assign body D .ready none) l D bs pre] [apT (vB fn tm #[7] assign body D .ready none) l D bs (pre++[x])]:=by
 intro F w t;obtain ⟨a,c,t⟩:=mb (L:=F) (by simpa using t);have hl:=St.pt_read t;obtain ⟨l1,id,hbd,hok1,hb⟩:=hb;refine ⟨fn,tm.setIfInBounds 7 (str x),_,_,by simpa[vB] using run_yield (P:=kY) (args:= #[str x]) hl rfl,roundIn_of_wpIn trivial ?_⟩;have s0:KO 13 {tmps:=tm.setIfInBounds 7 (str x),defers:=[]} (v7 [(2,.pointer (some ⟨bs,0,none⟩)),(7,str x)]):=by
  refine ⟨rfl,by simp[htm],λi v e=> ?_⟩;simp only[v7,upd,e0] at e
  by_cases h2:i=2
  ·subst h2
   cases e
   rw[Array.getD_eq_getD_getElem?,Array.getElem?_setIfInBounds_ne zo,hbs];rfl
  ·by_cases h7:i=7
   ·subst h7
    cases e
    simp[htm]
   ·rw[WR h2,WR h7] at e;cases e
 have hwa:∀Q a w,(Code.region 2 ([⟨some 5,.assign (.tmp 7),9, "iter.go:51",#[],none⟩]:List Oper).toArray false).wpIn (Go.SX.WF (some l)) 0 kY Q a w→assign.wpIn (Go.SX.WF (some l)) 0 kY Q a w:=λQ a w h=>by rw[ha];exact h
 refine hwa _ _ _ (yq (r:=some l) (n:=13) (L:=[pt l (.loop (vB fn tm #[7] assign body D .ready none)),pt D (.deferred (some [])),pt bs (cl [.slice a pre.length c] 68),slO 9 1 a pre.length c (pre.map str)]) (F:=F) (K:=λf L=>f 2=some (.pointer (some ⟨bs,0,none⟩))∧f 5=some (str x)∧L=[pt l (.loop (vB fn tm #[7] assign body D .ready none)),pt D (.deferred (some [])),pt bs (cl [.slice a pre.length c] 68),slO 9 1 a pre.length c (pre.map str)]) ?_ rfl s0 t ?_)
 ·refine qy (λ_ h=>by cases h) rfl ?_
  repeat (first|(refine GQ.y ?_;refine Q.y ?_)|refine Q.go ?_|(refine GQ.g ?_;refine Q.gq ?_)|(refine GQ.s ?_;refine Q.st ?_))
  exact wW (N.tn ⟨rfl,rfl,rfl⟩)
 rintro f L a1 w1 ⟨h2,h5,rfl⟩ s1 t1;refine ⟨_,run_beginRound (St.pt_read t1) rfl,?_⟩;have t2:=St.obj (o':=.loop {(vB fn tm #[7] assign body D .ready none) with state:=.busy}) (L:=[pt D (.deferred (some [])),pt bs (cl [.slice a pre.length c] 68),slO 9 1 a pre.length c (pre.map str)]++F) t1;have t3:St _ ([pt bs (cl [.slice a pre.length c] 68),slO 9 1 a pre.length c (pre.map str)]++(pt l (.loop {(vB fn tm #[7] assign body D .ready none) with state:=.busy})::pt D (.deferred (some []))::F)):=
  St.rot2 t2
 have hwp:∀Q a w,(Code.block 1 (.region id l1.toArray false)).wpIn (Go.SX.WF (some l)) 0 kY Q a w→body.wpIn (Go.SX.WF (some l)) 0 kY Q a w:=λQ a w h=>by rw[hbd];exact h
 refine hwp _ _ _ (wpIn_block (yq (r:=some l) (n:=13) (F:=_) (hb x a c pre.length (pre.map str) hN) hok1 (s1.weaken (wt ⟨h2,h5,trivial⟩)) t3 ?_));rintro f L a2 w2 ⟨a',c',rfl⟩ s2 t4;have t5:St w2 (pt l (.loop {(vB fn tm #[7] assign body D .ready none) with state:=.busy})::pt D (.deferred (some []))::([pt bs (cl [.slice a' (pre.length+1) c'] 68),slO 9 1 a' (pre.length+1) c' (pre.map str++[str x])]++F)):=
  St.rot2 t4
 refine ⟨_,_,run_endRound none (St.pt_read t5),rfl,?_⟩;have t6:=St.obj (o':=.loop (vB fn tm #[7] assign body D .ready none)) t5;have e1:pre.length+1=(pre++[x]).length:=by simp
 have e2:pre.map str++[str x]=(pre++[x]).map str:=by simp
 rw[e1,e2] at t6;have t7:=St.ent (l9 (L:=F)) t6
 simpa[vB] using t7
theorem XY (gf:FuncId)(lb:List Value)[he:Go.SX.qj kY gf](Sp:List (List UInt8)→Prop)(A A':HL)(hseq:Wo kY gf lb str 1048576 Sp A A'):
  qh kY 179 [.slice none 0 0,.func (.func gf) #[] lb.toArray] A (λv L'=>∃ks a c,Sp ks∧v=.slice a ks.length c∧L'=slO 9 1 a ks.length c (ks.map str)::A'):=by
 refine qh.mk' λF w t=> ?_
 refine (callsIn_wide (n:=1)).1 (callsIn_of_wp_marks Tryz.func179 rfl trivial ?_);have s0:KO 13 {tmps:= #[.slice none 0 0,.func (.func gf) #[] lb.toArray]++Array.replicate 11 undef,defers:=[]} (QA [.slice none 0 0,.func (.func gf) #[] lb.toArray] 0):=by
  refine ⟨rfl,by simp,λi v e=> ?_⟩;obtain ⟨_,h2⟩:=Ku _ 0 i v e;simp only[Nat.sub_zero] at h2;have hi:i<2:=(jm.1 h2).1
  match i,hi,h2 with
  |0,_,h2=>simpa using h2
  |1,_,h2=>simpa using h2
 refine xB (n:=13) (F:=F) (K:=λf L=>∃bs,f 1=some (.func (.func gf) #[] lb.toArray)∧f 2=some (.pointer (some ⟨bs,0,none⟩))∧L=pt bs (cl [.slice none 0 0] 68)::A) ?_ rfl s0 t ?_
 ·refine Q.r ?_;(repeat (intro b1;refine Q.r ?_))
  exact ⟨_,rfl,rfl,rfl⟩
 rintro f L a1 w1 ⟨bs,h1,h2,rfl⟩ s1 t1;refine wpIn_seq ?_;refine xB (n:=13) (F:=F) (K:=λf L=>f 6=some (.func (.func gf) #[] lb.toArray)∧f 2=some (.pointer (some ⟨bs,0,none⟩))∧L=pt bs (cl [.slice none 0 0] 68)::A) (f:=v7 [(1,.func (.func gf) #[] lb.toArray),(2,.pointer (some ⟨bs,0,none⟩))]) ?_ rfl (s1.weaken (wt ⟨h1,h2,trivial⟩)) t1 ?_
 ·refine Q.r ?_
  exact ⟨rfl,rfl,rfl⟩
 rintro f L a2 w2 ⟨h6,h2,rfl⟩ s2 t2;obtain ⟨tm,htm⟩:∃tm,tm=a2.tmps:=⟨_,rfl⟩;have hsz:tm.size=13:=by rw[htm];exact s2.size
 have h2':tm[2]? =some (.pointer (some ⟨bs,0,none⟩)):=by
  have:=s2.at_ 2 _ h2;rw[←htm,Array.getD_eq_getD_getElem?] at this;have hlt:2<tm.size:=by omega
  rw[Array.getElem?_eq_getElem hlt] at this ⊢
  simpa using this
 have hev:a2.eval (.tmp 6)=.func (.func gf) #[] lb.toArray:=s2.eval (x:=.tmp 6) h6;refine wpIn_block (K5 hev λfn=> ?_);have t3:=St.pt_new (w':=w2.alloc (.deferred (some []))) t2 rfl rfl;generalize hr0:({state:=.ready,pending:=none,fn,tmps:=a2.tmps,params:= #[7],assign:=_,body:=_,defers:=w2.heap.size}:Loop)=rec;have t4:=St.pt_new (w':=(w2.alloc (.deferred (some []))).alloc (.loop rec)) t3 rfl rfl;obtain ⟨As,hA⟩:∃A,A=rec.assign:=⟨_,rfl⟩;obtain ⟨Bs,hB⟩:∃B,B=rec.body:=⟨_,rfl⟩;have hrec:rec=vB fn tm #[7] As Bs w2.heap.size .ready none:=by rw[hA,hB,htm,←hr0];rfl
 have hA':As=.region 2 ([⟨some 5,.assign (.tmp 7),9, "iter.go:51",#[],none⟩]:List Oper).toArray false:=by rw[hA,←hr0]
 have hB':∃l1 id,Bs=.block 1 (.region id (l1:List Oper).toArray false)∧wA 13 l1=true∧
   ∀(v:List UInt8) (a:OA) (c k:Nat) (cs:List Value),k<1048576→zN kY 13 (some (w2.heap.size+1)) l1 l1 (qL (λf L=>∃a' c',L=[pt bs (cl [.slice a' (k+1) c'] 68),slO 9 1 a' (k+1) c' (cs++[str v])]) (λ_ _ _=>False)) (v7 [(2,.pointer (some ⟨bs,0,none⟩)),(5,str v)]) [pt bs (cl [.slice a k c] 68),slO 9 1 a k c cs]:=by
  refine ⟨_,3,by rw[hB,←hr0],rfl,λv a c k cs hk=> ?_⟩;refine qy (λ_ h=>by cases h) rfl ?_;refine Q.r ?_;refine qy (λ_ h=>by cases h) rfl ?_;refine Q.r ?_;refine qy (λ_ h=>by cases h) rfl ?_;refine Q.r ?_;(repeat (intro b1;refine Q.r ?_));refine qy (λ_ h=>by cases h) rfl ?_;refine S.app rfl rfl (vG.sl vi.row zr zr) zr zo zo (λa' c'=> ?_);refine Q.r ?_;refine qy (λ_ h=>by cases h) rfl ?_;refine Q.r ?_;exact Je (qi.drop (kZ _)) (wW (N.tn ⟨a',c',rfl⟩))
 clear hA hB;subst hrec;clear hr0;have hcall:=hseq (w2.heap.size+1) (apT (vB fn tm #[7] As Bs w2.heap.size .ready none) (w2.heap.size+1) w2.heap.size bs) (λpre x hp=>jDr hsz h2' hp hA' hB');have hsz1:(w2.alloc (.deferred (some []))).heap.size=w2.heap.size+1:=by simp
 rw[hsz1] at t4;have t5:=St.ent (l9 (pre:=[]) (L:=A++F)) (St.ent (qi.cons (qi.cons (qi.cons vj))) t4);refine (qh.run hcall t5).mono ?_;rintro e w3 ⟨v,L',rfl,t6,ks,hks,rfl⟩;obtain ⟨a,c,t7⟩:=mb (L:=A'++F) t6;refine ⟨v,_,rfl,run_endLoop (St.pt_read t7) (by simp[vB]),?_⟩;have t8:=St.obj (o':=.loop {vB fn tm #[7] As Bs w2.heap.size .ready none with state:=.exhausted}) t7;have t9:=t8.tail;generalize w3.putObj (w2.heap.size+1) (.loop {vB fn tm #[7] As Bs w2.heap.size .ready none with state:=.exhausted})=w4 at t9;have hD:=St.pt_read t9;have hcell:=St.pt_read t9.tail;simp only[Exit.inBlock,Exit.then];have hload:(Instr.loadAt 68 (.pointer (some ⟨bs,0,none⟩))).run kY w4=.ok (.slice a ks.length c) w4:=KE (P:=kY) (b:=bs) (o:=0) (by simp[World.cell?,hcell,cl]);have hd0:a2.tmps.getD 2 undef=.pointer (some ⟨bs,0,none⟩):=s2.at_ 2 _ h2;have hd1:a2.tmps.size=13:=s2.size;have hd2:a2.defers=[]:=s2.defers;refine wpIn_seq (wpIn_region_lit ?_);refine wpListIn_plain rfl λK hK=>⟨λ_ _=>trivial,?_⟩
 rw[Oper.semAt_eq _ _ _ (λ_ h=>by cases h)];simp only[execOp,Act.eval,hd0,Sem.run_bind,hload,Result.andThen_ok,Sem.run_pure];refine hK _ _ (wpListIn_plain rfl λK' hK'=>⟨λ_ _=>trivial,?_⟩);rw[Oper.semAt_eq _ _ _ (λ_ h=>by cases h)];simp only[execOp,Act.eval,Sem.run_pure];refine hK' _ _ (wpListIn_nil (wpIn_ret ?_));refine ⟨by simp,.inl ⟨_,_,rfl,run_takeDeferred hD,?_⟩⟩;rw[hd2];refine ⟨_,results_tmp rfl _ _ _,_,slO 9 1 a ks.length c (ks.map str)::A',?_,(St.obj (o':=.deferred none) t9).tail.tail,ks,a,c,hks,rfl,rfl⟩
 simp[Act.put,hd1]
theorem Z1 (gf:FuncId)(lb:List Value)[he:Go.SX.qj kY gf](Sp:List (List UInt8)→Prop)(A A':HL)(hseq:Wo kY gf lb str 1048576 Sp A A'):
  qh kY 124 [.func (.func gf) #[] lb.toArray] A (λv L'=>∃ks a c,Sp ks∧v=.slice a ks.length c∧L'=slO 9 1 a ks.length c (ks.map str)::A'):=by
 refine qg Tryz.func124 rfl rfl rfl ?_;refine Q.r ?_;refine S.cr rfl (XY gf lb Sp A A' hseq) ?_;rintro _ _ ⟨ks,a,c,hks,rfl,rfl⟩;refine Q.r ?_;exact N.t rfl (kZ _) ⟨ks,a,c,hks,rfl,rfl⟩
theorem pP {α:Type}(rr:α→Value)(bm b:Nat)(m:List (List UInt8×α))(A:HL):Wo kY 126 [.pointer (some ⟨bm,0,none⟩)] str m.length (λks=>ks.Perm (m.map (·.1)))
  (pt bm (cl [.map (some b)] 62)::VX str rr b m::A) (VX str rr b m::A):=by
 intro l J hJ;refine qg Tryz.func126 rfl rfl rfl ?_;refine Q.r ?_;refine S.rg rfl (λr=> ?_);refine Q.r ?_;refine ql (σ:=List Nat) (λvis=> [(0,.func (.yield l) #[] #[]),(5,.pointer (some ⟨r,0,none⟩))])
  (λvis=>J (vis.filterMap λi=>(m[i]?).map (·.1))::bS str rr b r m vis::A) (λvis=>vis.Nodup∧∀i∈vis,i<m.length) (λvis=>m.length - vis.length) [] zt (by simp only[List.filterMap_nil];exact eG) ⟨by simp,by simp⟩ ?_
 rintro vis ⟨hv1,hv2⟩;refine Q.r ?_;refine S.nx rfl (λhend=> ?_) (λi p hp hi=> ?_)
 ·refine Q.r ?_
  exact N.n0 RV.nil (qi.cons QU) ⟨_,X0 _ hv1 hv2 hend,rfl⟩
 ·have hil:i<m.length:=(jm.1 hp).1
  obtain ⟨hm1,hm2,hm3⟩:=K6 hv1 hv2 hil hi;have hvl:(vis.filterMap λi=>(m[i]?).map (·.1)).length≤vis.length:=List.length_filterMap_le _ _;have happ:((vis++[i]).filterMap λi=>(m[i]?).map (·.1))=(vis.filterMap λi=>(m[i]?).map (·.1))++[p.1]:=by
   rw[List.filterMap_append];simp[hp]
  refine Q.r ?_;refine S.y (Y.en rfl hp) ?_;refine S.y (Y.ext rfl rfl) ?_;refine S.y (Y.as rfl) ?_;refine qQ ?_;refine N.tn ?_;refine wE ?_;refine Jy ?_;refine qy (λ_ h=>by cases h) rfl ?_;refine Q.r ?_;refine qy (λ_ h=>by cases h) rfl ?_;refine Q.r ?_;refine KH rfl rfl ((hJ _ p.1 zo).frame (R:=_)) ?_;refine qy (λ_ h=>by cases h) rfl ?_;refine Q.r ?_;refine wW ?_;refine Q.r ?_;refine ⟨vis++[i],zt,?_,⟨hm1,hm2⟩,by simp;omega⟩;rw[happ];exact eG
theorem ZZ (mo:Option Nat)(L:HL):qh kY 63 [.map mo] L
  (λv L'=>∃bm,v=.func (.func 126) #[] [.pointer (some ⟨bm,0,none⟩)].toArray∧L'=pt bm (cl [.map mo] 62)::L):=by
 refine qg Tryz.func63 rfl rfl rfl ?_;refine Q.r ?_;(repeat (intro b1;refine Q.r ?_));refine S.y (Y.mf rfl rfl) ?_;refine Q.r ?_;exact N.t rfl (kZ _) ⟨_,rfl,rfl⟩
end Go.Proofs.YtlnfjhiphlfkjaaGreatDoor
namespace Go.Proofs.YtlnfjhiphlfkjaaGreatDoor
open Go Go.SX
attribute [local irreducible] swp qq qL qJ vZ qh St qi qk vu qH
def KB (ks:List (List UInt8)):List (List UInt8):=ks.mergeSort λx y=>decide (x≤y)
theorem yY (ks:List (List UInt8)):(KB ks).Perm ks:=List.mergeSort_perm _ _
theorem J7 (ks:List (List UInt8)):(KB ks).length=ks.length:=(yY ks).length_eq
theorem jBW (ks ds:List (List UInt8))(rest:List Value)(hl:ds.length=ks.length):Sort.putCells encStr 0 ds.toArray (ks.map str++rest).toArray=(ds.map str++rest).toArray:=by
 unfold Sort.putCells;apply Array.ext
 ·simp[hl]
 ·intro i h1 h2
  simp only[Array.getElem_mapIdx,jw,true_and,kR,List.size_toArray,Nat.sub_zero,List.getElem_toArray]
  by_cases hi:i<ds.length
  ·rw[jb hi,List.getElem_append_left (by simpa using hi),List.getElem_map]
   rw[getElem!_pos ds.toArray i (by simpa using hi)];rfl
  ·rw[ja hi,List.getElem_append_right (by simp;omega),List.getElem_append_right (by simp;omega)]
   simp[hl]
theorem pI (a:OA)(c:Nat)(ks:List (List UInt8))(L:HL)(hn:ks.length≤1000000):
  qh kY 125 [.slice a ks.length c] (slO 9 1 a ks.length c (ks.map str)::L) (λr L'=>r=.tuple #[]∧L'=slO 9 1 a ks.length c ((KB ks).map str)::L):=by
 refine qh.intro λF w H=> ?_
 obtain ⟨hl0,hq⟩:=St.slO_open (L:=L++F) (by simpa using H)
 rcases hq with ⟨rfl,hm,hc,hcs,H2⟩|⟨b,rest,rfl,hm,hlen,H2⟩
 ·have hks:ks=[]:=jO hm
  subst hks;subst hc;refine (Tryz.slices_Sort_string_none none 0 w).mono ?_;rintro e w' ⟨rfl,rfl⟩;exact ⟨_,slO 9 1 none 0 0 []::L,rfl,by simpa using St.slO_none (t:=9) (sz:=1) H2,rfl,by simp[KB]⟩
 ·have hb:=St.pt_read H2
  have hlt:b<w.heap.size:=(kj.1 hb).1;have hH:Sort.Holds encStr w b 0 ks.toArray:=λj hj=>by
   have hj':j<ks.length:=by simpa using hj
   refine ⟨?_,?_⟩
   ·simp only[World.cell?,hb,cl,kR]
    rw[getElem!_pos ks.toArray j hj]
    simp[hj',ko,str,encStr]
   ·simp[World.frozen?,hb,cl]
  refine (Tryz.slices_Sort_string b 0 c ks w hH hlt zo).mono ?_;rintro e w' ⟨rfl,n,os,rfl⟩;refine ⟨_,slO 9 1 (some ⟨b,0,none⟩) ks.length c ((KB ks).map str)::L,rfl,?_,rfl,rfl⟩;have H3:St (Sort.putRow encStr (Sort.ahead w n) b 0 (KB ks).toArray) (pt b (cl ((KB ks).map str++rest) 9)::(L++F)):=by
   refine St.pt_write (w:=w) H2 ?_ (λk hk=> ?_) rfl
   ·show ((Sort.mapBlock (Sort.ahead w n) b _).heap)[b]? =_
    have hb':(Sort.ahead w n).heap[b]? =some (cl (ks.map str++rest) 9):=hb;simp only[Sort.mapBlock,Array.getElem?_modify,hb',if_true,Option.map_some,Sort.onCells,cl];rw[jBW ks (KB ks) rest (J7 ks)]
   ·show ((Sort.mapBlock (Sort.ahead w n) b _).heap)[k]? =_
    simp only[Sort.mapBlock,Array.getElem?_modify,Ne.symm hk,if_false];rfl
  have H4:=St.slO_shut (sz:=1) (m:=ks.length) (c:=c) (by rw[jf,J7];omega) hm (by rw[jc,jf,J7];rw[jc,jf] at hlen;exact hlen) H3;refine St.more (w:=Sort.putRow encStr (Sort.ahead w n) b 0 (KB ks).toArray) (L:=slO 9 1 (some ⟨b,0,none⟩) ks.length c ((KB ks).map str)::L++F) (by simpa using H4) (λk o h=> ?_) rfl;have h':(Sort.putRow encStr (Sort.ahead w n) b 0 (ks.mergeSort λx y=>decide (x≤y)).toArray).heap[k]? =some o:=h
  show ((Sort.putRow encStr (Sort.ahead w n) b 0 (ks.mergeSort λx y=>decide (x≤y)).toArray).heap++os)[k]? =some o
  rw[Array.getElem?_append_left (kj.1 h').1];exact h'
theorem fE (gf:FuncId)(lb:List Value)[he:Go.SX.qj kY gf](ms:List (List UInt8))(A A':HL)(hn:ms.length≤1000000)(hseq:Wo kY gf lb str 1048576 (λks=>ks.Perm ms) A A'):
  qh kY 62 [.func (.func gf) #[] lb.toArray] A (λv L'=>∃ks a c,ks.Perm ms∧v=.slice a ms.length c∧L'=slO 9 1 a ms.length c ((KB ks).map str)::A'):=by
 refine qg Tryz.func62 rfl rfl rfl ?_;refine Q.r ?_;refine S.cr rfl (Z1 gf lb _ A A' hseq) ?_;rintro _ _ ⟨ks,a,c,hks,rfl,rfl⟩;refine Q.r ?_;refine S.cr rfl (pI a c ks A' (by rw[hks.length_eq];exact hn)) ?_;rintro _ _ ⟨rfl,rfl⟩;refine Q.r ?_;exact N.t rfl (kZ _) ⟨ks,a,c,hks,by rw[hks.length_eq],by rw[hks.length_eq]⟩
def qM (d:DK):List (List UInt8):=KB (d.fs.map (·.1))
theorem jBL {a b:List (List UInt8)}(h:a.Perm b):KB a=KB b:=by
 have ha:(KB a).Pairwise (λx y=>decide (x≤y)=true):=List.pairwise_mergeSort (λx y z h1 h2=>by simp at*;exact List.le_trans h1 h2) (λx y=>by simpa using List.le_total x y) a;have hb:(KB b).Pairwise (λx y=>decide (x≤y)=true):=List.pairwise_mergeSort (λx y z h1 h2=>by simp at*;exact List.le_trans h1 h2) (λx y=>by simpa using List.le_total x y) b;have hp:(KB a).Perm (KB b):=(yY a).trans (h.trans (yY b).symm);exact List.Perm.eq_of_pairwise (le:=λx y=>decide (x≤y)=true) (λx y _ _ h1 h2=>by simp at h1 h2;exact List.le_antisymm h1 h2) ha hb hp
theorem Jo (p:Nat)(d:DK)(M:OM)(L:HL):
  qh kY 24 [.pointer (some ⟨p,0,none⟩)] (qt p d::qp M::L) (λr L'=>∃a c M',r=.slice a d.fs.length c∧qI M' a d.fs.length 1 ((qM d).map str)∧d.fs.length≤c∧qV M M'∧L'=qt p d::qp M'::L):=by
 refine wm λmp ts hd=> ?_
 refine qg Tryz.func24 rfl rfl rfl ?_;refine Q.r ?_;refine S.cr rfl (ZZ (some mp) _) ?_;rintro _ _ ⟨bm,rfl,rfl⟩;refine Q.r ?_;refine qo (qi.cons (qi.perm (.swap _ _ _))) ?_;have hlen:ts.length=d.fs.length:=by rw[←hd.fs,jf]
 have hnm:ts.map (·.1)=d.fs.map (·.1):=by rw[←hd.fs,kE];rfl
 refine S.cr rfl (fE _ _ (ts.map (·.1)) _ _ (by rw[jf];have:=hd.few;omega) (Wo.mono (pP gE bm mp ts (dP p mp d::xm ts::qp M::L)) (by have:=hd.few;omega))) ?_;rintro _ _ ⟨ks,a,c,hks,rfl,rfl⟩;rw[jf,hlen];refine xk a (λM' hl hs hc=> ?_);refine Q.r ?_;refine N.t rfl ?_ ⟨a,c,M',rfl,?_,hc,hl,rfl⟩
 ·exact qi.trans (M:=dP p mp d::dM mp ts::xm ts::qp M'::L) eG (vD hd)
 ·unfold qM
  rw[←jBL (hnm▸hks)];exact hs
abbrev FE :=List UInt8×List UInt8×Nat
def ZP (kf:List UInt8→Nat)(done:List (List UInt8))(u:FE):FE:=if u.1∈done then (u.1,u.2.1.take (u.2.2+kf u.1),u.2.2+kf u.1) else u
def ZD (d:DK)(kf:List UInt8→Nat)(done:List (List UInt8)):DK:={d with fs:=d.fs.map (ZP kf done)}
def crD (d:DK)(kf:List UInt8→Nat):DK:={d with left:= -1,down:=false,fs:=d.fs.map λu=>(u.1,u.2.1.take (u.2.2+kf u.1),u.2.2+kf u.1)}
def XC (kf:List UInt8→Nat)(n:List UInt8)(k:Nat):List UInt8→Nat:=λx=>if x=n then k else kf x
theorem YR {α:Type}{l:List α}(h:l.Nodup){i j:Nat}{x:α}(hi:l[i]? =some x)(hj:l[j]? =some x):i=j:=by
 obtain ⟨h1,h2⟩:=jm.1 hi;obtain ⟨h3,h4⟩:=jm.1 hj
 rcases Nat.lt_trichotomy i j with hlt|rfl|hlt
 ·exact absurd (h2.trans h4.symm) (List.pairwise_iff_getElem.1 h i j h1 h3 hlt)
 ·rfl
 ·exact absurd (h4.trans h2.symm) (List.pairwise_iff_getElem.1 h j i h3 h1 hlt)
theorem jC1 {fs:List FE}(hk:qm fs){kf:List UInt8→Nat}{done:List (List UInt8)}{i:Nat}{n bs:List UInt8}{firm k0:Nat}(hi:fs[i]? =some (n,bs,firm))(hn:n∉done):
  fs.map (ZP (XC kf n k0) (done++[n]))=(fs.map (ZP kf done)).set i (n,bs.take (firm+k0),firm+k0):=by
 apply List.ext_getElem?;intro j;rw[jZ,List.getElem?_set,jZ,jf]
 by_cases hj:i=j
 ·subst hj
  rw[jb rfl,jb (jm.1 hi).1,hi,Option.map_some];unfold ZP XC;rw[jb (by simp)]
  simp
 ·rw[ja hj]
  cases hu:fs[j]? with
  |none=>rfl
  |some u=>
   have hne:u.1≠n:=λh=>by
    exact hj (YR hk (x:=n) (by rw[jZ,hi];rfl) (by rw[jZ,hu,←h];rfl))
   rw[Option.map_some,Option.map_some];unfold ZP XC
   by_cases hd:u.1∈done
   ·rw[jb (List.mem_append_left _ hd),jb hd,ja hne]
   ·rw[ja (by simp[hd,hne]),ja hd]
theorem p9 (p:Nat)(d:DK)(ak:OA)(ck:Nat)(ks:List Int)(M:OM)(L:HL)(h:qI M ak ks.length 1 (ks.map I64))(hkl:ks.length≤1000000):
  qh kY 22 [qK p,.slice ak ks.length ck] (qt p d::qp M::L) (λr L'=>∃kf M',r=.tuple #[]∧qV M M'∧(∀u∈d.fs,u.2.2+kf u.1≤u.2.1.length)∧(ks=[]→∀n,kf n=0)∧L'=qt p (crD d kf)::qp M'::L):=by
 refine wm λmp0 ts0 hd0=>qh.ent (vD hd0) ?_
 have hfirm:∀u∈d.fs,u.2.2≤u.2.1.length:=by
  intro u hu;rw[←hd0.fs] at hu;obtain ⟨v,hv,rfl⟩:=jM.1 hu;exact hd0.firm v hv
 have hkey:qm d.fs:=Qm hd0.fs hd0.key;have hfew:d.fs.length≤16:=by rw[←hd0.fs,jf];exact hd0.few
 have hused:qT d.fs≤1048576:=by have h1:=hd0.used;have h2:=hd0.rm;omega
 clear hd0;refine qg Tryz.func22 rfl rfl rfl ?_;refine Q.r ?_;refine S.ckm p rfl (Jo p d M _) ?_;rintro _ _ ⟨a,c,M1,rfl,hs,hc,hl1,rfl⟩;refine Q.r ?_;have hnl:(qM d).length=d.fs.length:=by unfold qM;rw[J7,jf]
 have hs1:qI M1 a d.fs.length 1 ((qM d).flatMap sC):=by rw[Wi];exact hs
 have h1:qI M1 ak ks.length 1 (ks.map I64):=h.mono hl1;refine qw (σ:=List UInt8→Nat) (λ_=> [(0,qK p)]) (λkf=>qt p (ZD d kf (qM d))::qp M1::L) (λkf=>(∀u∈d.fs,u.2.2+kf u.1≤u.2.1.length)∧(ks=[]→∀n,kf n=0)) ?_ ?_
 ·refine ql (σ:=Nat×(List UInt8→Nat)) (λs=> [(0,qK p),(1,.slice ak ks.length ck),(11,.slice a d.fs.length c),(12,.int .i64 d.fs.length),(13,.int .i64 s.1)]) (λs=>qt p (ZD d s.2 ((qM d).take s.1))::qp M1::L)
   (λs=>s.1≤d.fs.length∧(∀u∈d.fs,u.2.2+s.2 u.1≤u.2.1.length)∧(ks=[]→∀n,s.2 n=0)) (λs=>d.fs.length - s.1) (0,λ_=>0) zt ?_ ?_ ?_
  ·rw[show ZD d (λ_=>0) ((qM d).take 0)=d from by unfold ZD;rw[show d.fs.map (ZP (λ_=>0) ((qM d).take 0))=d.fs from List.map_id'' (λu=>by unfold ZP;rw[ja (by simp)]) _]]
   exact kZ _
  ·exact ⟨by show 0≤_;omega,λu hu=>hfirm u hu,λ_ _=>rfl⟩
  rintro ⟨k,kf⟩ ⟨hk,hkf,hk0⟩;dsimp only at hk hkf hk0
  by_cases hlt:k<d.fs.length
  ·obtain ⟨n,hnk⟩:=qx (hnl▸hlt:k<(qM d).length)
   obtain ⟨b,o,rfl,hr⟩:=qI.cm (g:=sC) (λ_=>rfl) hs1 hnk hnl.symm;have hmem:n∈d.fs.map (·.1):=(yY _).mem_iff.1 (jn hnk);have hnd:(qM d).Nodup:=(yY _).nodup_iff.2 hkey;have hnt:n∉(qM d).take k:=λh=>by
    obtain ⟨j,hj⟩:=List.getElem?_of_mem h;rw[List.getElem?_take] at hj
    split at hj
    ·have:=YR hnd hj hnk;omega
    ·cases hj
   obtain ⟨⟨n',bs,firm⟩,hu,hn'⟩:=jM.1 hmem;dsimp only at hn';subst hn';obtain ⟨i,hi⟩:=List.getElem?_of_mem hu;have hfi:=hfirm _ hu;have hsz:bs.length≤qT d.fs:=QN (jA (f:=λu:FE=>u.2.1.length) hu);dsimp only at hfi;refine Yq p λmp ts hd=> ?_
   dsimp only at hd;have hi2:(ts.map DE.abs)[i]? =some (n',bs,firm):=by
    rw[hd.fs]
    show (d.fs.map _)[i]? =_
    rw[jZ,hi,Option.map_some];unfold ZP;rw[ja hnt]
   rw[jZ] at hi2;obtain ⟨⟨n2,ub,ua,uc,ubs,ufirm⟩,hti,hab⟩:=Option.map_eq_some_iff.1 hi2;obtain ⟨rfl,rfl,rfl⟩:n2=n'∧ubs=bs∧ufirm=firm:=by
    have:=hab;simp only[DE.abs,js] at this;exact this
   have hz:qE (α:=Nat×FV) ts n2=some (ub,⟨ua,uc,ubs,ufirm⟩):=(vp hd.key).2 (jn hti);refine Q.r ?_;refine S.y (Y.lk false rfl rfl (λw=>Tryz.zeroValue124 w)) ?_;rw[hz];dsimp only
   repeat (first|(refine GQ.y ?_;refine Q.y ?_)|(refine GQ.a ?_;refine Q.al (λb1=> ?_))|(refine GQ.s ?_;refine Q.st ?_)|(refine GQ.g ?_;refine Q.gq ?_))
   refine qQ ?_;refine N.tn ?_;refine wE ?_;refine Vt ?_;(repeat (first|(refine GQ.y ?_;refine Q.y ?_)|(refine GQ.a ?_;refine Q.al (λb1=> ?_))|(refine GQ.s ?_;refine Q.st ?_)|(refine GQ.g ?_;refine Q.gq ?_)));refine qQ ?_;first|refine N.tn ?_|skip
   refine wE ?_;refine vh (L':=dP p mp (ZD d kf ((qM d).take k))::dM mp ts::xm ts::qp M1::L) eG ?_;refine vo (σ:=Nat) (λk0=> [(0,qK p),(1,.slice ak ks.length ck),(11,.slice (some ⟨b,o,none⟩) d.fs.length c),(12,.int .i64 d.fs.length),(13,.int .i64 k),(6,gE (ub,(⟨ua,uc,ubs,ufirm⟩:FV))),(7,.int .i64 k0)])
    (λ_=>dP p mp (ZD d kf ((qM d).take k))::dM mp ts::xm ts::qp M1::L) (λk0=>ufirm+k0≤ubs.length∧(ks=[]→k0=0)) ?_ ?_
   ·by_cases hkk:k<ks.length
    ·obtain ⟨x,hx⟩:=qx hkk
     obtain ⟨b2,o2,rfl,hr2⟩:=qI.cm1 (g:=I64) h1 hx rfl
     by_cases hx0:0<x
     ·refine Q.r ?_
      refine Vu hti ?_;refine Q.dgo [true,false,false,true,true,true] [] [] [0,1,2,3,4,5,6,7,8,9,10,11,12,13,14,15,16] ?_;refine Q.rd ?_;refine D.yp rfl rfl rfl (Y.subN (a:=ubs.length) (b:=ufirm) rfl rfl ⟨hfi,by omega⟩) ?_;refine Q.rd ?_;obtain ⟨k0,hke⟩:∃k0:Nat,x.tmod (((ubs.length - ufirm:Nat):Int)+1)=(k0:Int):=Int.eq_ofNat_of_zero_le (Int.tmod_nonneg _ zo);have hkl0:=Int.tmod_lt_of_pos x (b:=((ubs.length - ufirm:Nat):Int)+1) zo;refine D.yp rfl rfl rfl (Y.rem rfl rfl zo) ?_;rw[hke];refine Q.rd ?_;refine Q.r ?_;exact ⟨k0,zt,qi.trans (M:=yJ (ub,(⟨ua,uc,ubs,ufirm⟩:FV))::xg (ub,(⟨ua,uc,ubs,ufirm⟩:FV))::xm (ts.eraseIdx i)::dP p mp (ZD d kf ((qM d).take k))::dM mp ts::qp M1::L) eG (qi.trans (Ya hti) eG),by omega,λh=>by rw[h] at hkk;exact absurd hkk (by simp)⟩
     ·refine Q.r ?_
      exact ⟨0,zt,kZ _,by omega,λ_=>rfl⟩
    ·refine Q.r ?_
     exact ⟨0,zt,kZ _,by omega,λ_=>rfl⟩
   rintro k0 ⟨hk1,hk2⟩;refine Vu hti ?_;refine Q.r ?_;refine db ua (λ_ _ hcap=> ?_);dsimp only at hcap;refine vh (L':=yJ (ub,(⟨ua,uc,ubs,ufirm⟩:FV))::xg (ub,(⟨ua,uc,ubs,ufirm⟩:FV))::xm (ts.eraseIdx i)::dP p mp (ZD d kf ((qM d).take k))::dM mp ts::qp M1::L) eG ?_;refine Q.dgo [true,false,false,false,false,false] [14] [14] [0,1,2,3,4,5,6,7,8,9,10,11,12,13,14] ?_;refine Q.rd2 ?_;refine D.yp rfl rfl rfl (Y.addN (a:=ufirm) (b:=k0) rfl rfl zo) ?_;refine D.yp rfl rfl rfl (Y.slT (h:=ufirm+k0) (c:=uc) rfl rfl rfl zo) ?_;refine Q.rd2 ?_;refine Q.dc rfl rfl rfl rfl ?_;refine Q.r ?_;refine Q.rd2 ?_;refine Q.r ?_;have hkf2:(ZD d kf ((qM d).take k)).fs[i]? =some (n2,ubs,ufirm):=by
    show (d.fs.map _)[i]? =_
    rw[jZ,hi,Option.map_some];unfold ZP;rw[ja hnt]
   have hl2:(ubs.take (ufirm+k0)).length=ufirm+k0:=by rw[jP];omega
   have hfs2:(ZD d (XC kf n2 k0) ((qM d).take (k+1))).fs=(ZD d kf ((qM d).take k)).fs.set i (n2,ubs.take (ufirm+k0),ufirm+k0):=by
    show d.fs.map _=(d.fs.map _).set _ _
    rw[qA hnk,jC1 hkey hi hnt]
   have hd2 : W5 (ZD d (XC kf n2 k0) ((qM d).take (k + 1))) (ts.set i (n2,ub,⟨ua,uc,ubs.take (ufirm + k0),ufirm + k0⟩)) := hd.set hti _ rfl rfl hfs2 (by
    have h1:=hd.used;have h2:qT (ZD d (XC kf n2 k0) ((qM d).take (k+1))).fs≤qT (ZD d kf ((qM d).take k)).fs:=by
     rw[hfs2];exact f4 hkf2 (by simp;omega)
    have h3 : (ZD d (XC kf n2 k0) ((qM d).take (k + 1))).room = (ZD d kf ((qM d).take k)).room := rfl;omega) (by
    show ufirm+k0≤(ubs.take (ufirm+k0)).length
    omega)
   refine ⟨(k+1,XC kf n2 k0),zt,?_,⟨by show k+1≤_;omega,λu hu2=> ?_,λh n=> ?_⟩,by show _ - (k+1)<_ - k;omega⟩
   ·refine qi.trans (M:=slO 5 1 ua ubs.length uc (ubs.map B)::pt ub (cl [.slice ua (ufirm+k0) uc,.int .i64 (ufirm+k0:Nat)] 126)::xm (ts.eraseIdx i)::dP p mp (ZD d kf ((qM d).take k))::dM mp ts::qp M1::L) eG ?_
    refine qi.trans (Yu rfl hk1) ?_;refine qi.trans (M:=yJ (ub,(⟨ua,uc,ubs.take (ufirm+k0),ufirm+k0⟩:FV))::xg (ub,(⟨ua,uc,ubs.take (ufirm+k0),ufirm+k0⟩:FV))::xm (ts.eraseIdx i)::dP p mp (ZD d kf ((qM d).take k))::dM mp ts::qp M1::L) ?_ (Qs hti hd2)
    show qi _ (pt ub (cl [.slice ua (ubs.take (ufirm+k0)).length uc,.int .i64 ((ufirm+k0:Nat):Int)] 126)::slO 5 1 ua (ubs.take (ufirm+k0)).length uc ((ubs.take (ufirm+k0)).map B)::xm (ts.eraseIdx i)::dP p mp (ZD d kf ((qM d).take k))::dM mp ts::qp M1::L)
    rw[hl2];exact eG
   ·show u.2.2+XC kf n2 k0 u.1≤_
    unfold XC
    split
    ·next he=>
     obtain ⟨j,hj⟩:=List.getElem?_of_mem hu2;have hij:i=j:=YR hkey (x:=n2) (by rw[jZ,hi];rfl) (by rw[jZ,hj,←he];rfl);subst hij;rw[hi] at hj;obtain rfl:=Option.some.inj hj;exact hk1
    ·exact hkf u hu2
   ·show XC kf n2 k0 n=0
    unfold XC
    split
    ·exact hk2 h
    ·exact hk0 h n
  ·have hke:k=d.fs.length:=by omega
   subst hke;refine Q.r ?_;exact ⟨kf,zt,by rw[show (qM d).take d.fs.length=qM d from by rw[←hnl,jI]];exact kZ _,hkf,hk0⟩
 ·intro kf hkf
  refine Yq p λmp ts hd=> ?_
  refine Q.r ?_;obtain ⟨hkf1,hkf2⟩:=hkf;have hnm:∀u∈d.fs,u.1∈qM d:=λu hu=>(yY _).mem_iff.2 (jA hu)
  have he:crD d kf={ZD d kf (qM d) with left:= -1,down:=false}:=by
   unfold crD ZD
   congr 1
   exact List.map_congr_left λu hu=>by unfold ZP;rw[jb (hnm u hu)]
  refine N.n0 RV.nil ?_ ⟨kf,M1,rfl,hl1,hkf1,hkf2,rfl⟩;rw[he];refine qi.trans (M:=dP p mp {ZD d kf (qM d) with left:= -1,down:=false}::dM mp ts::xm ts::qp M1::L) eG (vD ⟨hd.fs,hd.key,⟨by show (-1:Int)≤ -1;omega,by show (-1:Int)≤1000000;omega⟩,hd.rm,hd.used,hd.few,hd.firm⟩)
attribute [local irreducible] zN
def Vl (bs:List UInt8):List (List UInt8):=if h:bs=[] then [] else bs.take 4096::Vl (bs.drop 4096)
termination_by bs.length
decreasing_by
 have:bs.length≠0:=λe=>h (List.length_eq_zero_iff.1 e)
 rw[jE];omega
theorem KN :Vl []=[]:=by rw[Vl,dif_pos rfl]
theorem Kt {bs:List UInt8}(h:bs≠[]):Vl bs=bs.take 4096::Vl (bs.drop 4096):=by rw[Vl,dif_neg h]
theorem sH (bs:List UInt8):(Vl bs).length≤bs.length:=by
 induction bs using Vl.induct with
 |case1=>rw[KN];exact jz _
 |case2 bs h ih=>
  have:bs.length≠0:=λe=>h (List.length_eq_zero_iff.1 e)
  rw[Kt h,jC];rw[jE] at ih;omega
abbrev CV (M:OM):={v:YB // wq M v∧v.bs.length≤v.c∧v.bs.length≤4096}
abbrev cvV {M:OM}(v:CV M):Value:=v.1.val
theorem mN (M:OM)(a:OA)(c:Nat)(bs:List UInt8)(b2 b3:Nat)(A:HL)(h:qI M a bs.length 1 (bs.map B))(hc:bs.length≤c)(hl:bs.length≤1048575):
  Wo kY 220 [qK b2,qK b3] (cvV (M:=M)) 1048576 (λks=>ks.map (λv=>v.1.bs)=Vl bs) (pt b2 (cl [.slice a bs.length c] 34)::pt b3 (cl [.int .i64 4096] 3)::A) A:=by
 intro l J hJ;refine qg Tryz.func220 rfl rfl rfl ?_;refine Q.r ?_;refine ql (σ:=List (CV M)) (λks=> [(0,.func (.yield l) #[] #[]),(1,qK b2),(2,qK b3),(4,.int .i64 (4096*ks.length:Nat))])
  (λks=>J ks::pt b2 (cl [.slice a bs.length c] 34)::pt b3 (cl [.int .i64 4096] 3)::A) (λks=>ks.map (λv=>v.1.bs)++Vl (bs.drop (4096*ks.length))=Vl bs∧4096*ks.length≤bs.length+4095) (λks=>bs.length+4096 - 4096*ks.length) [] zt (kZ _) ⟨rfl,by simp⟩ ?_
 rintro ks ⟨hks,hkl⟩
 by_cases hlt:4096*ks.length<bs.length
 ·obtain ⟨b,o,rfl⟩:∃b o,a=some ⟨b,o,none⟩:=by
   rcases h.2 with h0|⟨b,o,_,_,_,e,_⟩
   ·omega
   ·exact ⟨b,o,e⟩
  obtain ⟨k,hk⟩:∃k,k=4096*ks.length:=⟨_,rfl⟩;rw[←hk] at hlt hks hkl ⊢;obtain ⟨m,hm⟩:∃m,m=min 4096 (bs.length - k):=⟨_,rfl⟩;refine Q.r ?_;refine Q.dgo [false,true,true] [] [] [0,1,2,3,4,5,6] ?_;refine Q.rd ?_;refine D.yp rfl rfl rfl (Y.slF (l:=k) rfl rfl rfl zo) ?_;refine Q.rd ?_;rw[show (min 4096 ((bs.length - k:Nat):Int):Int)=(m:Int) from by omega];refine N.tn ?_;refine wE ?_;refine Jy ?_;refine qy (λ_ h=>by cases h) rfl ?_;refine Q.r ?_;refine qy (λ_ h=>by cases h) rfl ?_;refine Q.r ?_;refine qy (λ_ h=>by cases h) rfl ?_;refine Q.r ?_;refine qy (λ_ h=>by cases h) rfl ?_;refine Q.r ?_;refine qy (λ_ h=>by cases h) rfl ?_;refine Q.r ?_;refine qy (λ_ h=>by cases h) rfl ?_;refine S.y (Y.addN (a:=k) (b:=m) rfl rfl zo) ?_;refine Q.r ?_;refine qy (λ_ h=>by cases h) rfl ?_;refine Q.r ?_;refine qy (λ_ h=>by cases h) rfl ?_;refine Q.r ?_;refine qy (λ_ h=>by cases h) rfl ?_;refine S.y (Y.addN (a:=k) (b:=m) rfl rfl zo) ?_;refine Q.r ?_;refine qy (λ_ h=>by cases h) rfl ?_;refine S.y (Y.sl3 (l:=k) (h:=k+m) (mm:=k+m) rfl rfl rfl rfl rfl rfl rfl zo zo zo) ?_;rw[ja (show ¬k+m=k from by omega),show k+m - k=m from by omega,show Option.map (λz:Addr=>z.add (k*1)) (some ⟨b,o,none⟩)=some ⟨b,o+k*1,none⟩ from by simp[Addr.add]];refine Q.r ?_;have hpl:((bs.drop k).take m).length=m:=by rw[jP,jE];omega
  have hok:wq M ⟨some ⟨b,o+k*1,none⟩,m,(bs.drop k).take m⟩:=by
   have:=wq.cut (k:=m) h hc k zo;rw[ja zo] at this;exact this
  obtain ⟨x,hx⟩:∃x:CV M,x.1=⟨some ⟨b,o+k*1,none⟩,m,(bs.drop k).take m⟩:=⟨⟨⟨some ⟨b,o+k*1,none⟩,m,(bs.drop k).take m⟩,hok,Nat.le_of_eq hpl,by dsimp only;rw[hpl];omega⟩,rfl⟩;have hxv:Value.slice (some ⟨b,o+k*1,none⟩) m m=cvV x:=by show _=YB.val x.1;rw[hx];show _=Value.slice _ (List.length _) _;rw[hpl]
  rw[hxv];refine Je (L':=J ks::pt b2 (cl [.slice (some ⟨b,o,none⟩) bs.length c] 34)::pt b3 (cl [.int .i64 4096] 3)::A) eG ?_;refine KH rfl rfl ((hJ ks x zo).frame (R:=_)) ?_;refine qy (λ_ h=>by cases h) rfl ?_;refine Q.r ?_;refine wW ?_;dsimp only[List.cons_append,List.nil_append];refine Q.r ?_;have hk2:k+4096=4096*(ks++[x]).length:=by simp;omega
  have hne:bs.drop k≠[]:=λh=>by have:=jj List.length h;rw[jE] at this;simp at this;omega
  have htk:(bs.drop k).take m=(bs.drop k).take 4096:=by
   rw[hm]
   by_cases h4:4096≤bs.length - k
   ·rw[Nat.min_eq_left h4]
   ·rw[Nat.min_eq_right zo,kK (by rw[jE];exact jz _),kK (by rw[jE];omega)]
  refine ⟨ks++[x],⟨rfl,rfl,rfl,jj some (jj (Value.int .i64) (by rw[←hk2];rfl)),trivial⟩,kZ _,⟨?_,by omega⟩,by omega⟩;rw[←hk2,jq,ju,←hks,Kt hne,List.drop_drop]
  show _++(x.1.bs::_)=_
  rw[hx];dsimp only;rw[htk];rfl
 ·have e:bs.drop (4096*ks.length)=[]:=List.drop_eq_nil_of_le zo
  rw[e,KN,jG] at hks;refine Q.r ?_;exact N.n0 RV.nil eG ⟨ks,hks,rfl⟩
end Go.Proofs.YtlnfjhiphlfkjaaGreatDoor
namespace Go.Proofs.YtlnfjhiphlfkjaaGreatDoor
open Go Go.SX
attribute [local irreducible] swp qq qL qJ vZ qh St qi qk vu qH
def okU (n i m:Nat):Bool:= !decide (m=0)&& !(decide (m<4096)&&decide (i+2<n))
def unL (l:List (List UInt8))(m:Nat):Option (List UInt8):=
 if vI l=m∧l≠[]∧(l.getD (l.length - 1) []).length=0∧∀i,i<l.length - 1→okU l.length i (l.getD i []).length=true then some (l.take (l.length - 1)).flatten else none
theorem cT {l:List (List UInt8)}{m:Nat}(h:¬(vI l=m∧l≠[]∧(l.getD (l.length - 1) []).length=0∧∀i,i<l.length - 1→okU l.length i (l.getD i []).length=true)):unL l m=none:=ja h
def unP (p:List UInt8):Option (List UInt8):=unL (QC p) p.length
theorem gV {vs:List YB}{k:Nat}{v:YB}(h:vs[k]? =some v):(vs.map YB.bs).getD k []=v.bs:=by
 rw[j8,jZ,h];rfl
def stR (M:OM)(L0:HL)(o:Option (List UInt8))(r:Value)(L':HL):Prop:=∃v M',r=.tuple #[YB.val v,.bool o.isSome]∧v.bs=o.getD []∧wq M' v∧v.bs.length≤v.c∧qV M M'∧L'=qp M'::L0
theorem JV.rdS {M:OM}{vs:List YB}(h:JV M vs){v:YB}(hv:v∈vs){L:HL}[xq M L]:rQ L v:=(h v hv).1.rd
set_option maxRecDepth 100000 in
theorem f6 (a:OA)(c:Nat)(bs:List UInt8)(M:OM)(L0:HL)(h:qI M a bs.length 1 (bs.map B))(hT:xL M)(hc:bs.length≤c)(hb:bs.length≤100000000000):
  qh kY 74 [.slice a bs.length c] (qp M::L0) (stR M L0 (unP bs)):=by
 refine qg Tryz.func74 rfl rfl rfl ?_;refine Q.r ?_;refine S.cr rfl (jAQ a c bs M L0 h hT hc hb) ?_;rintro _ _ ⟨a1,c1,rfl,vs,M1,hvs,hok,hl1,rfl⟩;unfold unP;rw[←hvs] at*;have hge:=Yb (vs.map YB.bs);rw[jf] at hge ⊢;refine xk a1 (λM2 hl2 hs hc1=> ?_);have hno:∀M',qV M1 M'→unL (vs.map YB.bs) bs.length=none→stR M L0 (unL (vs.map YB.bs) bs.length) (.tuple #[.slice none 0 0,.bool false]) (qp M'::L0):=λM' hl hq=>
  ⟨⟨none,0,[]⟩,M',by rw[hq];rfl,by rw[hq];rfl,qI.nil,jz _,hl1.trans hl,rfl⟩
 by_cases k1:vI (vs.map YB.bs)=bs.length
 ·by_cases k2:vs.length=0
  ·have e0:vs=[]:=jO k2
   refine Q.r ?_;exact N.u rfl rfl (kZ _) (hno M2 hl2 (cT (by rintro ⟨_,h,_⟩;exact h (by rw[e0];rfl))))
  ·obtain ⟨z,hz⟩:=qx (show vs.length - 1<vs.length by omega)
   have hgz:=gV hz;obtain ⟨b,o,rfl,hr⟩:=qY.elem (g:=YB.cells) (L:=qp M2::L0) (λ_=>rfl) hs.rd hz rfl;refine Q.r ?_;refine S.y (Y.ia (k:=vs.length - 1) rfl rfl zo zo) ?_;refine Q.r ?_
   by_cases k3:z.bs.length=0
   ·refine Q.r ?_
    refine S.y (Y.slT (h:=vs.length - 1) rfl rfl zo zo) ?_;refine Q.r ?_;have hok2:=(hok.mono hl2);have hcl:∀k,(qX (vs.take k)).length≤bs.length:=λk=>by
     have e1:∀l:List YB,(qX l).length≤vI (l.map YB.bs):=λl=>by
      induction l with
      |nil=>exact jz _
      |cons x l ih=>
       show (x.bs++qX l).length≤6+x.bs.length+vI (l.map YB.bs)
       rw[jc];omega
     have e2:=e1 vs;have e3:(qX (vs.take k)).length≤(qX vs).length:=by
      conv=>rhs;rw[←kJ k vs]
      unfold qX;rw[kS,jc];omega
     omega
    refine qw (σ:=OA×Nat) (λs=> [(6,.slice s.1 (qX (vs.take (vs.length - 1))).length s.2)]) (λs=>slO 5 1 s.1 (qX (vs.take (vs.length - 1))).length s.2 ((qX (vs.take (vs.length - 1))).map B)::qp M2::L0)
     (λ_=>∀i,i<vs.length - 1→okU vs.length i ((vs.map YB.bs).getD i []).length=true) ?_ ?_
    ·refine ql (σ:=Nat×OA×Nat) (λs=> [(4,.slice (some ⟨b,o,none⟩) vs.length c1),(37,.slice (some ⟨b,o,none⟩) (vs.length - 1) c1),(38,.int .i64 ((vs.length - 1:Nat):Int)),(6,.slice s.2.1 (qX (vs.take s.1)).length s.2.2),(39,.int .i64 s.1)])
      (λs=>slO 5 1 s.2.1 (qX (vs.take s.1)).length s.2.2 ((qX (vs.take s.1)).map B)::qp M2::L0)
      (λs=>s.1≤vs.length - 1∧∀i,i<s.1→okU vs.length i ((vs.map YB.bs).getD i []).length=true) (λs=>vs.length - 1 - s.1) (0,none,0) zt vj ⟨jw _,λi hi=>by omega⟩ ?_
     rintro ⟨k,a6,c6⟩ ⟨hk,hall⟩;dsimp only at hk hall ⊢;have hck:=hcl k
     by_cases hlt:k<vs.length - 1
     ·obtain ⟨v,hv⟩:=qx (show k<vs.length by omega)
      have hgv:=gV hv;have hmv:=jn hv;have hck1:=hcl (k+1);have hcs:qX (vs.take (k+1))=qX (vs.take k)++v.bs:=by rw[qA hv];unfold qX;rw[kS];simp
      rw[hcs,jc] at hck1;obtain ⟨b',o',he,hr2⟩:=qY.elem (g:=YB.cells) (L:=slO 5 1 a6 (qX (vs.take k)).length c6 ((qX (vs.take k)).map B)::qp M2::L0) (λ_=>rfl) hs.rd hv rfl
      cases he
      have hbad:okU vs.length k v.bs.length=false→unL (vs.map YB.bs) bs.length=none:=λhq=>cT λh=>by
       have:=h.2.2.2 k (by rw[jf];exact hlt);rw[jf,hgv,hq] at this
       cases this
      by_cases q1:v.bs.length=0
      ·refine Q.r ?_
       exact N.u rfl rfl (qi.drop (kZ _)) (hno M2 hl2 (hbad (by unfold okU;rw[jo q1];rfl)))
      by_cases q2:v.bs.length<4096
      ·by_cases q3:k+2<vs.length
       ·refine Q.r ?_
        exact N.u rfl rfl (qi.drop (kZ _)) (hno M2 hl2 (hbad (by unfold okU;rw[jo q2,jo q3];simp)))
       ·refine Q.r ?_
        refine S.app rfl rfl (vG.rd ((JV.rdS hok2 hmv)) (JR _)) zr zo zo (λa7 c7=> ?_);refine Q.r ?_;refine ⟨(k+1,a7,c7),⟨rfl,rfl,rfl,by rw[hcs];exact jj some (by simp),rfl,trivial⟩,by dsimp only;rw[hcs,jc,jq];exact kZ _,⟨by dsimp only;omega,λi hi=> ?_⟩,by dsimp only;omega⟩
        by_cases hik:i=k
        ·subst hik
         rw[hgv];unfold okU;rw[jv q1,jv q3];simp
        ·exact hall i (by dsimp only at hi;omega)
      ·refine Q.r ?_
       refine S.app rfl rfl (vG.rd ((JV.rdS hok2 hmv)) (JR _)) zr zo zo (λa7 c7=> ?_);refine Q.r ?_;refine ⟨(k+1,a7,c7),⟨rfl,rfl,rfl,by rw[hcs];exact jj some (by simp),rfl,trivial⟩,by dsimp only;rw[hcs,jc,jq];exact kZ _,⟨by dsimp only;omega,λi hi=> ?_⟩,by dsimp only;omega⟩
       by_cases hik:i=k
       ·subst hik
        rw[hgv];unfold okU;rw[jv q1,jv q2];simp
       ·exact hall i (by dsimp only at hi;omega)
     ·have hke:k=vs.length - 1:=by omega
      subst hke;refine Q.r ?_;exact ⟨(a6,c6),zt,kZ _,hall⟩
    ·rintro ⟨a6,c6⟩ hall
     dsimp only at hall ⊢;refine vh X4 (K8 λhc6=> ?_);refine wF a6 (λM3 hl3 hs3=> ?_);refine Q.r ?_;have hq:unL (vs.map YB.bs) bs.length=some (qX (vs.take (vs.length - 1))):=by
      unfold unL;rw[jb ⟨k1,by intro h;exact k2 (by rw[←jf (f:=YB.bs),h];rfl),by rw[jf,hgz];exact k3,by rw[jf];exact hall⟩,jf,←List.map_take,←List.flatMap_def]
     exact N.u rfl rfl (kZ _) ⟨⟨a6,c6,qX (vs.take (vs.length - 1))⟩,M3,by rw[hq];rfl,by rw[hq];rfl,hs3,hc6,hl1.trans (hl2.trans hl3),rfl⟩
   ·refine Q.r ?_
    exact N.u rfl rfl (kZ _) (hno M2 hl2 (cT λh=>k3 (by have:=h.2.2.1;rwa [jf,hgz] at this)))
 ·refine Q.r ?_
  exact N.u rfl rfl (kZ _) (hno M2 hl2 (cT λh=>k1 h.1))
attribute [local irreducible] zN
theorem rb (a:OA)(c m:Nat)(L:HL):qh kY 182 [.slice a m c,.int .i64 4096] L
  (λv L'=>∃b2 b3,v=.func (.func 220) #[] [qK b2,qK b3].toArray∧L'=pt b2 (cl [.slice a m c] 34)::pt b3 (cl [.int .i64 4096] 3)::L):=by
 refine qg Tryz.func182 rfl rfl rfl ?_;refine Q.r ?_;(repeat (intro b1;refine Q.r ?_));refine S.y (Y.mf rfl rfl) ?_;refine Q.r ?_;rename_i b2;exact N.t rfl eG ⟨b2,b1,rfl,rfl⟩
def Qf (bs:List UInt8):List (List UInt8):=(Vl bs).map frB++[frB []]
structure PX where
 vs:List YB
 a:OA
 c:Nat
 M:OM
abbrev pkL (rec:Loop)(l D t3:Nat)(x:PX):HL:=[pt l (.loop rec),pt D (.deferred (some [])),pt t3 (cl [.slice x.a x.vs.length x.c] 73),slO 34 1 x.a x.vs.length x.c (x.vs.flatMap YB.cells),qp x.M]
def tO {M:OM}(pre:List (CV M))(x:PX):Prop:=x.vs.map YB.bs=pre.map (λv=>frB v.1.bs)∧JV x.M x.vs∧qV M x.M
def pkJ {M:OM}(rec:Loop)(l D t3:Nat)(pre:List (CV M)):HP:=d9 λx:PX=>yA (wT (tO pre x)::pkL rec l D t3 x)
theorem gH {M:OM}{rec:Loop}{l D t3:Nat}{pre:List (CV M)}{x:PX}(h:tO pre x){L:HL}:qi (pkL rec l D t3 x++L) (pkJ rec l D t3 pre::L):=
 qi.trans (qi.shut_pure h) (qi.trans (qi.shut_all (L:=_::pkL rec l D t3 x)) (qi.shut_ex (P:=λx:PX=>yA (wT (tO pre x)::pkL rec l D t3 x)) x))
theorem gI {M:OM}{rec:Loop}{l D t3:Nat}{pre:List (CV M)}{w:World}{L:HL}(H:St w (pkJ rec l D t3 pre::L)):∃x,tO pre x∧St w (pkL rec l D t3 x++L):=by
 obtain ⟨x,H⟩:=St.open_ex H;have H2:=St.ent (qi.open_all (L:=_::pkL rec l D t3 x)) H;obtain ⟨h,H3⟩:=St.open_pure H2;exact ⟨x,h,H3⟩
structure jDA (M:OM)(l t3:Nat)(l1 l2:List Oper):Prop where
 ok1:wA 30 l1=true
 ok2:wA 30 l2=true
 b1:∀(v:CV M) (M1:OM),qV M M1→zN kY 30 (some l) l1 l1 (qL (λf L=>∃(u:YB) (M2:OM),f 3=some (qK t3)∧f 5=some u.val∧u.bs=frB v.1.bs∧wq M2 u∧u.bs.length≤u.c∧qV M1 M2∧L=[qp M2]) (λ_ _ _=>False)) (v7 [(3,qK t3),(4,cvV v)]) [qp M1]
 b2:∀(u:YB) (a:OA) (c k:Nat) (cs:List Value),k<1048576→zN kY 30 (some l) l2 l2 (qL (λf L=>∃a' c',L=[pt t3 (cl [.slice a' (k+1) c'] 73),slO 34 1 a' (k+1) c' (cs++u.cells)]) (λ_ _ _=>False)) (v7 [(3,qK t3),(5,u.val)]) [pt t3 (cl [.slice a k c] 73),slO 34 1 a k c cs]
theorem St.rot4 {w:World}{A B C D E:HP}{F:HL}(H:St w (A::B::C::D::E::F)):St w ([E]++(A::B::C::D::F)):=St.perm (by simpa using (List.perm_append_comm (l₁:=[A,B,C,D]) (l₂:=[E])).append_right F) H
theorem St.rot5 {w:World}{A B C D E:HP}{F:HL}(H:St w ([E]++(A::B::C::D::F))):St w ([C,D]++(A::B::E::F)):=St.perm (by
 have h1:List.Perm ([E,A,B]++[C,D]) ([C,D]++[E,A,B]):=List.perm_append_comm;have h2:List.Perm ([C,D]++[E,A,B]) ([C,D]++[A,B,E]):=(List.perm_append_comm (l₁:=[E]) (l₂:=[A,B])).append_left [C,D]
 simpa using (h1.trans h2).append_right F) H
theorem jD6 {M:OM}{fn:FuncId}{tm:Array Value}{l D t3:Nat}{pre:List (CV M)}{x:CV M}{assign body:Code}(htm:tm.size=30)(h3:tm[3]? =some (qK t3))(hN:pre.length<1048576)
  (ha:assign=.region 3 ([⟨some 4,.assign (.tmp 11),34, "journal.go:46",#[],none⟩]:List Oper).toArray false)
  (hb:∃l1 l2 id1 id2,body=.block 1 (.seq (.region id1 (l1:List Oper).toArray false) (.region id2 (l2:List Oper).toArray false))∧jDA M l t3 l1 l2):
  QD kY l (cvV x) [pkJ (vB fn tm #[11] assign body D .ready none) l D t3 pre] [pkJ (vB fn tm #[11] assign body D .ready none) l D t3 (pre++[x])]:=by
 intro F w t;obtain ⟨y,⟨hy1,hy2,hy3⟩,t⟩:=gI (L:=F) (by simpa using t);have hl:=St.pt_read t;obtain ⟨l1,l2,id1,id2,hbd,hB⟩:=hb;have hyl:y.vs.length<1048576:=by
  have:=jj List.length hy1;rw[jf,jf] at this;omega
 refine ⟨fn,tm.setIfInBounds 11 (cvV x),_,_,by simpa[vB] using run_yield (P:=kY) (args:= #[cvV x]) hl rfl,roundIn_of_wpIn trivial ?_⟩;have s0:KO 30 {tmps:=tm.setIfInBounds 11 (cvV x),defers:=[]} (v7 [(3,qK t3),(11,cvV x)]):=by
  refine ⟨rfl,by simp[htm],λi v e=> ?_⟩;simp only[v7,upd,e0] at e
  by_cases h2:i=3
  ·subst h2
   cases e
   rw[Array.getD_eq_getD_getElem?,Array.getElem?_setIfInBounds_ne zo,h3];rfl
  ·by_cases h7:i=11
   ·subst h7
    cases e
    simp[htm]
   ·rw[WR h2,WR h7] at e;cases e
 have hwa:∀Q a w,(Code.region 3 ([⟨some 4,.assign (.tmp 11),34, "journal.go:46",#[],none⟩]:List Oper).toArray false).wpIn (Go.SX.WF (some l)) 0 kY Q a w→assign.wpIn (Go.SX.WF (some l)) 0 kY Q a w:=λQ a w h=>by rw[ha];exact h
 refine hwa _ _ _ (yq (r:=some l) (n:=30) (L:=pkL (vB fn tm #[11] assign body D .ready none) l D t3 y) (F:=F) (K:=λf L=>f 3=some (qK t3)∧f 4=some (cvV x)∧L=pkL (vB fn tm #[11] assign body D .ready none) l D t3 y) ?_ rfl s0 t ?_)
 ·refine qy (λ_ h=>by cases h) rfl ?_
  repeat (first|(refine GQ.y ?_;refine Q.y ?_)|refine Q.go ?_|(refine GQ.g ?_;refine Q.gq ?_)|(refine GQ.s ?_;refine Q.st ?_))
  exact wW (N.tn ⟨rfl,rfl,rfl⟩)
 rintro f L a1 w1 ⟨h2,h5,rfl⟩ s1 t1;refine ⟨_,run_beginRound (St.pt_read t1) rfl,?_⟩;have t2:=St.obj (o':=.loop {(vB fn tm #[11] assign body D .ready none) with state:=.busy}) (L:=[pt D (.deferred (some [])),pt t3 (cl [.slice y.a y.vs.length y.c] 73),slO 34 1 y.a y.vs.length y.c (y.vs.flatMap YB.cells),qp y.M]++F) t1;have t3':=St.rot4 t2;have hwp:∀Q a w,(Code.block 1 (.seq (.region id1 l1.toArray false) (.region id2 l2.toArray false))).wpIn (Go.SX.WF (some l)) 0 kY Q a w→body.wpIn (Go.SX.WF (some l)) 0 kY Q a w:=λQ a w h=>by rw[hbd];exact h
 refine hwp _ _ _ (wpIn_block (wpIn_seq (yq (r:=some l) (n:=30) (F:=_) (hB.b1 x y.M hy3) hB.ok1 (s1.weaken (wt ⟨h2,h5,trivial⟩)) t3' ?_)));rintro f L a2 w2 ⟨u,M2,hu3,hu5,hub,huo,huc,hle,rfl⟩ s2 t4;simp only[Exit.then];have t5:=St.rot5 t4;refine yq (r:=some l) (n:=30) (F:=_) (hB.b2 u y.a y.c y.vs.length (y.vs.flatMap YB.cells) hyl) hB.ok2 (s2.weaken (wt ⟨hu3,hu5,trivial⟩)) t5 ?_;rintro f L a3 w3 ⟨a',c',rfl⟩ s3 t6;have t7:=St.rot2 t6;refine ⟨_,_,run_endRound none (St.pt_read t7),rfl,?_⟩;have t8:=St.obj (o':=.loop (vB fn tm #[11] assign body D .ready none)) t7;have e1:y.vs.length+1=(y.vs++[u]).length:=by simp
 have e2:y.vs.flatMap YB.cells++u.cells=(y.vs++[u]).flatMap YB.cells:=by simp
 rw[e1,e2] at t8;have hok:tO (pre++[x]) (⟨y.vs++[u],a',c',M2⟩:PX):=by
  refine ⟨?_,?_,hy3.trans hle⟩
  ·show (y.vs++[u]).map YB.bs=_
   rw[jq,jq,hy1]
   show _++[u.bs]=_++[frB x.1.bs]
   rw[hub]
  ·intro v hv
   rcases jy.1 hv with hv|hv
   ·exact (hy2.mono hle) v hv
   ·rw[ji.1 hv];exact ⟨huo,huc⟩
 have t9:=St.ent (gH (rec:=vB fn tm #[11] assign body D .ready none) (l:=l) (D:=D) (t3:=t3) (L:=F) hok) t8
 simpa[vB] using t9
theorem tT (a:OA)(c:Nat)(bs:List UInt8)(M:OM)(L0:HL)(h:qI M a bs.length 1 (bs.map B))(hT:xL M)(hc:bs.length≤c)(hl:bs.length≤1048575):
  qh kY 127 [.slice a bs.length c] (qp M::L0) (λr L'=>∃a' c',r=.slice a' (Qf bs).length c'∧jBP M L0 (Qf bs) a' c' L'):=by
 refine qh.mk' λF w t=> ?_
 refine (callsIn_wide (n:=1)).1 (callsIn_of_wp_marks Tryz.func127 rfl trivial ?_);have s0:KO 30 {tmps:= #[.slice a bs.length c]++Array.replicate 29 undef,defers:=[]} (QA [.slice a bs.length c] 0):=by
  refine ⟨rfl,by simp,λi v e=> ?_⟩;obtain ⟨_,h2⟩:=Ku _ 0 i v e;simp only[Nat.sub_zero] at h2;have hi:i<1:=(jm.1 h2).1
  match i,hi,h2 with
  |0,_,h2=>simpa using h2
 refine xB (n:=30) (F:=F) (K:=λf L=>f 0=some (.slice a bs.length c)∧L=qp M::L0) ?_ rfl s0 t ?_
 ·refine Q.r ?_
  exact ⟨rfl,rfl⟩
 rintro f L a0 w0 ⟨h0,rfl⟩ s0' t0;refine xB (n:=30) (F:=F) (K:=λf L=>∃t3,f 0=some (.slice a bs.length c)∧f 3=some (qK t3)∧L=pt t3 (cl [.slice none 0 0] 73)::qp M::L0) (f:=v7 [(0,.slice a bs.length c)]) ?_ rfl (s0'.weaken (wt ⟨h0,trivial⟩)) t0 ?_
 ·refine Q.r ?_;(repeat (intro b1;refine Q.r ?_))
  exact ⟨_,rfl,rfl,rfl⟩
 rintro f L a1 w1 ⟨t3,h1,h3,rfl⟩ s1 t1;refine wpIn_seq ?_;refine xB (n:=30) (F:=F) (K:=λf L=>∃b2 b3,f 3=some (qK t3)∧f 10=some (.func (.func 220) #[] [qK b2,qK b3].toArray)∧L=pt b2 (cl [.slice a bs.length c] 34)::pt b3 (cl [.int .i64 4096] 3)::pt t3 (cl [.slice none 0 0] 73)::qp M::L0) (f:=v7 [(0,.slice a bs.length c),(3,qK t3)]) ?_ rfl (s1.weaken (wt ⟨h1,h3,trivial⟩)) t1 ?_
 ·refine Q.r ?_
  refine S.cr rfl (rb a c bs.length _) ?_;rintro _ _ ⟨b2,b3,rfl,rfl⟩;refine Q.r ?_;exact ⟨b2,b3,rfl,rfl,rfl⟩
 rintro f L a2 w2 ⟨b2,b3,h3,h10,rfl⟩ s2 t2;obtain ⟨tm,htm⟩:∃tm,tm=a2.tmps:=⟨_,rfl⟩;have hsz:tm.size=30:=by rw[htm];exact s2.size
 have h3':tm[3]? =some (qK t3):=by
  have:=s2.at_ 3 _ h3;rw[←htm,Array.getD_eq_getD_getElem?] at this;have hlt:3<tm.size:=by omega
  rw[Array.getElem?_eq_getElem hlt] at this ⊢
  simpa using this
 have hev:a2.eval (.tmp 10)=.func (.func 220) #[] [qK b2,qK b3].toArray:=s2.eval (x:=.tmp 10) h10;refine wpIn_block (K5 hev λfn=> ?_);have t3a:=St.pt_new (w':=w2.alloc (.deferred (some []))) t2 rfl rfl;generalize hr0:({state:=.ready,pending:=none,fn,tmps:=a2.tmps,params:= #[11],assign:=_,body:=_,defers:=w2.heap.size}:Loop)=rec;have t4:=St.pt_new (w':=(w2.alloc (.deferred (some []))).alloc (.loop rec)) t3a rfl rfl;obtain ⟨As,hA⟩:∃A,A=rec.assign:=⟨_,rfl⟩;obtain ⟨Bs,hB⟩:∃B,B=rec.body:=⟨_,rfl⟩;have hrec:rec=vB fn tm #[11] As Bs w2.heap.size .ready none:=by rw[hA,hB,htm,←hr0];rfl
 have hA':As=.region 3 ([⟨some 4,.assign (.tmp 11),34, "journal.go:46",#[],none⟩]:List Oper).toArray false:=by rw[hA,←hr0]
 have hB':∃l1 l2 id1 id2,Bs=.block 1 (.seq (.region id1 (l1:List Oper).toArray false) (.region id2 (l2:List Oper).toArray false))∧jDA M (w2.heap.size+1) t3 l1 l2:=by
  refine ⟨_,_,4,5,by rw[hB,←hr0],rfl,rfl,λv M1 hle=> ?_,λu a c k cs hk=> ?_⟩
  ·refine qy (λ_ h=>by cases h) rfl ?_
   refine Q.r ?_;refine qy (λ_ h=>by cases h) rfl ?_;refine Q.r ?_;(repeat (intro b1;refine Q.r ?_));refine qy (λ_ h=>by cases h) rfl ?_;refine S.cr rfl (Jq (some ⟨b1,0,none⟩) 1 [v.1] M1 _ _ (qY.row1y rfl) (λu hu=>by rw[ji.1 hu];exact (v.2.1.mono hle).rd) (hT.mono hle) (jz _) (by simp) (by simp;have:=v.2.2.2;omega)) ?_;rintro _ _ ⟨u,M2,rfl,hub,huo,huc,hl2,rfl⟩;have hcv:qX [v.1]=v.1.bs:=by simp
   rw[hcv,ja (by have:=v.2.2.2;omega)] at hub;refine Q.r ?_;refine qy (λ_ h=>by cases h) rfl ?_;refine Q.r ?_;refine qy (λ_ h=>by cases h) rfl ?_;refine Q.r ?_;refine qy (λ_ h=>by cases h) rfl ?_;refine Q.r ?_;refine qy (λ_ h=>by cases h) rfl ?_;refine Q.r ?_;refine qy (λ_ h=>by cases h) rfl ?_;refine Q.r ?_;exact Je (L':=[qp M2]) eG (wW (N.tn ⟨u,M2,rfl,rfl,hub,huo,huc,hl2,rfl⟩))
  ·refine qy (λ_ h=>by cases h) rfl ?_
   refine Q.r ?_;refine qy (λ_ h=>by cases h) rfl ?_;refine Q.r ?_;refine qy (λ_ h=>by cases h) rfl ?_;refine Q.r ?_;(repeat (intro b1;refine Q.r ?_));refine qy (λ_ h=>by cases h) rfl ?_;refine S.app rfl rfl (vG.sl vi.row zr zr) zr zo zo (λa' c'=> ?_);refine Q.r ?_;refine qy (λ_ h=>by cases h) rfl ?_;refine Q.r ?_;exact Je (qi.drop (kZ _)) (wW (N.tn ⟨a',c',rfl⟩))
 clear hA hB;subst hrec;clear hr0;have hcall:=mN M a c bs b2 b3 L0 h hc hl (w2.heap.size+1) (pkJ (vB fn tm #[11] As Bs w2.heap.size .ready none) (w2.heap.size+1) w2.heap.size t3) (λpre x hp=>jD6 hsz h3' hp hA' hB');have hsz1:(w2.alloc (.deferred (some []))).heap.size=w2.heap.size+1:=by simp
 rw[hsz1] at t4;have t5:St ((w2.alloc (.deferred (some []))).alloc (.loop (vB fn tm #[11] As Bs w2.heap.size .ready none))) (pkL (vB fn tm #[11] As Bs w2.heap.size .ready none) (w2.heap.size+1) w2.heap.size t3 ⟨[],none,0,M⟩++(pt b2 (cl [.slice a bs.length c] 34)::pt b3 (cl [.int .i64 4096] 3)::L0++F)):=by
  have t4':=St.ent (qi.cons (qi.cons (vj (t:=34) (sz:=1)))) t4;simp only[List.cons_append,kO] at t4' ⊢;generalize L0++F=G at t4' ⊢;refine St.ent ?_ t4'
  show qi _ (pt (w2.heap.size+1) (.loop (vB fn tm #[11] As Bs w2.heap.size .ready none))::pt w2.heap.size (.deferred (some []))::pt t3 (cl [.slice none 0 0] 73)::slO 34 1 none 0 0 []::qp M::pt b2 (cl [.slice a bs.length c] 34)::pt b3 (cl [.int .i64 4096] 3)::G)
  exact eG
 have hok0:tO ([]:List (CV M)) (⟨[],none,0,M⟩:PX):=⟨rfl,λv hv=>by simp at hv,qV.refl M⟩;have t6:=St.ent (gH hok0) t5;refine (qh.run hcall t6).mono ?_;rintro e w3 ⟨v,L',rfl,t7,ks,hks,rfl⟩;obtain ⟨x,⟨hx1,hx2,hx3⟩,t8⟩:=gI t7;refine ⟨v,_,rfl,run_endLoop (St.pt_read t8) (by simp[vB]),?_⟩;have t9:=(St.obj (o':=.loop {vB fn tm #[11] As Bs w2.heap.size .ready none with state:=.exhausted}) t8).tail;generalize w3.putObj (w2.heap.size+1) (.loop {vB fn tm #[11] As Bs w2.heap.size .ready none with state:=.exhausted})=w4 at t9;simp only[Exit.inBlock,Exit.then];have hd2:a2.defers=[]:=s2.defers;rw[hd2,jG];have hxl:x.vs.length=(Vl bs).length:=by
  have h1:=jj List.length hx1;have h2:=jj List.length hks;rw[jf,jf] at h1;rw[jf] at h2;omega
 have hxl2:=sH bs;have hpk:(x.vs.map YB.bs)=(Vl bs).map frB:=by rw[hx1,←hks,kE];rfl
 refine Z2 (n:=30) (L:=pt t3 (cl [.slice x.a x.vs.length x.c] 73)::slO 34 1 x.a x.vs.length x.c (x.vs.flatMap YB.cells)::qp x.M::L0) (F:=pt w2.heap.size (.deferred (some []))::F)
  (K:=λf L=>∃(u:YB) (M2:OM),f 3=some (qK t3)∧f 7=some u.val∧u.bs=frB []∧wq M2 u∧u.bs.length≤u.c∧qV x.M M2∧L=pt t3 (cl [.slice x.a x.vs.length x.c] 73)::slO 34 1 x.a x.vs.length x.c (x.vs.flatMap YB.cells)::qp M2::L0) (f:=v7 [(3,qK t3)]) _ ?_ rfl (s2.weaken (wt ⟨h3,trivial⟩)) ?_ ?_
 ·refine qy (λ_ h=>by cases h) rfl ?_
  refine S.cr rfl (Jq none 0 [] x.M _ _ ⟨rfl,.inl rfl⟩ (λu hu=>by simp at hu) (hT.mono hx3) (jz _) (by simp) (by simp)) ?_;rintro _ _ ⟨u,M2,rfl,hub,huo,huc,hl2,rfl⟩;have hub':u.bs=frB []:=by rw[hub];rfl
  refine Q.r ?_;refine qy (λ_ h=>by cases h) rfl ?_;refine Q.r ?_;refine qy (λ_ h=>by cases h) rfl ?_;refine Q.r ?_;refine qy (λ_ h=>by cases h) rfl ?_;refine Q.r ?_;refine qy (λ_ h=>by cases h) rfl ?_;refine Q.r ?_;refine qy (λ_ h=>by cases h) rfl ?_;refine Q.r ?_;exact Je (L':=pt t3 (cl [.slice x.a x.vs.length x.c] 73)::slO 34 1 x.a x.vs.length x.c (x.vs.flatMap YB.cells)::qp M2::L0) eG (wW (N.tn ⟨u,M2,rfl,rfl,hub',huo,huc,hl2,rfl⟩))
 ·have hp:=(List.perm_middle (a:=pt w2.heap.size (.deferred (some []))) (l₁:=pt t3 (cl [.slice x.a x.vs.length x.c] 73)::slO 34 1 x.a x.vs.length x.c (x.vs.flatMap YB.cells)::qp x.M::L0) (l₂:=F)).symm
  exact St.perm (by simpa using hp) t9
 rintro f L a3 w5 ⟨u,M2,h3,h7,hub,huo,huc,hl2,rfl⟩ s3 t10;refine Z2 (n:=30) (F:=pt w2.heap.size (.deferred (some []))::F)
  (K:=λf L=>∃a' c',f 2=some (.slice a' (x.vs.length+1) c')∧L=slO 34 1 a' (x.vs.length+1) c' (x.vs.flatMap YB.cells++u.cells)::qp M2::L0) (f:=v7 [(3,qK t3),(7,u.val)]) _ ?_ rfl (s3.weaken (wt ⟨h3,h7,trivial⟩)) t10 ?_
 ·refine qy (λ_ h=>by cases h) rfl ?_
  refine Q.r ?_;refine qy (λ_ h=>by cases h) rfl ?_;refine Q.r ?_;refine qy (λ_ h=>by cases h) rfl ?_;refine Q.r ?_;(repeat (intro b1;refine Q.r ?_));refine qy (λ_ h=>by cases h) rfl ?_;refine S.app rfl rfl (vG.sl vi.row zr zr) zr zo zo (λa' c'=> ?_);refine Q.r ?_;refine qy (λ_ h=>by cases h) rfl ?_;refine Q.r ?_;exact Je (L':=slO 34 1 a' (x.vs.length+1) c' (x.vs.flatMap YB.cells++u.cells)::qp M2::L0) eG (wW (N.tn ⟨a',c',rfl,rfl⟩))
 rintro f L a4 w6 ⟨a',c',h2,rfl⟩ s4 t11;have t12:St w6 (pt w2.heap.size (.deferred (some []))::slO 34 1 a' (x.vs.length+1) c' (x.vs.flatMap YB.cells++u.cells)::qp M2::L0++F):=by
  have hp:=(List.perm_middle (a:=pt w2.heap.size (.deferred (some []))) (l₁:=slO 34 1 a' (x.vs.length+1) c' (x.vs.flatMap YB.cells++u.cells)::qp M2::L0) (l₂:=F));exact St.perm (by simpa using hp) t11
 have hD:=St.pt_read t12;have e1:x.vs.length+1=(x.vs++[u]).length:=by simp
 have e2:x.vs.flatMap YB.cells++u.cells=(x.vs++[u]).flatMap YB.cells:=by simp
 have e3:(x.vs++[u]).map YB.bs=Qf bs:=by
  rw[jq,hpk]
  show _++[u.bs]=_
  rw[hub];rfl
 have e4:(x.vs++[u]).length=(Qf bs).length:=by rw[←e3,jf]
 have t13:=(St.obj (o':=.deferred none) t12).tail;rw[e1,e2] at t13;rw[e1] at h2;have hg2:a4.tmps.getD 2 undef=.slice a' (Qf bs).length c':=by rw[←e4];exact s4.at_ 2 _ h2
 refine wpIn_ret ?_;refine ⟨by simp,.inl ⟨_,_,rfl,run_takeDeferred hD,?_⟩⟩;refine ⟨_,results_tmp rfl _ _ _,.slice a' (Qf bs).length c',slO 34 1 a' (x.vs++[u]).length c' ((x.vs++[u]).flatMap YB.cells)::qp M2::L0,?_,t13,a',c',rfl,x.vs++[u],M2,e3,?_,hx3.trans hl2,rfl⟩
 ·rw[hg2]
 ·intro v hv
  rcases jy.1 hv with hv|hv
  ·exact (hx2.mono hl2) v hv
  ·rw[ji.1 hv];exact ⟨huo,huc⟩
end Go.Proofs.YtlnfjhiphlfkjaaGreatDoor
namespace Go.Proofs.YtlnfjhiphlfkjaaGreatDoor
open Go Go.SX
attribute [local irreducible] swp qq qL qJ vZ qh St qi qk vu qH
abbrev tN :List UInt8:=[116]
def wY (bs:List UInt8):List UInt8:=(Qf bs).flatten
theorem lY (bs:List UInt8):(Vl bs).flatten=bs:=by
 induction bs using Vl.induct with
 |case1=>rw[KN];rfl
 |case2 bs h ih=>rw[Kt h,List.flatten_cons,ih,kJ]
theorem jC7 (bs:List UInt8):4096*(Vl bs).length≤bs.length+4095:=by
 induction bs using Vl.induct with
 |case1=>rw[KN];simp
 |case2 bs h ih=>
  have:bs.length≠0:=λe=>h (List.length_eq_zero_iff.1 e)
  rw[Kt h,jC];rw[jE] at ih;omega
theorem X3 (bs:List UInt8):(wY bs).length≤7*bs.length+6:=by
 have h1:=sH bs;have h2:=jj List.length (lY bs);have h3:∀l:List (List UInt8),(l.map frB).flatten.length=6*l.length+l.flatten.length:=λl=>by
  induction l with
  |nil=>rfl
  |cons x l ih=>rw[jL,List.flatten_cons,jc,ih,yN,List.flatten_cons,jc,jC];omega
 unfold wY Qf;rw[List.flatten_append,jc,h3];have h4:([frB []]:List (List UInt8)).flatten.length=6:=by simp[yN]
 omega
theorem lZ (vs:List YB):qX vs=(vs.map YB.bs).flatten:=by
 induction vs with
 |nil=>rfl
 |cons x vs ih=>rw[jL,List.flatten_cons,←ih];rfl
def Ql (d:DK)(bs:List UInt8):Int:=
 if Xx d (wY bs)≠0 then Xx d (wY bs) else if Yc (JT d tN (wY bs)) tN≠0 then Yc (JT d tN (wY bs)) tN else swE (VH (JT d tN (wY bs)) tN)
def Jg (d:DK)(bs:List UInt8)(n:Nat):DK:=
 if Xx d (wY bs)≠0 then JT d tN (wY bs) else if Yc (JT d tN (wY bs)) tN≠0 then VH (JT d tN (wY bs)) tN else swS (VH (JT d tN (wY bs)) tN) tN (nm 99 n)
theorem gR {x:UInt8}{n:Nat}(hx:97≤x.toNat∧x.toNat≤122)(hn:n<100):WA (nm x n):=by
 have h:=Kr hn;refine ⟨by show 1≤(Qv n).length+1;omega,by show (Qv n).length+1≤8;omega,λb hb=> ?_⟩
 rcases j9.1 hb with rfl|hb
 ·exact .inl hx
 ·refine .inr ?_
  by_cases h10:n<10
  ·rw[Yf h10] at hb
   rw[ji.1 hb,UInt8.toNat_ofNat'];omega
  ·rw[fi zo hn] at hb
   rcases j9.1 hb with rfl|hb
   ·rw[UInt8.toNat_ofNat'];omega
   ·rw[ji.1 hb,UInt8.toNat_ofNat'];omega
theorem JK {d:DK}{fs:List FE}{n m:List UInt8}{v:List UInt8×Nat}(hk:qm fs):qE (qN fs n v) m≠none↔m=n∨qE fs m≠none:=by
 rw[wa hk]
 split
 ·next h=>simp[h]
 ·next h=>simp[h]
theorem jEr {d:DK}{bs:List UInt8}(hk:qm d.fs)(h1:Xx d (wY bs)=0):we (VH (JT d tN (wY bs)) tN) tN:=by
 have e1:JT d tN (wY bs)=wrD (vd d) tN (wY bs):=by unfold JT;rw[jb h1]
 have h2:we (JT d tN (wY bs)) tN:=by
  rw[e1];exact (JK (d:=d) (by rw[qU];exact hk)).2 (.inl rfl)
 unfold VH
 split
 ·show qE (qN _ _ _) _≠none
  exact (JK (d:=d) (by rw[qU,e1];exact vy (by rw[qU];exact hk) _ _)).2 (.inl rfl)
 ·rw[wk];exact h2
theorem jGc {d:DK}{bs:List UInt8}{m:List UInt8}(hk:qm d.fs)(hm:m≠tN)(h:¬we d m):¬we (VH (JT d tN (wY bs)) tN) m:=by
 have h1:¬we (JT d tN (wY bs)) m:=by
  unfold JT
  split
  ·intro h2
   rcases (JK (d:=d) (by rw[qU];exact hk)).1 h2 with h3|h3
   ·exact hm h3
   ·rw[qU] at h3;exact h h3
  ·rw[wk];exact h
 have hk1:qm (JT d tN (wY bs)).fs:=by
  unfold JT
  split
  ·exact vy (by rw[qU];exact hk) _ _
  ·rw[qU];exact hk
 unfold VH
 split
 ·intro h2
  rcases (JK (d:=d) (by rw[qU];exact hk1)).1 h2 with h3|h3
  ·exact hm h3
  ·rw[qU] at h3;exact h1 h3
 ·rw[wk];exact h1
theorem lj (p:Nat)(d:DK)(a:OA)(c n:Nat)(bs:List UInt8)(M:OM)(L:HL)(h:qI M a bs.length 1 (bs.map B))(hT:xL M)(hc:bs.length≤c)(hl:bs.length≤1048575)
  (hk:qm d.fs) (hfew:d.fs.length≤15) (hn:n<100) (hno:¬we d (nm 99 n)):
  qh kY 64 [qK p,.slice a bs.length c,.int .i64 n] (qt p d::qp M::L) (λr L'=>r=.int .i64 (Ql d bs)∧∃M',qV M M'∧L'=qt p (Jg d bs n)::qp M'::L):=by
 refine qg Tryz.func64 rfl rfl rfl ?_;refine Q.r ?_;refine qo (L':=qp M::qt p d::L) eG ?_;refine S.cr rfl (tT a c bs M _ h hT hc hl) ?_;rintro _ _ ⟨a1,c1,rfl,vs,M1,hvs,hok,hl1,rfl⟩;have hcat:qX vs=wY bs:=by rw[lZ,hvs];rfl
 have hvl:(Qf bs).length=vs.length:=by rw[←hvs,jf]
 rw[hvl];refine xk a1 (λM2 hl2 hs hc1=> ?_);have hcl:(qX vs).length≤1000000000:=by rw[hcat];have:=X3 bs;omega
 have hvs2:vs.length≤1000000:=by
  rw[←hvl];unfold Qf;rw[jc,jf];have h4:=jC7 bs
  show _+1≤1000000
  omega
 refine S.ckm p rfl (Zm p d tN a1 c1 vs M2 L ⟨by decide,by decide,by decide⟩ hfew hs (λv hv=>(hok v hv).1.mono hl2) hc1 hvs2 hcl) ?_;rintro _ _ ⟨rfl,M3,hl3,rfl⟩;rw[hcat]
 by_cases e1:Xx d (wY bs)=0
 ·rw[e1]
  refine Q.r ?_;(repeat (intro b1;refine Q.r ?_));refine qo (L':=pt b1 (cl [str tN] 9)::qt p (JT d tN (wY bs))::qp M3::L) (kZ _) ?_;refine y9 b1 (t:=9) (l:=[str tN]) (m:=1) (cs:=[str tN]) (jz _) rfl (λM4 hl4 hs4=> ?_);refine S.ckm p rfl (Q1 p _ tN (some ⟨b1,0,none⟩) 1 M4 L hs4) ?_;rintro _ _ ⟨rfl,rfl⟩
  by_cases e2:Yc (JT d tN (wY bs)) tN=0
  ·rw[e2]
   refine Q.r ?_;refine S.cr rfl (za 99 n hn _) ?_;rintro _ _ ⟨rfl,rfl⟩;refine Q.r ?_;refine S.ck p rfl (jAN p _ tN (nm 99 n) _ (jEr hk e1) (jGc hk (by simp[nm]) hno) (gR zd hn)) ?_;rintro _ _ ⟨rfl,rfl⟩;refine Q.r ?_;refine N.t rfl (kZ _) ⟨?_,M4,hl1.trans (hl2.trans (hl3.trans hl4)),?_⟩
   ·unfold Ql;rw[ja (λh=>h e1),ja (λh=>h e2)]
   ·unfold Jg;rw[ja (λh=>h e1),ja (λh=>h e2)]
  ·refine Q.r ?_
   refine N.t rfl (kZ _) ⟨?_,M4,hl1.trans (hl2.trans (hl3.trans hl4)),?_⟩
   ·unfold Ql;rw[ja (λh=>h e1),jb e2]
   ·unfold Jg;rw[ja (λh=>h e1),jb e2]
 ·refine Q.r ?_
  refine N.t rfl (kZ _) ⟨?_,M3,hl1.trans (hl2.trans hl3),?_⟩
  ·unfold Ql;rw[jb e1]
  ·unfold Jg;rw[jb e1]
abbrev Kj :Value:=.pointer none
abbrev zl (q p n k:Nat)(br:Bool):HP:=pt q (cl [qK p,.int .i64 n,.int .i64 k,.bool br] 159)
def foE (d:DK)(bs:List UInt8):Int:=if d.fs.length=0 then Ql d bs else 7
def foS (d:DK)(bs:List UInt8):DK:=if d.fs.length=0 then Jg d bs 0 else d
theorem mK (p:Nat)(d:DK)(a:OA)(c:Nat)(bs:List UInt8)(M:OM)(L:HL)(h:qI M a bs.length 1 (bs.map B))(hT:xL M)(hc:bs.length≤c)(hl:bs.length≤1048575):
  qh kY 25 [qK p,.slice a bs.length c] (qt p d::qp M::L) (λr L'=>r=.int .i64 (foE d bs)∧∃M',qV M M'∧L'=qt p (foS d bs)::qp M'::L):=by
 refine qg Tryz.func25 rfl rfl rfl ?_;refine Q.r ?_;refine S.ckm p rfl (Jo p d M _) ?_;rintro _ _ ⟨a1,c1,M1,rfl,hs,hc1,hl1,rfl⟩
 by_cases h0:d.fs.length=0
 ·have hnil:d.fs=[]:=jO h0
  refine Q.r ?_;refine S.ckm p rfl (lj p d a c 0 bs M1 L (h.mono hl1) (hT.mono hl1) hc hl (by rw[hnil];exact List.nodup_nil) zo zo (by unfold we;rw[hnil];exact λh=>h rfl)) ?_;rintro _ _ ⟨rfl,M2,hl2,rfl⟩;refine Q.r ?_;exact N.t rfl (kZ _) ⟨by unfold foE;rw[jb h0],M2,hl1.trans hl2,by unfold foS;rw[jb h0]⟩
 ·have h1:(0:Int)<d.fs.length:=by omega
  refine Q.r ?_;exact N.t rfl (kZ _) ⟨by unfold foE;rw[ja h0],M1,hl1,by unfold foS;rw[ja h0]⟩
theorem Qx (q p n k:Nat)(br:Bool)(L:HL):qh kY 157 [qK q] (zl q p n k br::L) (λr L'=>r=.int .i64 (if br then 10 else 0)∧L'=zl q p n k br::L):=by
 refine qg Tryz.func157 rfl rfl rfl ?_
 cases br
 ·refine Q.r ?_
  exact N.t rfl (kZ _) ⟨rfl,rfl⟩
 ·refine Q.r ?_
  exact N.t rfl (kZ _) ⟨rfl,rfl⟩
theorem zV (q p n k:Nat)(br:Bool)(e:Int)(L:HL):qh kY 158 [qK q,.int .i64 e] (zl q p n k br::L) (λr L'=>r=.int .i64 e∧L'=zl q p n k (br||decide (e=9))::L):=by
 refine qg Tryz.func158 rfl rfl rfl ?_
 cases br
 ·by_cases h:e=9
  ·subst h
   refine Q.r ?_;exact N.t rfl (kZ _) ⟨rfl,rfl⟩
  ·have h2:decide (e=9)=false:=jv h
   refine Q.r ?_;exact N.t rfl (kZ _) ⟨rfl,by rw[h2];rfl⟩
 ·refine Q.r ?_
  exact N.t rfl (kZ _) ⟨rfl,rfl⟩
theorem Zy (q p n k:Nat)(br:Bool)(L:HL):qh kY 98 [qK q] (zl q p n k br::L) (λr L'=>r=.int .i64 k∧L'=zl q p n k br::L):=by
 refine qg Tryz.func98 rfl rfl rfl ?_;refine Q.r ?_;exact N.t rfl (kZ _) ⟨rfl,rfl⟩
theorem zE (q p n k:Nat)(br:Bool)(L:HL):qh kY 82 [qK q] (zl q p n k br::L) (λr L'=>r=.bool br∧L'=zl q p n k br::L):=by
 refine qg Tryz.func82 rfl rfl rfl ?_;refine Q.r ?_;exact N.t rfl (kZ _) ⟨rfl,rfl⟩
structure JZ where
 d:DK
 n:Nat
 k:Nat
 br:Bool
abbrev yU (p q:Nat)(s:JZ)(M:OM)(L:HL):HL:=zl q p s.n s.k s.br::qt p s.d::qp M::L
def bX (s:JZ):Int:=if s.br then 10 else if s.k=0 then 0 else Yc s.d (nm 108 s.n)
def bW (s:JZ):JZ:=if s.br then s else if s.k=0 then s else {s with d:=VH s.d (nm 108 s.n),br:=s.br||decide (Yc s.d (nm 108 s.n)=9)}
theorem p0 (p q:Nat)(s:JZ)(M:OM)(L:HL)(hn:s.n<100):
  qh kY 156 [qK q] (yU p q s M L) (λr L'=>r=.int .i64 (bX s)∧∃M',qV M M'∧L'=yU p q (bW s) M' L):=by
 refine qg Tryz.func156 rfl rfl rfl ?_;refine Q.r ?_;refine S.cr rfl (Qx q p s.n s.k s.br _) ?_;rintro _ _ ⟨rfl,rfl⟩;obtain ⟨d,n,k,br⟩:=s;dsimp only at hn ⊢
 cases br
 ·by_cases hk:k=0
  ·have hk':(k:Int)=0:=by omega
   refine Q.r ?_;exact N.t rfl (kZ _) ⟨by unfold bX;dsimp only;rw[ja zd,jb hk],M,qV.refl M,by unfold bW;dsimp only;rw[ja zd,jb hk]⟩
  ·have hk':¬(k:Int)=0:=by omega
   refine Q.r ?_;refine Q.dgo [true,false,false] [9,10,11,12] [12] [0,1,2,3,4,5,6,7,8,9,10,11,12,13] ?_;refine Q.rd2 ?_;refine D.e rfl rfl rfl ?_;refine S.cr rfl (za 108 n hn _) ?_;rintro _ _ ⟨rfl,rfl⟩;refine Q.r ?_;refine Q.rd2 ?_;refine D.e rfl rfl rfl ?_;refine Q.r ?_;(repeat (intro b1;refine Q.r ?_));refine Q.rd2 ?_;refine D.e rfl rfl rfl ?_;refine y9 b1 (t:=9) (l:=[str (nm 108 n)]) (m:=1) (cs:=[str (nm 108 n)]) (jz _) rfl (λM1 hl1 hs1=> ?_);refine S.ckm p rfl (Q1 p d (nm 108 n) (some ⟨b1,0,none⟩) 1 M1 _ hs1) ?_;rintro _ _ ⟨rfl,rfl⟩;refine Q.r ?_;refine Q.rd2 ?_;refine Q.dc rfl rfl rfl rfl ?_;refine qo (L':=zl q p n k false::qt p (VH d (nm 108 n))::qp M1::L) eG ?_;refine S.cr rfl (zV q p n k false _ _) ?_;rintro _ _ ⟨rfl,rfl⟩;refine Q.r ?_;refine Q.rd2 ?_;refine Q.r ?_;exact N.t rfl (kZ _) ⟨by unfold bX;dsimp only;rw[ja zd,ja hk],M1,hl1,by unfold bW;dsimp only;rw[ja zd,ja hk]⟩
 ·refine Q.r ?_
  exact N.t rfl (kZ _) ⟨rfl,M,qV.refl M,rfl⟩
def cdL (rs:List (List UInt8)):Int:=if ∃r∈rs,4096<r.length then 3 else 0
theorem jEQ :cdL []=0:=ja (by simp)
theorem jDe (rs:List (List UInt8))(r:List UInt8):cdL (rs++[r])=if 4096<r.length then 3 else cdL rs:=by
 unfold cdL
 by_cases h:4096<r.length
 ·rw[jb h,jb ⟨r,by simp,h⟩]
 ·rw[ja h]
  by_cases h2:∃r∈rs,4096<r.length
  ·obtain ⟨x,hx,hx2⟩:=h2
   rw[jb ⟨x,by simp[hx],hx2⟩,jb ⟨x,hx,hx2⟩]
  ·rw[ja h2,ja]
   rintro ⟨x,hx,hx2⟩
   rcases jy.1 hx with hx|hx
   ·exact h2 ⟨x,hx,hx2⟩
   ·rw[ji.1 hx] at hx2;exact h hx2
def mS (rs:List (List UInt8)):Int:=if ∃r∈rs,r.length=0 then 2 else cdL rs
def xb (rs:List (List UInt8)):List UInt8:=(rs.map frB).flatten
def mR (s:JZ)(rs:List (List UInt8)):Int:=if s.br then 10 else if mS rs≠0 then mS rs else if rs=[] then 0 else Xx s.d (xb rs)
def gB (s:JZ)(rs:List (List UInt8)):JZ:=
 if s.br then s else if mS rs≠0 then s else if rs=[] then s else {s with d:=JT s.d (nm 108 s.n) (xb rs),k:=if Xx s.d (xb rs)=0 then s.k+rs.length else s.k,br:=s.br||decide (Xx s.d (xb rs)=9)}
def frC (b:List UInt8):List UInt8:=if 4096<b.length then [] else frB b
theorem sK {K:Nat}:∀us:List YB,(∀v∈us,v.bs.length≤K)→(qX us).length≤us.length*K
 | [],_=>by simp
 |u::us,h=>by
  have h1:=sK us (λv hv=>h v (by simp[hv]));have h2:=h u (by simp)
  show (u.bs++qX us).length≤(us.length+1)*K
  rw[jc,Nat.succ_mul];omega
structure PS where
 k:Nat
 us:List YB
 a:OA
 c:Nat
 M:OM
theorem jAW (p q:Nat)(s:JZ)(a:OA)(c:Nat)(vs:List YB)(M:OM)(L:HL)(hn:s.n<100)(hk:s.k≤1000000)(hfew:s.d.fs.length≤15)(h:qI M a vs.length 1 (vs.flatMap YB.cells))(hok:JV M vs)(hT:xL M)(hvl:vs.length≤1000)(hb:∀v∈vs,v.bs.length≤100000):
  qh kY 155 [qK q,.slice a vs.length c] (yU p q s M L) (λr L'=>r=.int .i64 (mR s (vs.map YB.bs))∧∃M',qV M M'∧L'=yU p q (gB s (vs.map YB.bs)) M' L):=by
 refine qg Tryz.func155 rfl rfl rfl ?_;refine Q.r ?_;refine S.cr rfl (Qx q p s.n s.k s.br _) ?_;rintro _ _ ⟨rfl,rfl⟩;obtain ⟨d,n,kk,br⟩:=s;dsimp only at hn hk hfew ⊢
 cases br
 ·refine Q.r ?_
  refine qw (σ:=PS) (λs=> [(0,qK q),(1,.slice a vs.length c),(6,.int .i64 (cdL (vs.map YB.bs))),(7,.slice s.a s.us.length s.c)])
   (λs=>slO 34 1 s.a s.us.length s.c (s.us.flatMap YB.cells)::zl q p n kk false::qt p d::qp s.M::L) (λs=>(∀v∈vs,v.bs.length≠0)∧s.us.map YB.bs=vs.map (λv=>frC v.bs)∧JV s.M s.us∧qV M s.M) ?_ ?_
  ·refine ql (σ:=PS) (λs=> [(0,qK q),(1,.slice a vs.length c),(18,.slice a vs.length c),(19,.int .i64 vs.length),(20,.int .i64 s.k),(6,.int .i64 (cdL ((vs.take s.k).map YB.bs))),(7,.slice s.a s.us.length s.c)])
    (λs=>slO 34 1 s.a s.us.length s.c (s.us.flatMap YB.cells)::zl q p n kk false::qt p d::qp s.M::L) (λs=>s.k≤vs.length∧(∀v∈vs.take s.k,v.bs.length≠0)∧s.us.map YB.bs=(vs.take s.k).map (λv=>frC v.bs)∧JV s.M s.us∧qV M s.M) (λs=>vs.length - s.k) ⟨0,[],none,0,M⟩ ⟨rfl,rfl,rfl,rfl,rfl,by rw[kB,kC,jEQ];rfl,rfl,trivial⟩ vj ⟨by show 0≤_;omega,by simp,by simp,λv hv=>by simp at hv,qV.refl M⟩ ?_
   rintro ⟨k,us,a1,c1,M1⟩ ⟨hkl,hall,hus,huo,hl1⟩;dsimp only at hkl hall hus huo hl1 ⊢
   by_cases hlt:k<vs.length
   ·obtain ⟨v,hv⟩:=qx hlt
    obtain ⟨b,o,rfl,hr⟩:=qI.cm (g:=YB.cells) (λ_=>rfl) (h.mono hl1) hv rfl;refine Q.r ?_;(repeat (intro b1;refine Q.r ?_));have hvm:=jn hv;have hvo:=((hok v hvm).1.mono hl1);have hvb:=hb v hvm;have hcv:qX [v]=v.bs:=by simp
    refine S.cr rfl (Jq (some ⟨b1,0,none⟩) 1 [v] M1 _ _ (qY.row1y rfl) (λu hu=>by rw[ji.1 hu];exact hvo.rd) (hT.mono hl1) (jz _) (by simp) (by rw[hcv];omega)) ?_;rintro _ _ ⟨u,M2,rfl,hub,huo2,huc,hl2,rfl⟩;rw[hcv] at hub ⊢
    by_cases hv0:v.bs.length=0
    ·refine Q.r ?_
     have hptC:mS (vs.map YB.bs)=2:=by unfold mS;rw[jb ⟨v.bs,jA hvm,hv0⟩]
     refine N.t rfl (L':=yU p q ⟨d,n,kk,false⟩ M2 L) eG ⟨?_,M2,hl1.trans hl2,?_⟩
     ·unfold mR;dsimp only;rw[ja zd,hptC];rfl
     ·unfold gB;dsimp only;rw[ja zd,hptC];rfl
    ·have hcs:cdL ((vs.take (k+1)).map YB.bs)=if 4096<v.bs.length then 3 else cdL ((vs.take k).map YB.bs):=by
      rw[qA hv,jq];exact jDe _ _
     have hall2:∀w∈vs.take (k+1),w.bs.length≠0:=λw hw=>by
      rw[qA hv] at hw
      rcases jy.1 hw with hw|hw
      ·exact hall w hw
      ·rw[ji.1 hw];exact hv0
     have hus2:(us++[u]).map YB.bs=(vs.take (k+1)).map (λv=>frC v.bs):=by
      rw[qA hv,jq,jq,hus]
      show _++[u.bs]=_
      rw[hub];rfl
     have huo3:JV M2 (us++[u]):=λw hw=>by
      rcases jy.1 hw with hw|hw
      ·exact (huo.mono hl2) w hw
      ·rw[ji.1 hw];exact ⟨huo2,huc⟩
     have husl:us.length=k:=by
      have:=jj List.length hus;rw[jf,jf,jP] at this;omega
     by_cases hvl4:4096<v.bs.length
     ·rw[jb hvl4] at hcs ⊢
      refine Q.r ?_;(repeat (intro b1;refine Q.r ?_));refine S.app rfl rfl (vG.sl vi.row zr zr) zr zo zo (λa7 c7=> ?_);refine Q.r ?_;refine ⟨⟨k+1,us++[u],a7,c7,M2⟩,⟨rfl,rfl,rfl,rfl,rfl,jj some (jj (Value.int .i64) hcs.symm),jj some (by simp),trivial⟩,?_,⟨by show k+1≤vs.length;omega,?_,?_,?_,hl1.trans hl2⟩,by show vs.length - (k+1)<vs.length - k;omega⟩
      ·dsimp only
       rw[qG,vK];exact eG
      ·exact hall2
      ·exact hus2
      ·exact huo3
     ·rw[ja hvl4] at hcs ⊢
      refine Q.r ?_;(repeat (intro b1;refine Q.r ?_));refine S.app rfl rfl (vG.sl vi.row zr zr) zr zo zo (λa7 c7=> ?_);refine Q.r ?_;refine ⟨⟨k+1,us++[u],a7,c7,M2⟩,⟨rfl,rfl,rfl,rfl,rfl,jj some (jj (Value.int .i64) hcs.symm),jj some (by simp),trivial⟩,?_,⟨by show k+1≤vs.length;omega,?_,?_,?_,hl1.trans hl2⟩,by show vs.length - (k+1)<vs.length - k;omega⟩
      ·dsimp only
       rw[qG,vK];exact eG
      ·exact hall2
      ·exact hus2
      ·exact huo3
   ·have hke:k=vs.length:=by omega
    subst hke;rw[jI] at*;refine Q.r ?_;exact ⟨⟨vs.length,us,a1,c1,M1⟩,zt,kZ _,hall,hus,huo,hl1⟩
  ·rintro ⟨k,us,a1,c1,M1⟩ ⟨hall,hus,huo,hl1⟩
   dsimp only at hall hus huo hl1 ⊢;have hptC:mS (vs.map YB.bs)=cdL (vs.map YB.bs):=by
    unfold mS;rw[ja];rintro ⟨r,hr,h0⟩;obtain ⟨v,hv,rfl⟩:=jM.1 hr;exact hall v hv h0
   by_cases hcd:cdL (vs.map YB.bs)=0
   ·rw[hcd]
    by_cases hv0:vs.length=0
    ·have hnil:vs=[]:=jO hv0
     have hv0':(vs.length:Int)=0:=by omega
     refine Q.r ?_;refine N.t rfl (L':=yU p q ⟨d,n,kk,false⟩ M1 L) eG ⟨?_,M1,hl1,?_⟩
     ·unfold mR;dsimp only;rw[ja zd,hptC,hcd,ja zd,jb (by rw[hnil];rfl)]
     ·unfold gB;dsimp only;rw[ja zd,hptC,hcd,ja zd,jb (by rw[hnil];rfl)]
    ·have hv0':¬(vs.length:Int)=0:=by omega
     have hnn:¬vs.map YB.bs=[]:=λh=>hv0 (by rw[←jf (f:=YB.bs),h];rfl)
     refine Q.r ?_;refine db a1 (λ_ _ hcap=> ?_);refine wF a1 (λM2 hl2 hs2=> ?_);refine vh (L':=zl q p n kk false::qt p d::qp M2::L) eG ?_;refine Q.dgo [true,false,false] [8,10] [] [0,1,2,3,4,5,6,7,9,8,10,11] ?_;refine Q.rd2 ?_;refine D.e rfl rfl rfl ?_;refine S.cr rfl (za 108 n hn _) ?_;rintro _ _ ⟨rfl,rfl⟩;refine Q.r ?_;refine Q.rd2 ?_;refine D.e rfl rfl rfl ?_;have hcat:qX us=xb (vs.map YB.bs):=by
      rw[lZ,hus];unfold xb;rw[kE];refine jj List.flatten (List.map_congr_left λv hv=> ?_)
      show frC v.bs=frB v.bs
      unfold frC;refine ja λh=> ?_
      unfold cdL at hcd;rw[jb ⟨v.bs,jA hv,h⟩] at hcd
      cases hcd
     have husl:us.length=vs.length:=by
      have:=jj List.length hus
      rwa [jf,jf] at this
     have hub:(qX us).length≤us.length*100006:=sK us λu hu=>by
      have h1:u.bs∈us.map YB.bs:=jA hu;rw[hus] at h1;obtain ⟨v,hv,he⟩:=jM.1 h1;have h2:=hb v hv;rw[←he];unfold frC
      split
      ·simp
      ·rw[yN];omega
     refine S.ckm p rfl (Zm p d (nm 108 n) a1 c1 us M2 L (gR zd hn) hfew hs2 (λu hu=>(huo u hu).1.mono hl2) hcap zo zo) ?_;rintro _ _ ⟨rfl,M3,hl3,rfl⟩;rw[hcat];refine Q.r ?_;refine Q.rd2 ?_
     by_cases he:Xx d (xb (vs.map YB.bs))=0
     ·rw[he]
      refine Q.r ?_;rw[show ((kk:Int)+(vs.length:Int))=((kk+vs.length:Nat):Int) from rfl];refine qo (L':=zl q p n (kk+vs.length) false::qt p (JT d (nm 108 n) (xb (vs.map YB.bs)))::qp M3::L) eG ?_;refine S.cr rfl (zV q p n _ false _ _) ?_;rintro _ _ ⟨rfl,rfl⟩;refine Q.r ?_;refine N.t rfl (kZ _) ⟨?_,M3,hl1.trans (hl2.trans hl3),?_⟩
      ·unfold mR;dsimp only;rw[ja zd,hptC,hcd,ja zd,ja hnn,he]
      ·unfold gB;dsimp only;rw[ja zd,hptC,hcd,ja zd,ja hnn,he,jb rfl,jf]
     ·refine Q.r ?_
      refine qo (L':=zl q p n kk false::qt p (JT d (nm 108 n) (xb (vs.map YB.bs)))::qp M3::L) eG ?_;refine S.cr rfl (zV q p n _ false _ _) ?_;rintro _ _ ⟨rfl,rfl⟩;refine Q.r ?_;refine N.t rfl (kZ _) ⟨?_,M3,hl1.trans (hl2.trans hl3),?_⟩
      ·unfold mR;dsimp only;rw[ja zd,hptC,hcd,ja zd,ja hnn]
      ·unfold gB;dsimp only;rw[ja zd,hptC,hcd,ja zd,ja hnn,ja he]
   ·have hne:¬mS (vs.map YB.bs)=0:=by rw[hptC];exact hcd
    refine Q.r ?_;refine N.t rfl (L':=yU p q ⟨d,n,kk,false⟩ M1 L) eG ⟨?_,M1,hl1,?_⟩
    ·unfold mR;dsimp only;rw[ja zd,jb hne,hptC]
    ·unfold gB;dsimp only;rw[ja zd,jb hne]
 ·refine Q.r ?_
  exact N.t rfl (kZ _) ⟨rfl,M,qV.refl M,rfl⟩
def VA (s:JZ):List (List UInt8):=nm 99 s.n::if 0<s.k then [nm 108 s.n] else []
def J9 (s:JZ)(bs:List UInt8):Int:=if s.br then 10 else if Ql s.d bs≠0 then Ql s.d bs else drE (Jg s.d bs (s.n+1)) (VA s)
def yZ (s:JZ)(bs:List UInt8):JZ:=
 if s.br then s else if Ql s.d bs≠0 then {s with d:=Jg s.d bs (s.n+1),br:=s.br||decide (Ql s.d bs=9)}
 else {d:=drS (Jg s.d bs (s.n+1)) (VA s),n:=s.n+1,k:=0,br:=s.br||decide (drE (Jg s.d bs (s.n+1)) (VA s)=9)}
theorem jCu {d:DK}{bs:List UInt8}{n:Nat}{m:List UInt8}(hk:qm d.fs)(hm:m≠tN)(hn:m≠nm 99 n)(h:we d m):we (Jg d bs n) m:=by
 have h1:we (JT d tN (wY bs)) m:=by
  unfold JT
  split
  ·exact (JK (d:=d) (by rw[qU];exact hk)).2 (.inr (by rw[qU];exact h))
  ·rw[wk];exact h
 have hk1:qm (JT d tN (wY bs)).fs:=by
  unfold JT
  split
  ·exact vy (by rw[qU];exact hk) _ _
  ·rw[qU];exact hk
 have h2:we (VH (JT d tN (wY bs)) tN) m:=by
  unfold VH
  split
  ·exact (JK (d:=d) (by rw[qU];exact hk1)).2 (.inr (by rw[qU];exact h1))
  ·rw[wk];exact h1
 unfold Jg
 split
 ·exact h1
 ·split
  ·exact h2
  ·unfold swS
   split
   ·rw[wk];exact h2
   ·show qE (qO (vd _).fs tN++_) m≠none
    rw[qU];have h3:qE (qO (VH (JT d tN (wY bs)) tN).fs tN) m≠none:=by
     rw[Kk,ja hm];exact h2
    intro h4;apply h3;unfold qE at h4 ⊢;rw[List.find?_append] at h4
    cases hf:List.find? (λu=>decide (u.1=m)) (qO (VH (JT d tN (wY bs)) tN).fs tN) with
    |none=>rfl
    |some u=>rw[hf] at h4;cases h4
theorem WY (p q:Nat)(s:JZ)(a:OA)(c:Nat)(bs:List UInt8)(M:OM)(L:HL)(hn:s.n+1<100)(hk:qm s.d.fs)(hfew:s.d.fs.length≤15)(h:qI M a bs.length 1 (bs.map B))(hT:xL M)(hc:bs.length≤c)(hl:bs.length≤1048575)
  (hno:¬we s.d (nm 99 (s.n+1))) (hold:∀m∈VA s,we s.d m):
  qh kY 81 [qK q,.slice a bs.length c] (yU p q s M L) (λr L'=>r=.int .i64 (J9 s bs)∧∃M',qV M M'∧L'=yU p q (yZ s bs) M' L):=by
 refine qg Tryz.func81 rfl rfl rfl ?_;refine Q.r ?_;refine S.cr rfl (Qx q p s.n s.k s.br _) ?_;rintro _ _ ⟨rfl,rfl⟩;obtain ⟨d,n,k,br⟩:=s;have hold2:∀m∈VA ⟨d,n,k,br⟩,we (Jg d bs (n+1)) m:=λm hm=>by
  refine jCu hk ?_ ?_ (hold m hm)
  ·intro h
   unfold VA at hm;dsimp only at hm
   rcases j9.1 hm with rfl|hm
   ·simp[nm] at h
   ·split at hm
    ·rw[ji.1 hm] at h;simp[nm] at h
    ·cases hm
  ·intro h
   exact hno (by rw[←h];exact hold m hm)
 dsimp only at hn hk hfew hno hold ⊢
 cases br
 ·refine Q.r ?_
  refine Q.dgo [true,false,false] [10] [] [0,1,2,3,4,5,6,7,8,9,10,11] ?_;refine Q.rd2 ?_;refine D.e rfl rfl rfl ?_;refine S.ckm p rfl (lj p d a c (n+1) bs M _ h hT hc hl hk hfew hn hno) ?_;rintro _ _ ⟨rfl,M1,hl1,rfl⟩;refine Q.r ?_;refine Q.rd2 ?_
  by_cases he:Ql d bs=0
  ·rw[he]
   refine Q.r ?_;refine S.cr rfl (za 99 n zo _) ?_;rintro _ _ ⟨rfl,rfl⟩
   by_cases hk0:0<k
   ·have hk1:(0:Int)<k:=by omega
    have ho:VA ⟨d,n,k,false⟩=[nm 99 n,nm 108 n]:=by unfold VA;dsimp only;rw[jb hk0]
    refine Q.r ?_;(repeat (intro b1;refine Q.r ?_));refine S.cr rfl (za 108 n zo _) ?_;rintro _ _ ⟨rfl,rfl⟩;refine Q.r ?_;(repeat (intro b1;refine Q.r ?_));rename_i bo;refine qo (qi.trans (qi.perm (.swap _ _ _)) (vg (t:=9) (sz:=1) (m:=1) rfl)) ?_;refine S.app rfl rfl (vG.sl vi.row zr zr) zr zo zo (λa7 c7=> ?_);refine Q.r ?_;refine qR a7 (λM2 hl2 hs2=> ?_);refine S.ck p rfl (W4 p (Jg d bs (n+1)) a7 c7 [nm 99 n,nm 108 n] _ (λX=>qI.rd hs2 (hm:=Qo X inferInstance)) (by simp) (by rw[←ho];exact hold2)) ?_;rintro _ _ ⟨rfl,rfl⟩;refine Q.r ?_;refine qo (L':=pt q (cl [qK p,.int .i64 ((n:Int)+1),.int .i64 0,.bool false] 159)::qt p (drS (Jg d bs (n+1)) [nm 99 n,nm 108 n])::qp M2::L) eG ?_;refine S.cr rfl (zV q p (n+1) 0 false _ _) ?_;rintro _ _ ⟨rfl,rfl⟩;refine Q.r ?_;refine N.t rfl (kZ _) ⟨?_,M2,hl1.trans hl2,?_⟩
    ·unfold J9;dsimp only;rw[ja zd,ja (λh=>h he),ho]
    ·unfold yZ;dsimp only;rw[ja zd,ja (λh=>h he),ho]
   ·have hk1:¬(0:Int)<k:=by omega
    have ho:VA ⟨d,n,k,false⟩=[nm 99 n]:=by unfold VA;dsimp only;rw[ja hk0]
    refine Q.r ?_;(repeat (intro b1;refine Q.r ?_));refine y9 b1 (t:=9) (l:=[str (nm 99 n)]) (m:=1) (cs:=[str (nm 99 n)]) (jz _) rfl (λM2 hl2 hs2=> ?_);refine S.ck p rfl (W4 p (Jg d bs (n+1)) (some ⟨b1,0,none⟩) 1 [nm 99 n] _ (λX=>qI.rd hs2 (hm:=Qo X inferInstance)) (by simp) (by rw[←ho];exact hold2)) ?_;rintro _ _ ⟨rfl,rfl⟩;refine Q.r ?_;refine qo (L':=pt q (cl [qK p,.int .i64 ((n:Int)+1),.int .i64 0,.bool false] 159)::qt p (drS (Jg d bs (n+1)) [nm 99 n])::qp M2::L) eG ?_;refine S.cr rfl (zV q p (n+1) 0 false _ _) ?_;rintro _ _ ⟨rfl,rfl⟩;refine Q.r ?_;refine N.t rfl (kZ _) ⟨?_,M2,hl1.trans hl2,?_⟩
    ·unfold J9;dsimp only;rw[ja zd,ja (λh=>h he),ho]
    ·unfold yZ;dsimp only;rw[ja zd,ja (λh=>h he),ho]
  ·refine Q.r ?_
   refine qo (L':=zl q p n k false::qt p (Jg d bs (n+1))::qp M1::L) eG ?_;refine S.cr rfl (zV q p n _ false _ _) ?_;rintro _ _ ⟨rfl,rfl⟩;refine Q.r ?_;refine N.t rfl (kZ _) ⟨?_,M1,hl1,?_⟩
   ·unfold J9;dsimp only;rw[ja zd,jb he]
   ·unfold yZ;dsimp only;rw[ja zd,jb he]
 ·refine Q.r ?_
  exact N.t rfl (kZ _) ⟨rfl,M,qV.refl M,rfl⟩
def lw (n:List UInt8):Prop:=(∃k,k<100∧n=nm 99 k)∨(∃k,k<100∧n=nm 108 k)∨n=[116]∨n=[97]
def wI (x:UInt8)(n:List UInt8):Option Nat:=(List.range 100).find? (λk=>decide (nm x k=n))
theorem n3 {x y:UInt8}{a b:Nat}(ha:a<100)(hb:b<100)(h:nm x a=nm y b):x=y∧a=b:=by
 unfold nm at h;exact ⟨(List.cons.inj h).1,jEI ha hb (List.cons.inj h).2⟩
theorem Kg {x:UInt8}{k:Nat}(h:k<100):wI x (nm x k)=some k:=by
 unfold wI;rw[List.find?_range_eq_some];refine ⟨by simp,by simpa using h,λj hj=> ?_⟩;simp only[kL,j5];intro he;have:=(n3 zo h he).2;omega
theorem yh {x b:UInt8}{bs:List UInt8}(h:b≠x):wI x (b::bs)=none:=by
 unfold wI;rw[List.find?_eq_none];intro k hk he;have:=kV he;unfold nm at this;exact h (List.cons.inj this).1.symm
theorem Qi (x:UInt8)(n:List UInt8)(hx:x=99∨x=108)(hn:lw n)(M:OM)(L:HL)[hP:xq M L](hE:VT M):
  qh kY 137 [str [x],str n] L (λr L'=>r=.tuple #[.int .i64 ((wI x n).getD 0:Nat),.bool (wI x n).isSome]∧L'=L):=by
 have hmiss:∀(b:UInt8) (bs:List UInt8),n=b::bs→97≤b.toNat→b≠x→bs.length≤20→qh kY 137 [str [x],str n] L (λr L'=>r=.tuple #[.int .i64 ((wI x n).getD 0:Nat),.bool (wI x n).isSome]∧L'=L):=by
  intro b bs hb h97 hne hl;subst hb;rw[yh hne];exact gN x b bs h97 hne hl M L hE
 have hhit:∀k,k<100→n=nm x k→qh kY 137 [str [x],str n] L (λr L'=>r=.tuple #[.int .i64 ((wI x n).getD 0:Nat),.bool (wI x n).isSome]∧L'=L):=by
  intro k hk hnk;subst hnk;rw[Kg hk];exact nY x k hk L
 rcases hn with ⟨k,hk,rfl⟩|⟨k,hk,rfl⟩|rfl|rfl
 ·rcases hx with rfl|rfl
  ·exact hhit k hk rfl
  ·exact hmiss 99 (Qv k) rfl zd zd (by have:=Kr hk;omega)
 ·rcases hx with rfl|rfl
  ·exact hmiss 108 (Qv k) rfl zd zd (by have:=Kr hk;omega)
  ·exact hhit k hk rfl
 ·exact hmiss 116 [] rfl zd (by rcases hx with rfl|rfl<;>decide) zd
 ·exact hmiss 97 [] rfl zd (by rcases hx with rfl|rfl<;>decide) zd
def XL (m:Int)(n:List UInt8):Int:=match wI 99 n with|some k=>max m k|none=>m
def v6 (ns:List (List UInt8)):Int:=ns.foldl XL (-1)
def yV (m:Int)(n:List UInt8):Bool:=decide (n=[116])||((wI 99 n).isSome&& !decide (((wI 99 n).getD 0:Nat)=m))||((wI 108 n).isSome&& !decide (((wI 108 n).getD 0:Nat)=m))
def xT (m:Int)(ns:List (List UInt8)):List (List UInt8):=ns.filter (yV m)
theorem lp (p:Nat)(d:DK)(M:OM)(L:HL)(hE:VT M)(hg:∀n∈qM d,lw n)(hfew:d.fs.length≤16):
  qh kY 71 [qK p] (qt p d :: qp M :: L) (fun r L' => ∃ a c M',r = .tuple #[.int .i64 (v6 (qM d)),.slice a (xT (v6 (qM d)) (qM d)).length c] ∧ qV M M' ∧
   L'=slO 9 1 a (xT (v6 (qM d)) (qM d)).length c ((xT (v6 (qM d)) (qM d)).map str)::qt p d::qp M'::L):=by
 refine qg Tryz.func71 rfl rfl rfl ?_;refine Q.r ?_;refine S.ckm p rfl (Jo p d M _) ?_;rintro _ _ ⟨a,c,M1,rfl,hs,hc,hl1,rfl⟩;refine Q.r ?_;have hnl:(qM d).length=d.fs.length:=by unfold qM;rw[J7,jf]
 obtain ⟨ns,hnse⟩:∃ns,ns=qM d:=⟨_,rfl⟩;rw[←hnse] at hs hg hnl ⊢;rw[←hnl] at hs hc ⊢;have hs1:qI M1 a ns.length 1 (ns.flatMap sC):=by rw[Wi];exact hs
 refine qw (σ:=Unit) (λ_=> [(0,qK p),(4,.int .i64 (v6 ns))]) (λ_=>qt p d::qp M1::L) (λ_=>True) ?_ ?_
 ·refine ql (σ:=Nat) (λk=> [(0,qK p),(17,.slice a ns.length c),(18,.int .i64 ns.length),(19,.int .i64 k),(4,.int .i64 (v6 (ns.take k)))]) (λ_=>qt p d::qp M1::L) (λk=>k≤ns.length) (λk=>ns.length - k) 0 zt (kZ _) zo ?_
  intro k hk
  by_cases hlt:k<ns.length
  ·obtain ⟨n,hnk⟩:=qx hlt
   obtain ⟨b,o,rfl,hr⟩:=qI.cm (g:=sC) (λ_=>rfl) hs1 hnk rfl;have hlat:v6 (ns.take (k+1))=XL (v6 (ns.take k)) n:=by
    unfold v6;rw[qA hnk,List.foldl_append];rfl
   refine Q.r ?_;refine S.cr rfl (Qi 99 n (.inl rfl) (hg n (jn hnk)) M1 _ (hE.mono hl1)) ?_;rintro _ _ ⟨rfl,rfl⟩
   cases hz:wI 99 n with
   |none=>
    refine Q.r ?_;refine ⟨k+1,⟨rfl,rfl,rfl,rfl,?_,trivial⟩,kZ _,by omega,by omega⟩;rw[hlat];unfold XL;rw[hz];rfl
   |some m=>
    refine Q.r ?_;refine ⟨k+1,⟨rfl,rfl,rfl,rfl,?_,trivial⟩,kZ _,by omega,by omega⟩;rw[hlat];unfold XL;rw[hz];rfl
  ·have hke:k=ns.length:=by omega
   subst hke;rw[jI];refine Q.r ?_;exact ⟨(),zt,kZ _,trivial⟩
 ·intro _ _
  refine Q.r ?_;refine S.ckm p rfl (Jo p d M1 _) ?_;rintro _ _ ⟨a2,c2,M2,rfl,hs2,hc2,hl2,rfl⟩;rw[←hnse,←hnl] at hs2;rw[←hnl] at hc2 ⊢;have hs3:qI M2 a2 ns.length 1 (ns.flatMap sC):=by rw[Wi];exact hs2
  refine Q.r ?_;refine qw (σ:=OA×Nat) (λs=> [(4,.int .i64 (v6 ns)),(9,.slice s.1 (xT (v6 ns) ns).length s.2)]) (λs=>slO 9 1 s.1 (xT (v6 ns) ns).length s.2 ((xT (v6 ns) ns).map str)::qt p d::qp M2::L) (λ_=>True) ?_ ?_
  ·refine ql (σ:=Nat×OA×Nat) (λs=> [(4,.int .i64 (v6 ns)),(34,.slice a2 ns.length c2),(35,.int .i64 ns.length),(36,.int .i64 s.1),(9,.slice s.2.1 (xT (v6 ns) (ns.take s.1)).length s.2.2)])
    (λs=>slO 9 1 s.2.1 (xT (v6 ns) (ns.take s.1)).length s.2.2 ((xT (v6 ns) (ns.take s.1)).map str)::qt p d::qp M2::L) (λs=>s.1≤ns.length) (λs=>ns.length - s.1) (0,none,0) zt vj (by show 0≤_;omega) ?_
   rintro ⟨k,a3,c3⟩ hk;dsimp only at hk ⊢
   by_cases hlt:k<ns.length
   ·obtain ⟨n,hnk⟩:=qx hlt
    obtain ⟨b,o,rfl,hr⟩:=qI.cm (g:=sC) (λ_=>rfl) hs3 hnk rfl;have hgn:=hg n (jn hnk);have hol:xT (v6 ns) (ns.take (k+1))=xT (v6 ns) (ns.take k)++if yV (v6 ns) n then [n] else []:=by
     unfold xT;rw[qA hnk,jU];rw[kI,List.filter_nil]
    have hll:(xT (v6 ns) (ns.take k)).length≤16:=ke (kw _ _) (by rw[jP];omega);have hE2:=(hE.mono hl1).mono hl2;refine Q.r ?_;refine S.cr rfl (Qi 99 n (.inl rfl) hgn M2 _ hE2) ?_;rintro _ _ ⟨rfl,rfl⟩;refine Q.r ?_;refine S.cr rfl (Qi 108 n (.inr rfl) hgn M2 _ hE2) ?_;rintro _ _ ⟨rfl,rfl⟩;have hkind:(∃m,wI 99 n=some m∧wI 108 n=none∧n≠[116])∨(∃m,wI 99 n=none∧wI 108 n=some m∧n≠[116])∨(wI 99 n=none∧wI 108 n=none∧n=[116])∨(wI 99 n=none∧wI 108 n=none∧n≠[116]):=by
     rcases hgn with ⟨m,hm,rfl⟩|⟨m,hm,rfl⟩|rfl|rfl
     ·exact .inl ⟨m,Kg hm,yh zd,λh=>absurd (List.cons.inj h).1 zd⟩
     ·exact .inr (.inl ⟨m,yh zd,Kg hm,λh=>absurd (List.cons.inj h).1 zd⟩)
     ·exact .inr (.inr (.inl ⟨yh zd,yh zd,rfl⟩))
     ·exact .inr (.inr (.inr ⟨yh zd,yh zd,by decide⟩))
    rcases hkind with ⟨m,e1,e2,e3⟩|⟨m,e1,e2,e3⟩|⟨e1,e2,e3⟩|⟨e1,e2,e3⟩
    ·rw[e1,e2]
     dsimp only[Option.getD_some,Option.getD_none,Option.isSome_some,Option.isSome_none]
     by_cases hm:(m:Int)=v6 ns
     ·refine Q.r ?_
      have ho:yV (v6 ns) n=false:=by unfold yV;rw[e1,e2];simp[e3,hm]
      rw[ho,ja zd,jG] at hol;refine ⟨(k+1,a3,c3),⟨rfl,rfl,rfl,rfl,?_,trivial⟩,?_,by show k+1≤ns.length;omega,by show ns.length - (k+1)<ns.length - k;omega⟩
      ·show some (Value.slice a3 _ c3)=some (Value.slice a3 (xT (v6 ns) (ns.take (k+1))).length c3)
       rw[hol]
      ·show qi _ (slO 9 1 a3 (xT (v6 ns) (ns.take (k+1))).length c3 ((xT (v6 ns) (ns.take (k+1))).map str)::qt p d::qp M2::L)
       rw[hol];exact kZ _
     ·refine Q.r ?_;(repeat (intro b1;refine Q.r ?_))
      refine S.app rfl rfl (vG.sl vi.row zr zr) zr zo zo (λa7 c7=> ?_);refine Q.r ?_;have ho:yV (v6 ns) n=true:=by unfold yV;rw[e1,e2];simp[e3,hm]
      rw[ho,jb rfl] at hol;refine ⟨(k+1,a7,c7),⟨rfl,rfl,rfl,rfl,?_,trivial⟩,?_,by show k+1≤ns.length;omega,by show ns.length - (k+1)<ns.length - k;omega⟩
      ·show some (Value.slice a7 _ c7)=some (Value.slice a7 (xT (v6 ns) (ns.take (k+1))).length c7)
       rw[hol,jc];rfl
      ·show qi _ (slO 9 1 a7 (xT (v6 ns) (ns.take (k+1))).length c7 ((xT (v6 ns) (ns.take (k+1))).map str)::qt p d::qp M2::L)
       rw[hol,jc,jq];exact qi.drop (kZ _)
    ·rw[e1,e2]
     dsimp only[Option.getD_some,Option.getD_none,Option.isSome_some,Option.isSome_none]
     by_cases hm:(m:Int)=v6 ns
     ·refine Q.r ?_
      have ho:yV (v6 ns) n=false:=by unfold yV;rw[e1,e2];simp[e3,hm]
      rw[ho,ja zd,jG] at hol;refine ⟨(k+1,a3,c3),⟨rfl,rfl,rfl,rfl,?_,trivial⟩,?_,by show k+1≤ns.length;omega,by show ns.length - (k+1)<ns.length - k;omega⟩
      ·show some (Value.slice a3 _ c3)=some (Value.slice a3 (xT (v6 ns) (ns.take (k+1))).length c3)
       rw[hol]
      ·show qi _ (slO 9 1 a3 (xT (v6 ns) (ns.take (k+1))).length c3 ((xT (v6 ns) (ns.take (k+1))).map str)::qt p d::qp M2::L)
       rw[hol];exact kZ _
     ·refine Q.r ?_;(repeat (intro b1;refine Q.r ?_))
      refine S.app rfl rfl (vG.sl vi.row zr zr) zr zo zo (λa7 c7=> ?_);refine Q.r ?_;have ho:yV (v6 ns) n=true:=by unfold yV;rw[e1,e2];simp[e3,hm]
      rw[ho,jb rfl] at hol;refine ⟨(k+1,a7,c7),⟨rfl,rfl,rfl,rfl,?_,trivial⟩,?_,by show k+1≤ns.length;omega,by show ns.length - (k+1)<ns.length - k;omega⟩
      ·show some (Value.slice a7 _ c7)=some (Value.slice a7 (xT (v6 ns) (ns.take (k+1))).length c7)
       rw[hol,jc];rfl
      ·show qi _ (slO 9 1 a7 (xT (v6 ns) (ns.take (k+1))).length c7 ((xT (v6 ns) (ns.take (k+1))).map str)::qt p d::qp M2::L)
       rw[hol,jc,jq];exact qi.drop (kZ _)
    ·rw[e1,e2]
     dsimp only[Option.getD_some,Option.getD_none,Option.isSome_some,Option.isSome_none];refine Q.r ?_;(repeat (intro b1;refine Q.r ?_));refine S.app rfl rfl (vG.sl vi.row zr zr) zr zo zo (λa7 c7=> ?_);refine Q.r ?_;have ho:yV (v6 ns) n=true:=by unfold yV;rw[e1,e2];simp[e3]
     rw[ho,jb rfl] at hol;refine ⟨(k+1,a7,c7),⟨rfl,rfl,rfl,rfl,?_,trivial⟩,?_,by show k+1≤ns.length;omega,by show ns.length - (k+1)<ns.length - k;omega⟩
     ·show some (Value.slice a7 _ c7)=some (Value.slice a7 (xT (v6 ns) (ns.take (k+1))).length c7)
      rw[hol,jc];rfl
     ·show qi _ (slO 9 1 a7 (xT (v6 ns) (ns.take (k+1))).length c7 ((xT (v6 ns) (ns.take (k+1))).map str)::qt p d::qp M2::L)
      rw[hol,jc,jq];exact qi.drop (kZ _)
    ·rw[e1,e2]
     dsimp only[Option.getD_some,Option.getD_none,Option.isSome_some,Option.isSome_none];refine Q.r ?_;have ho:yV (v6 ns) n=false:=by unfold yV;rw[e1,e2];simp[e3]
     rw[ho,ja zd,jG] at hol;refine ⟨(k+1,a3,c3),⟨rfl,rfl,rfl,rfl,?_,trivial⟩,?_,by show k+1≤ns.length;omega,by show ns.length - (k+1)<ns.length - k;omega⟩
     ·show some (Value.slice a3 _ c3)=some (Value.slice a3 (xT (v6 ns) (ns.take (k+1))).length c3)
      rw[hol]
     ·show qi _ (slO 9 1 a3 (xT (v6 ns) (ns.take (k+1))).length c3 ((xT (v6 ns) (ns.take (k+1))).map str)::qt p d::qp M2::L)
      rw[hol];exact kZ _
   ·have hke:k=ns.length:=by omega
    subst hke;rw[jI];refine Q.r ?_;exact ⟨(a3,c3),zt,kZ _,trivial⟩
  ·rintro ⟨a3,c3⟩ _
   refine Q.r ?_;refine N.u rfl rfl (kZ _) ⟨a3,c3,M2,rfl,hl1.trans hl2,rfl⟩
end Go.Proofs.YtlnfjhiphlfkjaaGreatDoor
