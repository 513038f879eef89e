/- Walks of functions, and plain laws, that the last text rests on. No condition. -/
import Derived.Sort.AssemblyPlain
import Derived.Test.YtlnfjhiphlfkjaaGreatDoorPk03
set_option linter.unusedVariables false
set_option linter.unusedSimpArgs false
set_option linter.unusedSectionVars false
set_option maxHeartbeats 20000000
namespace Go.Proofs.YtlnfjhiphlfkjaaGreatDoor
open Go Go.SX
attribute [local irreducible] swp qq qL qJ vZ qh St qi qk vu qH
attribute [local irreducible] ar
abbrev lI :=Sort.ltInt
theorem Zh {a b:Nat}{d d':Array Int}(h:Sort.Below lI a b d)(hb:b≤d.size)(hp:Sort.PermIn a b d d'):Sort.Below lI a b d':=Sort.Below.permA Sort.permIn_all hb h hp
theorem jB2 (bk n c:Nat)(rs:List Value)(L:HL)(hn:n≤17592186044416):∀(k a b lim:Nat) (d:Array Int),b - a=k→d.size=n→a≤b→b≤n→lim≤1000→Sort.Below lI a b d→
  qh kY 186 [SV bk n c,.int .i64 a,.int .i64 b,.int .i64 lim] (AR bk d rs::L) (λv L'=>v=.tuple #[]∧∃e,L'=AR bk e rs::L∧Sort.PermIn a b d e∧Sort.SortedIn lI a b e):=by
 intro k
 induction k using Nat.strongRecOn with
 |_ k ih=>
 intro a b lim d hk hd hab hb hlim hbel;refine qg Tryz.func186 rfl rfl rfl ?_;refine Q.rn ?_;refine ql (σ:=Nat×Nat×Nat×Bool×Bool×Array Int) (λs=> [(0,SV bk n c),(1,.int .i64 s.1),(2,.int .i64 s.2.1),(3,.int .i64 s.2.2.1),(8,.bool s.2.2.2.1),(9,.bool s.2.2.2.2.1)]) (λs=>AR bk s.2.2.2.2.2 rs::L)
  (λs=>s.1≤s.2.1∧s.2.1≤n∧s.2.1 - s.1≤k∧s.2.2.1≤1000∧s.2.2.2.2.2.size=n∧Sort.Below lI s.1 s.2.1 s.2.2.2.2.2∧∀R,Sort.PermIn s.1 s.2.1 s.2.2.2.2.2 R→Sort.SortedIn lI s.1 s.2.1 R→Sort.PermIn a b d R∧Sort.SortedIn lI a b R)
  (λs=>s.2.1 - s.1) (a,b,lim,true,true,d) zt (kZ _) ⟨hab,hb,Nat.le_of_eq hk,hlim,hd,hbel,λR h1 h2=>⟨h1,h2⟩⟩ ?_
 rintro ⟨a1,b1,lm,wb,wp,e⟩ ⟨g1,g2,g3,g4,g5,g6,g7⟩;dsimp only at g1 g2 g3 g4 g5 g6 g7 ⊢
 by_cases h12:b1 - a1≤12
 ·refine Q.rn ?_
  refine S.cr rfl (VE bk n c a1 b1 e rs L g5 zo g2 zo) ?_;rintro _ _ ⟨rfl,rfl⟩;refine Q.rn ?_;have:=Sort.insertionSort_holds Sort.swo_ltInt e a1 b1 g1 zo;exact N.r0 RV.nil (kZ _) ⟨rfl,_,rfl,g7 _ this.1 this.2⟩
 by_cases hl0:lm=0
 ·subst hl0
  refine Q.rn ?_;refine S.cr rfl (ZN bk n c a1 b1 e rs L g5 zo g2 hn) ?_;rintro _ _ ⟨rfl,rfl⟩;refine Q.rn ?_;have:=Sort.heapSort_holds Sort.swo_ltInt e a1 b1 g1 zo;exact N.r0 RV.nil (kZ _) ⟨rfl,_,rfl,g7 _ this.1 this.2⟩
 refine Q.rn ?_;refine vo (σ:=Nat×Array Int) (λs=> [(0,SV bk n c),(1,.int .i64 a1),(2,.int .i64 b1),(3,.int .i64 s.1),(8,.bool wb),(9,.bool wp),(10,.int .i64 (b1 - a1:Nat))]) (λs=>AR bk s.2 rs::L) (λs=>s.1≤1000∧Sort.PermIn a1 b1 e s.2) ?_ ?_
 ·cases wb with
  |true=>
   refine Q.rn ?_
   first|refine N.tn ?_|skip
   exact ⟨(lm,e),zt,kZ _,g4,Sort.permIn_refl _ _ _⟩
  |false=>
   refine Q.rn ?_;refine S.cr rfl (VM bk n c a1 b1 e rs L g5 zo g2 hn) ?_;rintro _ _ ⟨rfl,rfl⟩;refine Q.rn ?_
   first|refine N.tn ?_|skip
   exact ⟨(lm - 1,_),zt,kZ _,by dsimp only;omega,Sort.breakPatterns_holds _ _ _ g1 zo⟩
 rintro ⟨l1,e1⟩ ⟨q1,q2⟩;dsimp only at q1 q2 ⊢;have q3:e1.size=n:=by rw[q2.1];exact g5
 refine Q.rn ?_;refine S.cr rfl (WP bk n c a1 b1 e1 rs L q3 zo g2 hn) ?_;rintro _ _ ⟨rfl,rfl⟩;have hcp:=Sort.choosePivot_holds Sort.ltInt e1 a1 b1 zo;generalize Sort.choosePivot Sort.ltInt e1 a1 b1=cp at hcp;obtain ⟨pv,hint⟩:=cp;dsimp only at hcp ⊢;refine Q.rn ?_;refine vo (σ:=Nat×Int×Array Int) (λs=> [(0,SV bk n c),(1,.int .i64 a1),(2,.int .i64 b1),(3,.int .i64 l1),(8,.bool wb),(9,.bool wp),(10,.int .i64 (b1 - a1:Nat)),(11,.int .i64 s.1),(12,.int .i64 s.2.1)]) (λs=>AR bk s.2.2 rs::L) (λs=>a1≤s.1∧s.1<b1∧Sort.PermIn a1 b1 e1 s.2.2) ?_ ?_
 ·by_cases hdec:jCE hint=2
  ·refine Q.rn ?_
   refine S.cr rfl (V4 bk n c a1 b1 e1 rs L q3 zo g2 hn) ?_;rintro _ _ ⟨rfl,rfl⟩;refine Q.rn ?_
   first|refine N.tn ?_|skip
   exact ⟨(b1 - 1 - (pv - a1),1,_),zt,kZ _,by dsimp only;omega,by dsimp only;omega,Sort.reverseRange_holds _ _ _ g1 zo⟩
  ·refine Q.rn ?_
   first|refine N.tn ?_|skip
   exact ⟨(pv,jCE hint,e1),zt,kZ _,hcp.1,hcp.2,Sort.permIn_refl _ _ _⟩
 clear hcp;rintro ⟨p,hh,e2⟩ ⟨p1,p2,p3⟩;dsimp only at p1 p2 p3 ⊢;have p4:e2.size=n:=by rw[p3.1];exact q3
 have p5:Sort.PermIn a1 b1 e e2:=Sort.permIn_trans _ _ _ a1 b1 q2 p3;have p6:Sort.Below lI a1 b1 e2:=Zh g6 zo p5;clear p3 q2 q3
 repeat (refine wE ?_)
 refine vo (σ:=Bool) (λs=> [(0,SV bk n c),(1,.int .i64 a1),(2,.int .i64 b1),(3,.int .i64 l1),(8,.bool wb),(9,.bool wp),(10,.int .i64 (b1 - a1:Nat)),(11,.int .i64 p),(68,.bool s)]) (λs=>AR bk e2 rs::L) (λs=>True) ?_ ?_
 ·cases wb with
  |false=>
   refine Q.rn ?_;exact ⟨_,zt,kZ _,trivial⟩
  |true=>
   cases wp with
   |false=>
    refine Q.rn ?_;exact ⟨_,zt,kZ _,trivial⟩
   |true=>
    refine Q.rn ?_;exact ⟨_,zt,kZ _,trivial⟩
 intro t68 _;refine vo (σ:=Array Int) (λs=> [(0,SV bk n c),(1,.int .i64 a1),(2,.int .i64 b1),(3,.int .i64 l1),(8,.bool wb),(9,.bool wp),(10,.int .i64 (b1 - a1:Nat)),(11,.int .i64 p)]) (λs=>AR bk s rs::L) (λs=>Sort.PermIn a1 b1 e s) ?_ ?_
 ·cases t68 with
  |false=>
   refine Q.rn ?_
   first|refine N.tn ?_|skip
   exact ⟨e2,zt,kZ _,p5⟩
  |true=>
   refine Q.rn ?_;refine S.cr rfl (Jt bk n c a1 b1 e2 rs L p4 zo g2 hn) ?_;rintro _ _ ⟨rfl,rfl⟩;have hpi:=Sort.partialInsertionSort_holds Sort.swo_ltInt e2 a1 b1 zo zo p6;have hpp:=Sort.permIn_trans _ _ _ a1 b1 p5 hpi.1
   cases hr:(Sort.partialInsertionSort Sort.ltInt e2 a1 b1).2 with
   |true=>
    refine Q.rn ?_;exact N.r0 RV.nil (kZ _) ⟨rfl,_,rfl,g7 _ hpp (hpi.2 hr)⟩
   |false=>
    refine Q.rn ?_
    first|refine N.tn ?_|skip
    exact ⟨_,zt,kZ _,hpp⟩
 clear p4 p5 p6;intro e3 p5;have p4:e3.size=n:=by rw[p5.1];exact g5
 have p6:Sort.Below lI a1 b1 e3:=Zh g6 zo p5
 repeat (refine wE ?_)
 refine vo (σ:=Bool) (λs=> [(0,SV bk n c),(1,.int .i64 a1),(2,.int .i64 b1),(3,.int .i64 l1),(8,.bool wb),(9,.bool wp),(10,.int .i64 (b1 - a1:Nat)),(11,.int .i64 p),(87,.bool s)]) (λs=>AR bk e3 rs::L) (λs=>s=(decide (a1>0)&& !lI e3[a1 - 1]! e3[p]!)) ?_ ?_
 ·by_cases ha0:0<a1
  ·refine Q.rn ?_
   refine Q.dgo [true] [12] [] [0,1,2,3,4,5,6,7,8,9,10,11,12,13,14] ?_;refine Q.rdn ?_;refine D.e rfl rfl rfl ?_;refine S.guard rfl ?_;refine S.cr rfl (wj _ _ _) ?_;rintro _ M ⟨rfl,rfl⟩;refine Q.rn ?_;refine Q.rdn ?_
   first|refine N.tn ?_|skip
   exact ⟨_,zt,kZ _,by simp[ha0]⟩
  ·refine Q.rn ?_
   refine Q.dgo [true] [12] [] [0,1,2,3,4,5,6,7,8,9,10,11,12,13,14] ?_;refine Q.rdn ?_
   first|refine N.tn ?_|skip
   exact ⟨_,zt,kZ _,by simp[ha0]⟩
 intro s hs
 cases s with
 |true=>
  symm at hs
  simp only[jF,jS,kL] at hs;refine Q.rn ?_;refine S.cr rfl (Q5 bk n c a1 b1 p e3 rs L p4 p1 p2 g2 hn) ?_;rintro _ _ ⟨rfl,rfl⟩
  cases hx:Sort.partitionEqual Sort.ltInt e3 a1 b1 p with
  |mk mid e4=>
  obtain ⟨r1,r2,r3,r4,r5⟩:=Sort.round_eq Sort.swo_ltInt (Sort.partitionEqual_holds Sort.ltInt) hs.1 p1 p2 zo p6 hs.2 hx;refine Q.rn ?_;refine ⟨(mid,b1,l1,wb,wp,e4),zt,kZ _,⟨by dsimp only;omega,g2,by dsimp only;omega,q1,by dsimp only;omega,r4,λR h1 h2=> ?_⟩,by dsimp only;omega⟩;have:=r5 R h1 h2;exact g7 R (Sort.permIn_trans _ _ _ a1 b1 p5 this.1) this.2
 |false=>
  clear hs;refine Q.rn ?_;refine S.cr rfl (YF bk n c a1 b1 p e3 rs L p4 p1 p2 g2 hn) ?_;rintro _ _ ⟨rfl,rfl⟩
  rcases hx:Sort.partition Sort.ltInt e3 a1 b1 p with ⟨mid,ap,e4⟩
  obtain ⟨r1,r2,r3,r4,r5,r6,r7⟩:=Sort.round_part Sort.swo_ltInt (Sort.partition_holds Sort.ltInt) p1 p2 zo p6 hx;refine Q.rn ?_
  by_cases hlt:mid - a1<b1 - mid
  ·refine Q.rn ?_
   refine S.cr rfl (ih (mid - a1) zo a1 mid l1 e4 rfl zo r1 zo q1 r4) ?_;rintro _ _ ⟨rfl,e5,rfl,u1,u2⟩;obtain ⟨w1,w2⟩:=r6 e5 u1 u2;refine Q.rn ?_;refine ⟨(mid+1,b1,l1,_,ap,e5),zt,kZ _,⟨by dsimp only;omega,g2,by dsimp only;omega,q1,by dsimp only;rw[u1.1];omega,w1,λR h1 h2=> ?_⟩,by dsimp only;omega⟩;have:=w2 R h1 h2;exact g7 R (Sort.permIn_trans _ _ _ a1 b1 p5 this.1) this.2
  ·refine Q.rn ?_
   refine S.cr rfl (ih (b1 - (mid+1)) zo (mid+1) b1 l1 e4 rfl zo zo g2 q1 r5) ?_;rintro _ _ ⟨rfl,e5,rfl,u1,u2⟩;obtain ⟨w1,w2⟩:=r7 e5 u1 u2;refine Q.rn ?_;refine ⟨(a1,mid,l1,_,ap,e5),zt,kZ _,⟨r1,by dsimp only;omega,by dsimp only;omega,q1,by dsimp only;rw[u1.1];omega,w1,λR h1 h2=> ?_⟩,by dsimp only;omega⟩;have:=w2 R h1 h2;exact g7 R (Sort.permIn_trans _ _ _ a1 b1 p5 this.1) this.2
end Go.Proofs.YtlnfjhiphlfkjaaGreatDoor
namespace Go.Proofs.YtlnfjhiphlfkjaaGreatDoor
open Go Go.SX
attribute [local irreducible] swp qq qL qJ vZ qh St qi qk vu qH
def vq (xs:List Int):List Int:=xs.mergeSort λx y=>decide (x≤y)
theorem vE (xs:List Int):(vq xs).Perm xs:=List.mergeSort_perm _ _
theorem wV (xs:List Int):(vq xs).length=xs.length:=(vE xs).length_eq
theorem xc (xs:List Int):(vq xs).Pairwise (· ≤ ·):=by
 have:=List.pairwise_mergeSort (le:=λx y:Int=>decide (x≤y)) (λa b c h1 h2=>by simp at*;omega) (λa b=>by simp;omega) xs;exact this.imp λh=>by simpa using h
theorem yB :∀{l1 l2:List Int},l1.Perm l2→l1.Pairwise (· ≤ ·)→l2.Pairwise (· ≤ ·)→l1=l2
 | [],l2,h,_,_=>by simpa using h
 |x::l1,[],h,_,_=>by simp at h
 |x::l1,y::l2,h,h1,h2=>by
  have hx:x∈y::l2:=h.subset (by simp);have hy:y∈x::l1:=h.symm.subset (by simp);have e:x=y:=by
   rcases j9.1 hx with e|hx
   ·exact e
   ·rcases j9.1 hy with e|hy
    ·exact e.symm
    ·have a:=(kH.1 h2).1 x hx
     have b:=(kH.1 h1).1 y hy;omega
  subst e;rw[yB ((List.perm_cons x).1 h) (kH.1 h1).2 (kH.1 h2).2]
theorem gk {xs ys:List Int}(h:xs.Perm ys):vq xs=vq ys:=yB ((vE xs).trans (h.trans (vE ys).symm)) (xc _) (xc _)
theorem VD (sv:Value)(L:HL):qh kY 221 [sv,.int .i64 (0:Nat),.int .i64 (0:Nat)] L (λv L'=>v=.tuple #[]∧L'=L):=by
 refine qg Tryz.func221 rfl rfl rfl ?_;refine Q.rn ?_;refine ql (σ:=Unit) (λs=> [(2,.int .i64 (0:Nat)),(6,.int .i64 (1:Nat))]) (λs=>L) (λs=>True) (λs=>0) () zt (kZ _) trivial ?_;intro _ _;refine Q.rn ?_;exact N.n0 RV.nil (kZ _) ⟨rfl,rfl⟩
theorem jB1 (sv:Value)(lim:Nat)(L:HL):qh kY 186 [sv,.int .i64 (0:Nat),.int .i64 (0:Nat),.int .i64 lim] L (λv L'=>v=.tuple #[]∧L'=L):=by
 refine qg Tryz.func186 rfl rfl rfl ?_;refine Q.rn ?_;refine ql (σ:=Unit) (λs=> [(0,sv),(1,.int .i64 (0:Nat)),(2,.int .i64 (0:Nat))]) (λs=>L) (λs=>True) (λs=>0) () zt (kZ _) trivial ?_;intro _ _;refine Q.rn ?_;refine S.cr rfl (VD _ _) ?_;rintro _ _ ⟨rfl,rfl⟩;refine Q.rn ?_;exact N.r0 RV.nil (kZ _) ⟨rfl,rfl⟩
theorem cA {k:IntKind}{d:Array Int}{rs:List Value}:ar k d rs=d.toList.map (Value.int k)++rs:=rfl
theorem jAP (a:OA)(m c:Nat)(xs:List Int)(L:HL)(hm:m=xs.length)(hn:m≤17592186044416):
  qh kY 132 [.slice a m c] (slO 31 1 a m c (xs.map U64)::L) (λv L'=>v=.tuple #[]∧L'=slO 31 1 a m c ((vq xs).map U64)::L):=by
 have hu:IntKind.u64.wrap (m:Int)=(m:Int):=wrap_u64 zo zo;have hl:Sort.bitsLen m≤45:=(Sort.bitsLen_le_iff m 45).2 zo
 by_cases h0:m=0
 ·have hx:xs=[]:=jO zo
  subst hx;have hs:vq []=[]:=by simp[vq]
  rw[hs];refine qg Tryz.func132 rfl rfl rfl ?_;refine Q.rn ?_;refine S.y (Y.cvi rfl) ?_;rw[hu];refine Q.rn ?_;refine S.cr rfl (QE m zo _) ?_;rintro _ _ ⟨rfl,rfl⟩;subst h0;refine S.cr rfl (jB1 _ (Sort.bitsLen 0) _) ?_;rintro _ _ ⟨rfl,rfl⟩;refine Q.rn ?_;exact N.n0 RV.nil (kZ _) ⟨rfl,rfl⟩
 refine qh.slO zo λb rest ha hmc hlen=> ?_
 subst ha;refine qg Tryz.func132 rfl rfl rfl ?_;refine Q.rn ?_;refine S.y (Y.cvi rfl) ?_;rw[hu];refine Q.rn ?_;refine S.cr rfl (QE m zo _) ?_;rintro _ _ ⟨rfl,rfl⟩;have hd:xs.toArray.size=m:=by simp[hm]
 refine S.cr rfl (jB2 b m c rest _ hn m 0 m (Sort.bitsLen m) xs.toArray zo hd zo (jz _) zo (.inl rfl)) ?_;rintro _ _ ⟨rfl,e,rfl,h1,h2⟩;have he:e.toList=vq xs:=by
  have:=Sort.sorted_unique_holds (lt:=Sort.ltInt) Sort.swo_ltInt (λx y h1 h2=>by simp[Sort.ltInt] at h1 h2;omega) xs.toArray e (by rw[hd];exact h1) (by rw[hd];exact h2);rw[this];unfold vq
  congr 1
  funext x y
  simp[Sort.ltInt]
  by_cases h:x≤y<;>simp[h]<;>omega
 refine Q.rn ?_;refine N.n0 RV.nil ?_ ⟨rfl,rfl⟩;have hen:(ar .u64 e rest)=(vq xs).map U64++rest:=by rw[cA,he]
 unfold AR;rw[hen];exact slO_shut (by simp[wV,hm]) hmc (by simpa[wV] using hlen)
theorem Xs (gf:FuncId)(lb:List Value)[he:qj kY gf](ks:List Int)(A A':HL)(hk:ks.length≤17592186044416)(hseq:Wo kY gf lb U64 ks.length (λxs=>xs.Perm ks) A A'):
  qh kY 66 [.func (.func gf) #[] lb.toArray] A (λv L'=>∃a c,v=.slice a ks.length c∧L'=slO 31 1 a ks.length c ((vq ks).map U64)::A'):=by
 refine qg Tryz.func66 rfl rfl rfl ?_;refine Q.r ?_;refine S.cr rfl (fK gf lb _ A A' (hseq.mono hk)) ?_;rintro _ _ ⟨xs,a,c,hp,rfl,rfl⟩;have hl:=hp.length_eq;refine Q.r ?_;refine S.cr rfl (jAP a xs.length c xs A' rfl zo) ?_;rintro _ _ ⟨rfl,rfl⟩;rw[gk hp,hl];refine Q.r ?_;exact N.t rfl (kZ _) ⟨a,c,rfl,rfl⟩
def WL (k:Nat)(ops:VL):VL:=(ops.take k).map λo=>(o.1,o.2.take 10)
theorem lG {n:Nat}{l:VL}(h:l.length≤n):WL n l=l.map λo=>(o.1,o.2.take 10):=by unfold WL;rw[kK h]
theorem jA8 (n:Nat)(a:OA)(c:Nat)(ops:List OV)(A:HL)(h:RdO A a ops)(hc:∀o∈ops,o.vec.length≤o.c)(hn:ops.length≤9223372036854775807)(hnn:n≤1000000):
  qh kY 106 [.slice a ops.length c,.int .i64 n] A (λv L'=>∃(a':OA) (c':Nat) (us:List OV),us.map OV.abs=WL n (ops.map OV.abs)∧(∀o∈us,o.vec.length=0∨∃b,o.a=some ⟨b,0,none⟩)∧v=.slice a' us.length c'∧L'=slO 38 2 a' us.length c' (us.flatMap OV.cells)::Jx us::A):=by
 refine qg Tryz.func106 rfl rfl rfl ?_;refine Q.r ?_;refine ql (σ:=Nat×OA×Nat×List OV) (λs=> [(1,.int .i64 n),(8,.slice a ops.length c),(9,.int .i64 ops.length),(5,.slice s.2.1 s.2.2.2.length s.2.2.1),(10,.int .i64 s.1)])
  (λs=>slO 38 2 s.2.1 s.2.2.2.length s.2.2.1 (s.2.2.2.flatMap OV.cells)::Jx s.2.2.2::A)
  (λs=>s.1≤ops.length∧s.2.2.2.map OV.abs=WL n ((ops.take s.1).map OV.abs)∧∀o∈s.2.2.2,o.vec.length=0∨∃b,o.a=some ⟨b,0,none⟩) (λs=>ops.length - s.1) (0,none,0,[]) zt ?_ ⟨by omega,by simp[WL],by simp⟩ ?_
 ·exact qi.trans (qi.trans l7 vj) (kZ _)
 rintro ⟨k,a3,c3,us⟩ ⟨hk,hus,hua⟩;dsimp only at hk hus hua ⊢;have hul:us.length=min n k:=by
  have:=jj List.length hus
  simp[WL] at this;omega
 by_cases hlt:k<ops.length
 ·obtain ⟨o,ho⟩:=qx hlt
  have hmo:o∈ops:=jn ho;obtain ⟨b,oo,hia,hr⟩:=qY.elem (g:=OV.cells) (λ_=>rfl) h.1 ho rfl;rw[hia]
  repeat (first|(refine GQ.y ?_;refine Q.y ?_)|refine Q.go ?_|(refine GQ.g ?_;refine Q.gq ?_)|(refine GQ.s ?_;refine Q.st ?_)|(refine GQ.a ?_;refine Q.al (λb1=> ?_)))
  by_cases hkn:k<n
  ·refine Q.r ?_;(repeat (intro b1;refine Q.r ?_))
   refine Q.dgo [true,false,false] [5,7,8] [] [0,1,2,3,4,5,6,7,8,9] ?_;refine Q.rd ?_;refine D.e rfl rfl rfl ?_;refine S.cr rfl (QG o.a o.c 10 o.vec _ ((h.2 o hmo).sub) (hc o hmo) zo) ?_;rintro _ _ ⟨a',c',rfl,rfl⟩;refine qZ a' (λha'=> ?_);refine Q.r ?_;refine Q.rd ?_;(repeat (intro b1;refine Q.rd ?_));refine D.e rfl rfl rfl ?_;refine S.app rfl rfl (vG.sl vi.row zr zr) zr zo zo (λa4 c4=> ?_);refine Q.r ?_;refine Q.rd ?_;refine Q.r ?_;refine ⟨(k+1,a4,c4,us++[⟨o.id,a',c',o.vec.take 10⟩]),⟨rfl,rfl,rfl,jj some (by simp),rfl,trivial⟩,?_,⟨by dsimp only;omega,?_,?_⟩,by dsimp only;omega⟩
   ·dsimp only
    rw[qG,vK];refine qi.pick (qi.trans ?_ (Z5 (o:=⟨o.id,a',c',o.vec.take 10⟩) rfl));exact eG
   ·dsimp only
    rw[jq,hus,lG (l:=(ops.take k).map OV.abs) (by simp;omega),lG (l:=(ops.take (k+1)).map OV.abs) (by simp;omega),qA ho,jq,jq];rfl
   ·intro u hu
    rcases jy.1 hu with hu|hu
    ·exact hua u hu
    ·obtain rfl:=ji.1 hu
     exact ha'
  ·refine Q.r ?_;(repeat (intro b1;refine Q.r ?_))
   refine ⟨(k+1,a3,c3,us),zt,by exact eG,⟨by dsimp only;omega,?_,hua⟩,by dsimp only;omega⟩;dsimp only;rw[hus];unfold WL;rw[←List.map_take,←List.map_take,List.take_take,List.take_take,show min n k=min n (k+1) by omega]
 ·have hke:k=ops.length:=by omega
  subst hke;rw[jI] at hus;refine Q.r ?_;exact N.t rfl eG ⟨a3,c3,us,hus,hua,rfl,rfl⟩
structure EV where
 id:Int
 a:OA
 c:Nat
 vs:List OV
abbrev EV.cells (e:EV):List Value:=[.int .u64 e.id,.slice e.a e.vs.length e.c]
abbrev EV.abs (e:EV):Int×VL:=(e.id,e.vs.map OV.abs)
def okE (M:OM)(e:EV):Prop:=qI M e.a e.vs.length 2 (e.vs.flatMap OV.cells)∧okR M e.vs
theorem okE.mono {M M':OM}{e:EV}(h:okE M e)(hl:qV M M'):okE M' e:=⟨h.1.mono hl,λo ho=>(h.2 o ho).mono hl⟩
structure ROK (M:OM)(st:VS)(a:OA)(c:Nat)(es:List EV)(a':OA)(c':Nat)(is:List IV):Prop where
 ch:(es.map EV.abs).Perm st.ch
 cs:(es.map (·.id)).Pairwise (· < ·)
 its:(is.map IV.abs).Perm st.its
 ss:(is.map (·.txn)).Pairwise (· < ·)
 oe:∀e∈es,okE M e
 oi:∀i∈is,okI M i
 sE:qI M a es.length 2 (es.flatMap EV.cells)
 sI:qI M a' is.length 3 (is.flatMap IV.cells)
 cE:es.length≤c
 cI:is.length≤c'
 k1:qm st.ch
 k2:qm st.its
 oc:∀i∈is,∀o∈i.ops,o.vec.length≤o.c
structure RX where
 a:OA
 c:Nat
 es:List EV
 a':OA
 c':Nat
 is:List IV
 M:OM
section
variable {n : Nat} {ops rest : List Oper} {cd : Code} {Q : vm} {f : vL} {L L0 : HL} {st : VS}
end
theorem Xt (a:OA)(c:Nat)(xs:List Int)(A:HL)(h:qY A a xs.length 1 (xs.map zC))(hn:xs.length≤4611686018427387904):
  qh kY 116 [.slice a xs.length c] A (λv L'=>v=.bool (wQ xs)∧L'=A):=by
 refine qg Tryz.func116 rfl rfl rfl ?_;unfold wQ;refine Q.r ?_;refine ql (σ:=Nat) (λk=> [(0,.slice a xs.length c),(5,.slice a xs.length c),(6,.int .i64 xs.length),(7,.int .i64 k)]) (λ_=>A)
  (λk=>k≤xs.length∧(xs.take k).any VN=false) (λk=>xs.length - k) 0 zt (kZ _) ⟨by omega,by simp⟩ ?_
 rintro k ⟨hk,hany⟩
 by_cases hlt:k<xs.length
 ·obtain ⟨x,hx⟩:=qx hlt
  have hmx:x∈xs:=jn hx;obtain ⟨b,o,rfl,hr⟩:=qY.elem (g:=cI) (l:=xs) (λ_=>rfl) (by rw[d6];exact h) hx rfl
  by_cases h1:268435456<x
  ·have hb:VN x=true:=by simp[VN];omega
   refine Q.r ?_;exact N.t rfl (kZ _) ⟨by rw[show xs.any VN=true from ku.2 ⟨x,hmx,hb⟩];simp,rfl⟩
  by_cases h2:x< -268435456
  ·have hb:VN x=true:=by simp[VN];omega
   refine Q.r ?_;exact N.t rfl (kZ _) ⟨by rw[show xs.any VN=true from ku.2 ⟨x,hmx,hb⟩];simp,rfl⟩
  ·have hb:VN x=false:=by simp[VN];omega
   refine Q.r ?_;exact ⟨k+1,zt,kZ _,⟨by omega,by rw[qA hx,kW,hany,kX,hb];rfl⟩,by omega⟩
 ·have hke:k=xs.length:=by omega
  subst hke;rw[jI] at hany;rw[hany]
  by_cases h0:0<xs.length
  ·by_cases h8:xs.length≤8
   ·refine Q.r ?_
    exact N.t rfl (kZ _) ⟨by simp[h0,h8];try omega,rfl⟩
   ·refine Q.r ?_
    exact N.t rfl (kZ _) ⟨by simp[h0,h8];try omega,rfl⟩
  ·refine Q.r ?_
   exact N.t rfl (kZ _) ⟨by simp[h0],rfl⟩
theorem bY {α:Type}{g:α→List Value}{sz:Nat}(hg:∀x,(g x).length=sz):∀(l:List α) (k:Nat),(l.flatMap g).drop (k*sz)=(l.drop k).flatMap g
 | [],k=>by simp
 |x::l,0=>by simp
 |x::l,k+1=>by
  rw[jK,List.drop_succ_cons,←bY hg l k,Nat.add_mul,Nat.one_mul,Nat.add_comm,←hg x,List.drop_length_add_append]
theorem vp {κ α:Type}[DecidableEq κ]{m:List (κ×α)}(h:qm m){x:κ}{a:α}:qE m x=some a↔(x,a)∈m:=by
 refine ⟨vM,λhm=> ?_⟩
 rcases wJ m h x with ⟨p,b,q,rfl,hp,hq⟩|hn
 ·rw[JJ hp]
  rcases jy.1 hm with hm|hm
  ·exact absurd rfl (hp _ hm)
  rcases j9.1 hm with hm|hm
  ·cases hm;rfl
  ·exact absurd rfl (hq _ hm)
 ·exact absurd rfl (hn _ hm)
theorem bD {α:Type}{key:α→Int}{l:List α}(h:(l.map key).Pairwise (· < ·))(p:α→Bool):((l.filter p).map key).Pairwise (· < ·):=by
 rw[List.pairwise_map] at h ⊢;exact h.filter p
theorem ROK.len {M:OM}{st:VS}{a a':OA}{c c':Nat}{es:List EV}{is:List IV}(h:ROK M st a c es a' c' is):is.length=st.its.length∧es.length=st.ch.length:=by
 have h1:=h.its.length_eq;have h2:=h.ch.length_eq
 simp at h1 h2
 exact ⟨h1,h2⟩
end Go.Proofs.YtlnfjhiphlfkjaaGreatDoor
namespace Go.SX
open Go
theorem X4 {t sz m c:Nat}{a:OA}{cs:List Value}{L:HL}:qi (slO t sz a m c cs::L) (wT (m≤c)::slO t sz a m c cs::L):=λw F H=>by
 have hc:m≤c:=K2.cap (a:=a) (L:=slO t sz a m c cs::L) inferInstance H;have e:qi (slO t sz a m c cs::L) (wT (m≤c)::slO t sz a m c cs::L):=qi.shut_pure hc;exact e w F H
end Go.SX
theorem Go.SX.RV.c {P:Go.Program}{n:Nat}{rs:List Go.ResultVar}{f:Go.SX.vL}{L:List Go.SX.HP}{l:List Go.Value}(h:Go.SX.RV P n rs f L l:=by apply Go.SX.RV.cellN;rfl;exact Go.SX.vi.row;rfl;exact Go.SX.RV.nil):Go.SX.RV P n rs f L l:=h
namespace Go.Proofs.YtlnfjhiphlfkjaaGreatDoor
open Go Go.SX
attribute [local irreducible] swp qq qL qJ vZ qh St qi qk vu qH
theorem jAl {κ α:Type}[DecidableEq κ]{m:List (κ×α)}(h:qm m){x:κ}(a:α)(hx:qE m x=none):qm (m++[(x,a)]):=by
 have hn:=hU hx;unfold qm;rw[jq,List.nodup_append];refine ⟨h,by simp,λy hy z hz=> ?_⟩
 simp at hz
 subst hz;obtain ⟨u,hu,rfl⟩:=jM.1 hy;exact hn u hu
theorem sZ {L L0:HL}{M:OM}[hp:xw L M L0]:∀us:List OV,qi (Jx us::L) (d9 (λM'=>yA [wT (qV M M'∧okR M' us∧∀o∈us,o.vec.length≤o.c),qp M'])::L0):=by
 intro us
 induction us generalizing M L with
 |nil=>
  refine qi.drop (hp.ent.trans ?_);refine qi.trans ?_ (qi.shut_ex M);refine qi.trans ?_ qi.shut_all;exact qi.shut_pure ⟨qV.refl M,λo ho=>by (cases ho),λo ho=>by (cases ho)⟩
 |cons o us ih=>
  have h1:qi (Jx (o::us)::L) (slO 21 1 o.a o.vec.length o.c (o.vec.map zC)::Jx us::L):=by
   unfold Jx;exact jAF (p:=[]) (by simp)
  refine h1.trans (X4.trans (qi.pure λhc=> ?_));have hp2:xw (Jx us::L) M (Jx us::L0):=inferInstance;refine (qi.absorb (h:=hp2)).trans ?_;refine qi.ex λM1=>qi.open_all.trans (qi.pure λhs=> ?_)
  refine qi.trans (qi.perm (.swap _ _ _)) ?_;refine (ih (M:=M1) (L:=qp M1::L0) (hp:=inferInstance)).trans ?_;refine qi.ex λM2=>qi.open_all.trans (qi.pure λhs2=> ?_)
  refine qi.trans ?_ (qi.shut_ex M2);refine qi.trans ?_ qi.shut_all;refine qi.shut_pure ⟨hs.1.trans hs2.1,λu hu=> ?_,λu hu=> ?_⟩
  ·rcases j9.1 hu with rfl|hu
   ·exact hs.2.mono hs2.1
   ·exact hs2.2.1 u hu
  ·rcases j9.1 hu with rfl|hu
   ·exact hc
   ·exact hs2.2.2 u hu
theorem jC4 {dim:Int}{ops:VL}(h:vP dim ops=0):1≤dim∧dim≤8∧1≤ops.length∧ops.length≤16∧(ops.map (·.1)).Nodup∧∀o∈ops,o.2.length≤8∧(0<o.2.length→wQ o.2=true):=by
 unfold vP at h
 by_cases h1:dim<1∨8<dim
 ·rw[jb h1] at h;cases h
 rw[ja h1] at h
 by_cases h3:ops.length=0
 ·rw[jb h3] at h;cases h
 rw[ja h3] at h
 by_cases h4:16<ops.length
 ·rw[jb h4] at h;cases h
 rw[ja h4] at h
 by_cases h5:ops.any (Jm dim)=true
 ·rw[jb h5] at h;cases h
 rw[ja h5] at h
 by_cases h6:(ops.map (·.1)).Nodup
 ·refine ⟨by omega,by omega,by omega,by omega,h6,λo ho=> ?_⟩
  have hb:Jm dim o=false:=by
   cases hb:Jm dim o with
   |false=>rfl
   |true=>exact absurd (ku.2 ⟨o,ho,hb⟩) h5
  unfold Jm at hb;simp only[Bool.or_eq_false_iff,Bool.and_eq_false_iff,j5,Bool.not_eq_false',Decidable.not_not] at hb;obtain ⟨_,hb⟩:=hb
  rcases hb with hb|hb
  ·exact ⟨by omega,λh=>absurd h hb⟩
  ·exact ⟨by omega,λ_=>hb.1⟩
 ·rw[ja h6] at h;cases h
def Q4 (a:OA)(c l sz:Nat):OA:=if l=0 then a else a.map λad=>⟨ad.block,if c=l then ad.off else ad.off+l*sz,ad.spot⟩
section
variable {P : Program} {n : Nat} {ops : List Oper} {f : vL} {A : HL} {d : Tmp} {ty : TypeId} {pos : String} {af : Array Edge}
theorem Y.slFa {x lo:Operand}{t e:TypeId}{a:OA}{m c sz bts l:Nat}{ag:Bool}{zs:List Value}{i:Int}{kl:IntKind}[hs:wS P t e][h2:Ty P e ag sz zs bts](hx:ev f x=some (.slice a m c))
  (hl:ev f lo=some (.int kl i)) (el:i=(l:Int)) (h1:l≤m) (ha:m=0∨∃b o,a=some ⟨b,o,none⟩):qk P n ops ⟨some d,.slice t x (some lo) none none,ty,pos,af,none⟩ f A (.slice (Q4 a c l sz) (m - l) (c - l)):=by
 by_cases h0:l=0
 ·subst h0
  unfold Q4;rw[jb rfl,Nat.sub_zero,Nat.sub_zero]
  cases a with
  |none=>
   rcases ha with rfl|⟨b,o,h⟩
   ·exact Y.slFn (hs:=hs) (h2:=h2) hx hl el
   ·cases h
  |some ad=>
   refine Y.of (λac w s=> ?_);subst el;have e1:∀ad:Addr,ad.add 0=ad:=λ_=>rfl
   by_cases hc:c=0<;>simp[execOp,s.eval hx,s.eval hl,Instr.sliceAt,hs.und,Instr.slice,Instr.sliceBounds,h2.size,Instr.sliceBound,asIntOf,hc,e1]
 ·rcases ha with rfl|⟨b,o,rfl⟩
  ·omega
  ·unfold Q4
   rw[ja h0];exact Y.slF (hs:=hs) (h2:=h2) hx hl el h1
end
theorem qI.at {M:OM}{a:OA}{m sz:Nat}{cs:List Value}(h:qI M a m sz cs):m=0∨∃b o,a=some ⟨b,o,none⟩:=by
 have:=h.rd (L:=[qp M])
 rcases this.2 with h3|⟨b,o,h3,_⟩
 ·exact .inl h3
 ·exact .inr ⟨b,o,h3⟩
def XM (es:List EV)(nw:EV):List EV:=es.filter (λe=>decide (e.id<nw.id))++nw::es.filter (λe=>decide (nw.id<e.id))
theorem YX {κ α:Type}[DecidableEq κ]{m:List (κ×α)}(h:qm m):m.Nodup:=by
 unfold qm at h;rw[List.nodup_iff_pairwise_ne,List.pairwise_map] at h;rw[List.nodup_iff_pairwise_ne];exact h.imp λh1 h2=>h1 (by rw[h2])
theorem ph {m:List (Int×VL)}(h:(m.map (·.1)).Pairwise (· < ·)):qm m:=by
 unfold qm;rw[List.nodup_iff_pairwise_ne];exact h.imp λh1 h2=>by omega
theorem Xm {es:List EV}{nw:EV}(hs:(es.map (·.id)).Pairwise (· < ·)):((XM es nw).map (·.id)).Pairwise (· < ·):=by
 unfold XM;rw[jq,jL,List.pairwise_append];refine ⟨bD hs _,kH.2 ⟨λy hy=> ?_,bD hs _⟩,λx hx y hy=> ?_⟩
 ·obtain ⟨u,hu,rfl⟩:=jM.1 hy
  have h1:=(jB.1 hu).2
  simpa using h1
 ·obtain ⟨u,hu,rfl⟩:=jM.1 hx
  have h1:=(jB.1 hu).2
  simp at h1
  rcases j9.1 hy with rfl|hy
  ·exact h1
  ·obtain ⟨w,hw,rfl⟩:=jM.1 hy
   have h3:=(jB.1 hw).2
   simp at h3;omega
theorem lv {es:List EV}{nw e:EV}(h:e∈XM es nw):e=nw∨e∈es∧e.id≠nw.id:=by
 unfold XM at h
 rcases jy.1 h with h|h
 ·have h1:=jB.1 h
  have h2:=h1.2
  simp at h2
  exact .inr ⟨h1.1,by omega⟩
 rcases j9.1 h with h|h
 ·exact .inl h
 ·have h1:=jB.1 h
  have h2:=h1.2
  simp at h2
  exact .inr ⟨h1.1,by omega⟩
theorem bU {es:List EV}{nw e:EV}(h:e=nw∨e∈es∧e.id≠nw.id):e∈XM es nw:=by
 unfold XM
 rcases h with rfl|⟨h1,h2⟩
 ·simp
 ·by_cases h3:e.id<nw.id
  ·exact List.mem_append_left _ (jB.2 ⟨h1,by simpa using h3⟩)
  ·refine List.mem_append_right _ (jV _ (jB.2 ⟨h1,?_⟩))
   simp;omega
theorem YT {es:List EV}:(es.map EV.abs).map (·.1)=es.map (·.id):=by rw[kE];rfl
theorem jAn {es:List EV}{nw:EV}{ch:List (Int×VL)}(hp:(es.map EV.abs).Perm ch)(hk:qm ch)(hs:(es.map (·.id)).Pairwise (· < ·)):((XM es nw).map EV.abs).Perm (qN ch nw.id (nw.vs.map OV.abs)):=by
 have k1:qm ((XM es nw).map EV.abs):=ph (by rw[YT];exact Xm hs);have k2:=vy hk nw.id (nw.vs.map OV.abs);rw[List.perm_ext_iff_of_nodup (YX k1) (YX k2)];rintro ⟨x,w⟩;rw[←vp k2,wa hk]
 constructor
 ·intro h
  obtain ⟨e,he,h2⟩:=jM.1 h;clear h
  rcases lv he with rfl|⟨he1,he2⟩
  ·have hx:x=e.id:=(jj Prod.fst h2).symm
   have hx2:w=e.vs.map OV.abs:=(jj Prod.snd h2).symm;rw[jb hx,hx2]
  ·have hm:(x,w)∈ch:=hp.mem_iff.1 (by rw[←h2];exact jA he1)
   have hx:x=e.id:=(jj Prod.fst h2).symm;rw[ja (by rw[hx];exact he2)];exact (vp hk).2 hm
 ·intro h
  by_cases hx:x=nw.id
  ·rw[jb hx] at h
   cases h
   rw[hx];exact jA (f:=EV.abs) (bU (.inl rfl))
  ·rw[ja hx] at h
   obtain ⟨e,he,h2⟩:=jM.1 (hp.mem_iff.2 ((vp hk).1 h));rw[←h2];refine jA (f:=EV.abs) (bU (.inr ⟨he,?_⟩));have:x=e.id:=(jj Prod.fst h2).symm;rw[←this];exact hx
theorem ROK.put {M:OM}{st:VS}{a a':OA}{c c':Nat}{es:List EV}{is:List IV}(h:ROK M st a c es a' c' is){M2:OM}(hl:qV M M2){a2:OA}{c2:Nat}{nw:EV}(hnw:okE M2 nw)
  (hs:qI M2 a2 (XM es nw).length 2 ((XM es nw).flatMap EV.cells)) (hc:(XM es nw).length≤c2):ROK M2 {st with ch:=qN st.ch nw.id (nw.vs.map OV.abs)} a2 c2 (XM es nw) a' c' is:=
 ⟨jAn h.ch h.k1 h.cs,Xm h.cs,h.its,h.ss,λe he=>by
  rcases lv he with rfl|⟨he,_⟩
  ·exact hnw
  ·exact (h.oe e he).mono hl,λi hi=>(h.oi i hi).mono hl,hs,h.sI.mono hl,hc,h.cI,vy h.k1 _ _,h.k2,h.oc⟩
theorem Xc {vs:VL}(h:vS vs):∀v∈vs,v.1≤Jh vs:=by
 intro v hv;unfold Jh
 cases hg:vs.getLast? with
 |none=>rw[List.getLast?_eq_none_iff] at hg;subst hg;cases hv
 |some l=>
  rw[List.getLast?_eq_some_iff] at hg;obtain ⟨p,rfl⟩:=hg;unfold vS at h;rw[jq,List.pairwise_append] at h
  rcases jy.1 hv with hv|hv
  ·have:=h.2.2 v.1 (jA hv) l.1 (by simp)
   simp;omega
  ·obtain rfl:=ji.1 hv
   simp
def KK (vs:VL)(s:Int):Nat:=if yk vs s=0 then 0 else if 0<(((vs[yk vs s - 1]?).map (·.2)).getD []).length then yk vs s - 1 else yk vs s
abbrev GL :=List (Int×Int)
def W9 (s:Int)(u:List (Int×VL)×GL)(id:Int):List (Int×VL)×GL:=
 (if ((xe u.1 id).drop (KK (xe u.1 id) s)).length=0 then qO u.1 id else qN u.1 id ((xe u.1 id).drop (KK (xe u.1 id) s)),u.2++((xe u.1 id).take (KK (xe u.1 id) s)).map λv=>(id,v.1))
def swF (s:Int)(ks:List Int)(ch:List (Int×VL)):List (Int×VL)×GL:=ks.foldl (W9 s) (ch,[])
def Vc (ch:List (Int×VL)):List Int:=vq (ch.map (·.1))
def wO (st:VS)(s:Int):VS:=if min s 1099511627776≤st.mark then st else {st with mark:=min s 1099511627776,ch:=(swF (min s 1099511627776) (Vc st.ch) st.ch).1}
theorem dW {κ α:Type}[DecidableEq κ]{m:List (κ×α)}(x y:κ)(h:y≠x):qE (qO m x) y=qE m y:=by
 unfold qE qO;rw[List.find?_filter]
 congr 2
 funext u
 by_cases hu:u.1=y
 ·have:u.1≠x:=λe=>h (by rw[←hu,e])
  simp[hu,h]
 ·simp[hu]
theorem Yr {s:Int}{u:List (Int×VL)×GL}(h:qm u.1)(id:Int):qm (W9 s u id).1:=by
 unfold W9;dsimp only
 split
 ·exact yo h id
 ·exact vy h _ _
theorem jFT {s:Int}{u:List (Int×VL)×GL}(h:qm u.1){id x:Int}(hx:x≠id):qE (W9 s u id).1 x=qE u.1 x:=by
 unfold W9;dsimp only
 split
 ·exact dW _ _ hx
 ·rw[wa h,ja hx]
theorem nH {s:Int}:∀{ks:List Int} {u:List (Int×VL)×GL},qm u.1→qm (ks.foldl (W9 s) u).1
 | [],_,h=>h
 |k::ks,u,h=>nH (ks:=ks) (u:=W9 s u k) (Yr h k)
theorem gb {ch:List (Int×VL)}(h:qm ch):(Vc ch).Nodup:=(vE _).nodup_iff.2 h
theorem ROK.ids {M:OM}{st:VS}{a a':OA}{c c':Nat}{es:List EV}{is:List IV}(h:ROK M st a c es a' c' is):Vc st.ch=es.map (·.id):=by
 refine yB ((vE _).trans ?_) (xc _) (h.cs.imp λh=>by omega);have:=(h.ch.map (·.1)).symm;rw[YT] at this;exact this
structure DV where
 d:Int
 txn:Int
 after:Int
 a:OA
 c:Nat
 ops:List OV
 stamp:Int
 ask:Int
 id:Int
 ia:OA
 ic:Nat
 ids:List Int
abbrev DV.cells (o:DV):List Value:=[.int .u8 o.d,.int .u64 o.txn,.int .u64 o.after,.slice o.a o.ops.length o.c,.int .u64 o.stamp,.int .u64 o.ask,.int .u64 o.id,.slice o.ia o.ids.length o.ic]
abbrev DV.val (o:DV):Value:=.agg #[.int .u8 o.d,.int .u64 o.txn,.int .u64 o.after,.slice o.a o.ops.length o.c,.int .u64 o.stamp,.int .u64 o.ask,.int .u64 o.id,.slice o.ia o.ids.length o.ic]
def doS (st:VS)(o:DV):VS:=
 if o.d.tmod 9=4 then {st with its:=qO st.its o.txn}
 else if o.d.tmod 9=5∨o.d.tmod 9=6∨o.d.tmod 9=7 then xf st o.txn o.stamp
 else if o.d.tmod 9=8 then wO st o.stamp
 else xI st o.txn o.after (WL 18 (o.ops.map OV.abs))
structure ZE (st:VS)(n:Nat):Prop where
 wf:WF st n
 k1:qm st.ch
 k2:qm st.its
theorem WF.mono {st:VS}{n m:Nat}(h:WF st n)(hm:n≤m):WF st m:=
 ⟨h.d1,h.d2,by have:=h.il;omega,h.io,by have:=h.cl;omega,λc hc=>⟨(h.co c hc).1,by have:=(h.co c hc).2.1;omega,(h.co c hc).2.2⟩⟩
theorem ZE.mono {st:VS}{n m:Nat}(h:ZE st n)(hm:n≤m):ZE st m:=⟨h.wf.mono hm,h.k1,h.k2⟩
theorem ZE.free {st:VS}{n:Nat}(h:ZE st n)(t:Int):ZE {st with its:=qO st.its t} n:=
 ⟨⟨h.wf.d1,h.wf.d2,by have:=h.wf.il;have e:=kw (λu:Int×Int×VL=> !decide (u.1=t)) st.its;exact ke e this,λi hi=>h.wf.io i (jB.1 hi).1,h.wf.cl,h.wf.co⟩,h.k1,yo h.k2 t⟩
theorem zh {s:Int}{c:Int×VL}:∀{ops:VL} {ch:List (Int×VL)},qm ch→(ops.map (·.1)).Nodup→c∈yz s ch ops→c∈ch∨∃o∈ops,c=(o.1,xe ch o.1++[(s,o.2)])
 | [],_,_,_,h=>.inl h
 |o::ops,ch,hk,hn,h=>by
  simp only[jL,List.nodup_cons] at hn;have hput:∀c∈Vx s ch o,c∈ch∨c=(o.1,xe ch o.1++[(s,o.2)]):=λc hc=>by
   unfold Vx at hc
   rcases wJ ch hk o.1 with ⟨p,b,q,rfl,hp,hq⟩|hno
   ·rw[wv hp hq] at hc
    rcases jy.1 hc with hc|hc
    ·exact .inl (List.mem_append_left _ hc)
    rcases j9.1 hc with hc|hc
    ·exact .inr hc
    ·exact .inl (List.mem_append_right _ (jV _ hc))
   ·rw[vJ hno] at hc
    rcases jy.1 hc with hc|hc
    ·exact .inl hc
    ·exact .inr (ji.1 hc)
  rcases zh (s:=s) (ops:=ops) (Ka hk s o) hn.2 h with h|⟨o',ho',h⟩
  ·rcases hput c h with h|h
   ·exact .inl h
   ·exact .inr ⟨o,by simp,h⟩
  ·refine .inr ⟨o',jV _ ho',?_⟩
   have hne:o'.1≠o.1:=λe=>hn.1 (by rw[←e];exact jA ho')
   have:xe (Vx s ch o) o'.1=xe ch o'.1:=by
    unfold xe Vx;rw[wa hk,ja hne]
   rw[h,this]
theorem ZE.apply {st:VS}{n:Nat}(h:ZE st n)(t s:Int):ZE (xf st t s) (n+1):=by
 unfold xf
 cases hl:qE st.its t with
 |none=>exact h.mono zo
 |some i=>
  dsimp only
  by_cases hE:yy st t s=0
  ·rw[jb hE]
   have hio:=h.wf.io _ (vM hl);dsimp only at hio;have hany:∀o∈i.2,¬s≤Jh (xe st.ch o.1):=by
    unfold yy at hE;rw[hl] at hE;dsimp only at hE
    by_cases h1:s=0∨1099511627776<s∨s≤i.1
    ·rw[jb h1] at hE;cases hE
    rw[ja h1] at hE
    by_cases h2:(i.2.any λo=>decide (s≤Jh (xe st.ch o.1)))=true
    ·rw[jb h2] at hE;cases hE
    ·intro o ho hh
     exact h2 (ku.2 ⟨o,ho,jo hh⟩)
   refine ⟨⟨h.wf.d1,h.wf.d2,?_,λj hj=>h.wf.io j (jB.1 hj).1,?_,λc hc=> ?_⟩,cC h.k1,yo h.k2 t⟩
   ·have e:=kw (λu:Int×Int×VL=> !decide (u.1=t)) st.its
    have:=h.wf.il;have e2:(qO st.its t).length≤st.its.length:=e;dsimp only;omega
   ·have e:=Zj (s:=s) (ops:=i.2) h.k1
    have:=h.wf.cl;dsimp only;omega
   ·rcases zh h.k1 hio.2.1 hc with hc|⟨o,ho,rfl⟩
    ·have:=h.wf.co c hc
     exact ⟨this.1,by omega,this.2.2⟩
    ·have hcv:vS (xe st.ch o.1)∧(xe st.ch o.1).length≤n∧∀v∈xe st.ch o.1,v.2.length≤8:=by
      unfold xe
      cases hz:qE st.ch o.1 with
      |none=>exact ⟨List.Pairwise.nil,jw _,by simp⟩
      |some w=>exact h.wf.co _ (vM hz)
     have hla:=Xc hcv.1;have hs:=hany o ho;refine ⟨?_,by simp;omega,λv hv=> ?_⟩
     ·unfold vS at hcv ⊢
      rw[jq,List.pairwise_append];refine ⟨hcv.1,by simp,λx hx y hy=> ?_⟩;obtain ⟨w,hw,rfl⟩:=jM.1 hx
      simp at hy
      subst hy;have:=hla w hw;omega
     ·rcases jy.1 hv with hv|hv
      ·exact hcv.2.2 v hv
      ·obtain rfl:=ji.1 hv
       exact (hio.2.2 o ho).1
  ·rw[ja hE];exact h.mono zo
theorem ZE.lock {st:VS}{n:Nat}(h:ZE st n)(t a:Int)(ops:VL):ZE (xI st t a ops) (n+1):=by
 unfold xI
 by_cases hE:zy st t a ops=0
 ·rw[jb hE]
  unfold zy at hE
  by_cases h1:1099511627776<a
  ·rw[jb h1] at hE;cases hE
  rw[ja h1] at hE
  by_cases h2:vP st.dim ops≠0
  ·rw[jb h2] at hE;exact absurd hE h2
  rw[ja h2] at hE;have h2':vP st.dim ops=0:=Decidable.not_not.1 h2
  by_cases h3:(qE st.its t).isSome=true
  ·rw[jb h3] at hE;cases hE
  obtain ⟨_,_,c1,c2,c3,c4⟩:=jC4 h2';have hno:qE st.its t=none:=by
   cases hz:qE st.its t with
   |none=>rfl
   |some w=>rw[hz] at h3;exact absurd rfl h3
  refine ⟨⟨h.wf.d1,h.wf.d2,?_,λi hi=> ?_,by have:=h.wf.cl;dsimp only;omega,λc hc=> ?_⟩,h.k1,jAl h.k2 _ hno⟩
  ·have:=h.wf.il
   simp;omega
  ·rcases jy.1 hi with hi|hi
   ·exact h.wf.io i hi
   ·obtain rfl:=ji.1 hi
    exact ⟨c2,c3,c4⟩
  ·have:=h.wf.co c hc
   exact ⟨this.1,by omega,this.2.2⟩
 ·rw[ja hE];exact h.mono zo
theorem jBI {s:Int}{n b:Nat}{u:List (Int×VL)×GL}(hk:qm u.1)(hl:u.1.length≤b)(hco:∀c∈u.1,vS c.2∧c.2.length≤n∧∀v∈c.2,v.2.length≤8)(id:Int):
  (W9 s u id).1.length≤b∧∀c∈(W9 s u id).1,vS c.2∧c.2.length≤n∧∀v∈c.2,v.2.length≤8:=by
 unfold W9;dsimp only
 by_cases h0:((xe u.1 id).drop (KK (xe u.1 id) s)).length=0
 ·rw[jb h0]
  refine ⟨ke (kw (λx:Int×VL=> !decide (x.1=id)) u.1) hl,λc hc=>hco c (jB.1 hc).1⟩
 ·rw[ja h0]
  generalize KK (xe u.1 id) s=k at h0 ⊢
  cases hz:qE u.1 id with
  |none=>
   exfalso
   apply h0;unfold xe;rw[hz];simp
  |some vs=>
   have hcv:xe u.1 id=vs:=by unfold xe;rw[hz];rfl
   have hm:=hco _ (vM hz);rw[hcv]
   rcases wJ u.1 hk id with ⟨p,w,q,e,hp,hq⟩|hno
   ·rw[e,wv hp hq]
    refine ⟨by rw [e] at hl;simpa using hl,fun c hc => ?_⟩;have hsub : ∀ c,c ∈ p ∨ c ∈ q → vS c.2 ∧ c.2.length ≤ n ∧ ∀ v ∈ c.2,v.2.length ≤ 8 := fun c hc => hco c (by
     rw[e]
     rcases hc with hc|hc
     ·exact List.mem_append_left _ hc
     ·exact List.mem_append_right _ (jV _ hc))
    rcases jy.1 hc with hc|hc
    ·exact hsub c (.inl hc)
    rcases j9.1 hc with rfl|hc
    ·refine ⟨?_,?_,λv hv=>hm.2.2 v (List.mem_of_mem_drop hv)⟩
     ·have:=hm.1
      unfold vS at this ⊢;rw[List.map_drop];exact this.sublist (List.drop_sublist _ _)
     ·have:=hm.2.1
      dsimp only at this ⊢;rw[jE];omega
    ·exact hsub c (.inr hc)
   ·rw[wX hno] at hz;cases hz
theorem gc {s:Int}{n b:Nat}:∀{ks:List Int} {u:List (Int×VL)×GL},qm u.1→u.1.length≤b→(∀c∈u.1,vS c.2∧c.2.length≤n∧∀v∈c.2,v.2.length≤8)→
  (ks.foldl (W9 s) u).1.length≤b∧∀c∈(ks.foldl (W9 s) u).1,vS c.2∧c.2.length≤n∧∀v∈c.2,v.2.length≤8
 | [],_,_,hl,hc=>⟨hl,hc⟩
 |k::ks,u,hk,hl,hc=>by
  have:=jBI (s:=s) hk hl hc k;exact gc (ks:=ks) (Yr hk k) this.1 this.2
theorem ZE.sweep {st:VS}{n:Nat}(h:ZE st n)(s:Int):ZE (wO st s) n:=by
 unfold wO
 by_cases h1:min s 1099511627776≤st.mark
 ·rw[jb h1];exact h
 ·rw[ja h1]
  have hk:=gc (s:=min s 1099511627776) (n:=n) (b:=16*n) (ks:=Vc st.ch) (u:=(st.ch,[])) h.k1 h.wf.cl h.wf.co;exact ⟨⟨h.wf.d1,h.wf.d2,h.wf.il,h.wf.io,hk.1,hk.2⟩,nH (u:=(st.ch,[])) h.k1,h.k2⟩
theorem ZE.do_ {st:VS}{n:Nat}(h:ZE st n)(o:DV):ZE (doS st o) (n+1):=by
 unfold doS
 split
 ·exact (h.free _).mono zo
 split
 ·exact h.apply _ _
 split
 ·exact (h.sweep _).mono zo
 ·exact h.lock _ _ _
structure HV where
 id:Int
 dist:Int
 a:OA
 c:Nat
 vec:List Int
abbrev HV.cells (h:HV):List Value:=[.int .u64 h.id,.int .u64 h.dist,.slice h.a h.vec.length h.c]
abbrev I64 :Int→Value:=Value.int .i64
abbrev HV.val (h:HV):Value:=.agg #[.int .u64 h.id,.int .u64 h.dist,.slice h.a h.vec.length h.c]
abbrev HV.abs (h:HV):Int×Int×List Int:=(h.id,h.dist,h.vec)
structure NV where
 kind:Int
 txn:Int
 batch:Int
 stamp:Int
 after:Int
 mark:Int
 query:Int
 id:Int
 k:Int
 ef:Int
 code:Int
 who:Int
 pa:OA
 pc:Nat
 parts:List Int
 oa:OA
 oc:Nat
 ops:List OV
 va:OA
 vc:Nat
 vec:List Int
 ha:OA
 hc:Nat
 hits:List HV
abbrev NV.cells (n:NV):List Value:=[.int .u8 n.kind,.int .u64 n.txn,.int .u64 n.batch,.int .u64 n.stamp,.int .u64 n.after,.int .u64 n.mark,.int .u64 n.query,.int .u64 n.id,.int .i64 n.k,.int .i64 n.ef,.int .i64 n.code,.int .i64 n.who,
 .slice n.pa n.parts.length n.pc,.slice n.oa n.ops.length n.oc,.slice n.va n.vec.length n.vc,.slice n.ha n.hits.length n.hc]
abbrev NV.val (n:NV):Value:=.agg #[.int .u8 n.kind,.int .u64 n.txn,.int .u64 n.batch,.int .u64 n.stamp,.int .u64 n.after,.int .u64 n.mark,.int .u64 n.query,.int .u64 n.id,.int .i64 n.k,.int .i64 n.ef,.int .i64 n.code,.int .i64 n.who,
 .slice n.pa n.parts.length n.pc,.slice n.oa n.ops.length n.oc,.slice n.va n.vec.length n.vc,.slice n.ha n.hits.length n.hc]
def NV.bits (n:NV):List Bool:=[decide (0<n.txn),decide (0<n.batch),decide (0<n.stamp),decide (0<n.after),decide (0<n.mark),decide (0<n.query),decide (0<n.id),!decide (n.k=0),!decide (n.ef=0),!decide (n.code=0),!decide (n.who=0),decide (0<(n.parts.length:Int)),decide (0<(n.ops.length:Int)),decide (0<(n.vec.length:Int)),decide (0<(n.hits.length:Int))]
structure NA where
 kind:Int
 txn:Int
 batch:Int
 stamp:Int
 after:Int
 mark:Int
 query:Int
 id:Int
 k:Int
 ef:Int
 code:Int
 who:Int
 parts:List Int
 ops:VL
 vec:List Int
 hits:List (Int×Int×List Int)
abbrev NA.zero :NA:=⟨0,0,0,0,0,0,0,0,0,0,0,0,[],[],[],[]⟩
def NA.bits (n:NA):List Bool:=[decide (0<n.txn),decide (0<n.batch),decide (0<n.stamp),decide (0<n.after),decide (0<n.mark),decide (0<n.query),decide (0<n.id),!decide (n.k=0),!decide (n.ef=0),!decide (n.code=0),!decide (n.who=0),decide (0<(n.parts.length:Int)),decide (0<(n.ops.length:Int)),decide (0<(n.vec.length:Int)),decide (0<(n.hits.length:Int))]
def fldN :Nat→Nat
 |1=>4098|2=>518|3=>6153|4=>513|5=>517|6=>1|7=>1|8=>8672|9=>8692|10=>16928|11=>16932|12=>6153|13=>5|14=>1|15=>16|16=>16|17=>2055|18=>1|19=>7179|20=>1025|21=>1025|22=>1|_=>0
def ws (v:List Int):Bool:=decide (v.length=0)||wQ v
def xv (o:Int×List Int):Bool:=decide (1099511627776<o.1)|| !ws o.2
def yd (h:Int×Int×List Int):Bool:=decide (1099511627776<h.1)|| !wQ h.2.2
def dE (l:List Int)(k:Nat):Bool:=decide (0≤l.getD k 0)&&decide (l.getD k 0<16)&&(decide (k=0)||decide (l.getD (k - 1) 0<l.getD k 0))
def vX (l:List Int):Bool:=(List.range l.length).all (dE l)
def vV (n:NA):Bool:=
 !(decide (1099511627776<max (max n.stamp n.after) n.mark)||decide (1099511627776<n.id)||decide (min (min (min n.k n.ef) n.who) n.code<0)||decide (16<n.k)||decide (256<n.ef)||decide (16≤n.who)||decide (13<n.code))&&
 !(decide (4<n.parts.length)||decide (16<n.ops.length)||decide (16<n.hits.length)|| !ws n.vec)&&vX n.parts&& !n.ops.any xv&& !n.hits.any yd
def qn (n:NA):Bool:=decide (1≤n.kind∧n.kind≤22)&&(n.bits.zipIdx.all λb=> !b.1||(fldN n.kind.toNat).testBit b.2)&&vV n
abbrev NV.abs (n:NV):NA:=⟨n.kind,n.txn,n.batch,n.stamp,n.after,n.mark,n.query,n.id,n.k,n.ef,n.code,n.who,n.parts,n.ops.map OV.abs,n.vec,n.hits.map HV.abs⟩
theorem NV.bits_abs (n:NV):n.abs.bits=n.bits:=by unfold NA.bits NV.bits;simp
structure RdN (A:HL)(n:NV):Prop where
 p:qY A n.pa n.parts.length 1 (n.parts.map I64)
 o:RdO A n.oa n.ops
 v:qY A n.va n.vec.length 1 (n.vec.map zC)
 h:qY A n.ha n.hits.length 3 (n.hits.flatMap HV.cells)
 hv:∀h∈n.hits,qY A h.a h.vec.length 1 (h.vec.map zC)
theorem RdN.sub {A L:HL}{n:NV}(h:RdN A n)[s:Sub A L]:RdN L n:=⟨h.p.sub,h.o.sub,h.v.sub,h.h.sub,λx hx=>(h.hv x hx).sub⟩
structure OkN (n:NV):Prop where
 p:n.parts.length≤1000000
 o:n.ops.length≤1000000
 ov:∀o∈n.ops,o.vec.length≤1000000
 v:n.vec.length≤1000000
 h:n.hits.length≤1000000
 hv:∀h∈n.hits,h.vec.length≤1000000
def yj :List Bool→Nat
 | []=>0
 |b::l=>(if b then 1 else 0)+2*yj l
theorem jHM (b0 b1 b2 b3 b4 b5 b6 b7 b8 b9 b10 b11 b12 b13 b14:Bool):bZ (XG 1 15) (15*1) (cellsOf [(0,Value.bool b0),(1,Value.bool b1),(2,Value.bool b2),(3,Value.bool b3),(4,Value.bool b4),(5,Value.bool b5),(6,Value.bool b6),(7,Value.bool b7),(8,Value.bool b8),(9,Value.bool b9),(10,Value.bool b10),(11,Value.bool b11),(12,Value.bool b12),(13,Value.bool b13),(14,Value.bool b14)])=true:=by rfl
theorem jGq (b0 b1 b2 b3 b4 b5 b6 b7 b8 b9 b10 b11 b12 b13 b14:Bool):Xn (XG 1 15) [Value.bool false,Value.bool false,Value.bool false,Value.bool false,Value.bool false,Value.bool false,Value.bool false,Value.bool false,Value.bool false,Value.bool false,Value.bool false,Value.bool false,Value.bool false,Value.bool false,Value.bool false] (cellsOf [(0,Value.bool b0),(1,Value.bool b1),(2,Value.bool b2),(3,Value.bool b3),(4,Value.bool b4),(5,Value.bool b5),(6,Value.bool b6),(7,Value.bool b7),(8,Value.bool b8),(9,Value.bool b9),(10,Value.bool b10),(11,Value.bool b11),(12,Value.bool b12),(13,Value.bool b13),(14,Value.bool b14)])=[Value.bool b0,Value.bool b1,Value.bool b2,Value.bool b3,Value.bool b4,Value.bool b5,Value.bool b6,Value.bool b7,Value.bool b8,Value.bool b9,Value.bool b10,Value.bool b11,Value.bool b12,Value.bool b13,Value.bool b14]:=by kernel_rfl
section
variable {P : Program} {n : Nat} {ops : List Oper} {f : vL} {A : HL} {d : Tmp} {ty : TypeId} {pos : String} {af : Array Edge}
theorem Y.ixa {x y:Operand}{t e:TypeId}{len bts i:Nat}{k:IntKind}{zs:List Value}{cs:Array Value}{v:Value}[h:ZB P t len e][h2:Ty P e false 1 zs bts](hx:ev f x=some (.agg cs))(hy:ev f y=some (.int k (i:Int)))(hi:i<len)(hv:cs[i]? =some v):
  qk P n ops ⟨some d,.index t x y,ty,pos,af,none⟩ f A v:=
 Y.of (fun _ w s => by
  have e1:(0:Int)≤(i:Int)∧(i:Int)<(len:Int):=⟨by omega,by omega⟩
  simp[execOp,s.eval hx,s.eval hy,Instr.index,asIntOf,h.und,e1,part,h2.agg,h2.size,hv,hi])
theorem Y.or {x y:Operand}{t t':TypeId}{k:IntKind}{a b:Int}(hx:ev f x=some (.int k a))(hy:ev f y=some (.int k b)):qk P n ops ⟨some d,.binOp .or t x y t',ty,pos,af,none⟩ f A ((.int k (k.wrap ((BitVec.ofInt k.bits a)|||(BitVec.ofInt k.bits b)).toNat))):=  Y.of (λ_ w s=>by simp[execOp,s.eval hx,s.eval hy,eqGuard,binOp,Op.intBits])
theorem Y.andNot {x y:Operand}{t t':TypeId}{k:IntKind}{a b:Int}(hx:ev f x=some (.int k a))(hy:ev f y=some (.int k b)):qk P n ops ⟨some d,.binOp .andNot t x y t',ty,pos,af,none⟩ f A ((.int k (k.wrap ((BitVec.ofInt k.bits a)&&& ~~~(BitVec.ofInt k.bits b)).toNat))):=  Y.of (λ_ w s=>by simp[execOp,s.eval hx,s.eval hy,eqGuard,binOp,Op.intBits])
end
theorem jEa {a i:Nat}(ha:a<2^i)(hi:i<15):IntKind.i64.wrap (((BitVec.ofInt IntKind.i64.bits (a:Int))|||(BitVec.ofInt IntKind.i64.bits (IntKind.i64.wrap ((1*2^i:Nat):Int)))).toNat:Int)=((a+2^i:Nat):Int):=by
 have hp:2^i≤2^14:=Nat.pow_le_pow_right zo zo;have e0:∀x:Nat,x<1000000→IntKind.i64.wrap (x:Int)=(x:Int):=λx hx=>vl zo zo
 have e:∀x:Nat,x<18446744073709551616→(BitVec.ofInt IntKind.i64.bits (x:Int)).toNat=x:=λx hx=>by
  show (BitVec.ofInt 64 (x:Int)).toNat=x
  simp;omega
 have e2:IntKind.i64.wrap ((1*2^i:Nat):Int)=((1*2^i:Nat):Int):=e0 _ zo;rw[e2,BitVec.toNat_or,e _ zo,e _ zo,Nat.one_mul];have h:=Nat.two_pow_add_eq_or_of_lt ha 1;rw[jX,Nat.or_comm] at h;rw[←h,e0 _ zo,Nat.add_comm]
theorem Zg :∀l:List Bool,yj l<2^l.length
 | []=>by simp[yj]
 |b::l=>by
  have:=Zg l;rw[jC,Nat.pow_succ];unfold yj
  cases b<;>simp<;>omega
theorem Zf (b:Bool):∀l:List Bool,yj (l++[b])=yj l+(if b then 2^l.length else 0)
 | []=>by cases b<;>simp[yj]
 |c::l=>by
  have:=Zf b l;rw[List.cons_append,jC,Nat.pow_succ];unfold yj;rw[this]
  cases b<;>simp<;>omega
theorem jAp (n:NV)(L:HL):qh kY 162 [n.val] L (λr L'=>r=.int .i64 (yj n.bits)∧L'=L):=by
 refine qg Tryz.func162 rfl rfl rfl ?_
 iterate 60 (first|(refine GQ.y ?_;refine Q.y ?_)|refine Q.go ?_|(refine GQ.g ?_;refine Q.gq ?_)|(refine GQ.s ?_;refine Q.st ?_)|(refine GQ.a ?_;refine Q.al (λb1=> ?_)))
 iterate 3 (first|(refine GQ.y ?_;refine Q.y ?_)|refine Q.go ?_|(refine GQ.g ?_;refine Q.gq ?_)|(refine GQ.s ?_;refine Q.st ?_)|(refine GQ.a ?_;refine Q.al (λb1=> ?_)))
 refine S.y (Y.bda (l:=[_,_,_,_,_,_,_,_,_,_,_,_,_,_,_]) (cs:=n.bits.map Value.bool) rfl rfl (jHM _ _ _ _ _ _ _ _ _ _ _ _ _ _ _) (jGq _ _ _ _ _ _ _ _ _ _ _ _ _ _ _)) ?_;refine Q.r ?_;have hlen:n.bits.length=15:=rfl;refine ql (σ:=Nat) (λs=> [(1,.pointer (some ⟨b1,0,none⟩)),(55,.agg (n.bits.map Value.bool).toArray),(3,.int .i64 (yj (n.bits.take s))),(56,.int .i64 s)])
  (λ_=>pt b1 (cl n.cells 82)::L) (λs=>s≤15) (λs=>15 - s) 0 zt (kZ _) zo ?_
 intro k hk
 by_cases hlt:k<15
 ·obtain ⟨b,hb⟩:=qx (l:=n.bits) (by rw[hlen];exact hlt)
  have hv:(n.bits.map Value.bool).toArray[k]? =some (.bool b):=by simp[hb]
  have htk:n.bits.take (k+1)=n.bits.take k++[b]:=qA hb;have hl:yj (n.bits.take k)<2^k:=by
   have:=Zg (n.bits.take k);rw[jP,hlen,Nat.min_eq_left zo] at this;exact this
  have hs:=Zf b (n.bits.take k);rw[←htk,jP,hlen,Nat.min_eq_left zo] at hs;refine Q.r ?_;refine S.y (Y.ixa rfl rfl hlt hv) ?_
  cases b with
  |true=>
   refine Q.r ?_;refine S.y (Y.shl (a:=1) rfl rfl (by show k≤64;omega)) ?_;refine Q.r ?_;refine S.y (Y.or rfl rfl) ?_;rw[jEa hl hlt];refine Q.r ?_;exact ⟨k+1,⟨rfl,rfl,jj some (jj (λz:Nat=>Value.int .i64 (z:Int)) hs.symm),rfl,trivial⟩,kZ _,by omega,by omega⟩
  |false=>
   refine Q.r ?_;exact ⟨k+1,⟨rfl,rfl,jj some (jj (λz:Nat=>Value.int .i64 (z:Int)) hs.symm),rfl,trivial⟩,kZ _,by omega,by omega⟩
 ·have:k=15:=by omega
  subst this;refine Q.r ?_;exact N.t rfl (qi.drop (kZ _)) ⟨rfl,rfl⟩
theorem jA0 (f:FuncId)(fs cs:List Value)[he:qj kY f](p:HV→Bool)(a:OA)(c:Nat)(xs:List HV)(A:HL)(h:qY A a xs.length 3 (xs.flatMap HV.cells))(hn:xs.length≤4611686018427387904)
  (hf:∀x∈xs,qh kY f (fs++[HV.val x]++cs) A (λv L'=>v=.bool (p x)∧L'=A)):
  qh kY 239 [.slice a xs.length c,.func (.func f) fs.toArray cs.toArray] A (λv L'=>(∃i:Int,v=.int .i64 i∧decide (0≤i)=xs.any p)∧L'=A):=by
 refine qg Tryz.func239 rfl rfl rfl ?_;refine Q.r ?_;refine ql (σ:=Nat) (λk=> [(0,.slice a xs.length c),(1,.func (.func f) fs.toArray cs.toArray),(7,.int .i64 xs.length),(8,.int .i64 k)]) (λ_=>A)
  (λk=>k≤xs.length∧(xs.take k).any p=false) (λk=>xs.length - k) 0 zt (kZ _) ⟨by omega,by simp⟩ ?_
 rintro k ⟨hk,hany⟩
 by_cases hlt:k<xs.length
 ·obtain ⟨x,hx⟩:=qx hlt
  obtain ⟨b,o,rfl,hr⟩:=qY.elem (g:=HV.cells) (λ_=>rfl) h hx rfl;have hmx:x∈xs:=jn hx;refine Q.r ?_;refine S.crF (fs:=fs) (cs:=cs) rfl rfl (hf x hmx) ?_;rintro _ _ ⟨rfl,rfl⟩
  cases hp:p x with
  |true=>
   refine Q.r ?_;exact N.t rfl (kZ _) ⟨⟨_,rfl,by rw[show xs.any p=true from ku.2 ⟨x,hmx,hp⟩];simp⟩,rfl⟩
  |false=>
   refine Q.r ?_;refine ⟨k+1,zt,kZ _,⟨by omega,?_⟩,by omega⟩;rw[qA hx,kW,hany]<;>simp[hp]
 ·have hke:k=xs.length:=by omega
  subst hke;rw[jI] at hany;refine Q.r ?_;exact N.t rfl (kZ _) ⟨⟨_,rfl,by rw[hany]<;>rfl⟩,rfl⟩
theorem jA4 (f:FuncId)(fs cs:List Value)[he:qj kY f](p:HV→Bool)(a:OA)(c:Nat)(xs:List HV)(A:HL)(h:qY A a xs.length 3 (xs.flatMap HV.cells))(hn:xs.length≤4611686018427387904)
  (hf:∀x∈xs,qh kY f (fs++[HV.val x]++cs) A (λv L'=>v=.bool (p x)∧L'=A)):
  qh kY 203 [.slice a xs.length c,.func (.func f) fs.toArray cs.toArray] A (λv L'=>v=.bool (xs.any p)∧L'=A):=by
 refine qg Tryz.func203 rfl rfl rfl ?_;refine Q.r ?_;refine S.cr rfl (jA0 f fs cs p a c xs A h hn hf) ?_;rintro _ _ ⟨⟨i,rfl,hi⟩,rfl⟩;refine Q.r ?_;exact N.t rfl (kZ _) ⟨by rw[←hi],rfl⟩
theorem yP (xs:List Int):xs.flatMap (λz=> [I64 z])=xs.map I64:=by induction xs with
 |nil=>rfl
 |cons x xs ih=>rw[jK,ih];rfl
theorem cv (a:OA)(c:Nat)(xs:List Int)(A:HL)(h:qY A a xs.length 1 (xs.map zC))(hn:xs.length≤1000000):
  qh kY 200 [.slice a xs.length c] A (λr L'=>r=.bool (ws xs)∧L'=A):=by
 unfold ws;refine qg Tryz.func200 rfl rfl rfl ?_
 by_cases h0:xs.length=0
 ·refine Q.r ?_
  exact N.t rfl (kZ _) ⟨by simp[h0],rfl⟩
 ·refine Q.r ?_
  refine S.cr rfl (VQ a c xs _ h.sub zo) ?_;rintro _ _ ⟨rfl,rfl⟩;refine Q.r ?_;exact N.t rfl (kZ _) ⟨by simp[h0],rfl⟩
theorem jAH (o:OV)(A:HL)(h:qY A o.a o.vec.length 1 (o.vec.map zC))(hn:o.vec.length≤1000000):
  qh kY 202 ([]++[o.val]++[]) A (λr L'=>r=.bool (xv o.abs)∧L'=A):=by
 unfold xv;refine qg Tryz.func202 rfl rfl rfl ?_
 by_cases h0:1099511627776<o.id
 ·refine Q.r ?_;(repeat (intro b1;refine Q.r ?_))
  exact N.t rfl (qi.drop (kZ _)) ⟨by simp[h0],rfl⟩
 ·refine Q.r ?_;(repeat (intro b1;refine Q.r ?_))
  refine S.cr rfl (cv o.a o.c o.vec _ h.sub hn) ?_;rintro _ _ ⟨rfl,rfl⟩;refine Q.r ?_;exact N.t rfl (qi.drop (kZ _)) ⟨by simp[h0],rfl⟩
theorem jAG (o:HV)(A:HL)(h:qY A o.a o.vec.length 1 (o.vec.map zC))(hn:o.vec.length≤1000000):
  qh kY 204 ([]++[o.val]++[]) A (λr L'=>r=.bool (yd o.abs)∧L'=A):=by
 unfold yd;refine qg Tryz.func204 rfl rfl rfl ?_
 by_cases h0:1099511627776<o.id
 ·refine Q.r ?_;(repeat (intro b1;refine Q.r ?_))
  exact N.t rfl (qi.drop (kZ _)) ⟨by simp[h0],rfl⟩
 ·refine Q.r ?_;(repeat (intro b1;refine Q.r ?_))
  refine S.cr rfl (VQ o.a o.c o.vec _ h.sub zo) ?_;rintro _ _ ⟨rfl,rfl⟩;refine Q.r ?_;exact N.t rfl (qi.drop (kZ _)) ⟨by simp[h0],rfl⟩
section
variable {P : Program} {n : Nat} {ops : List Oper} {f : vL} {A : HL} {d : Tmp} {ty : TypeId} {pos : String} {af : Array Edge}
theorem Y.max3 {x y z:Operand}{t t' t2:TypeId}{k:IntKind}{a b c:Int}(hx:ev f x=some (.int k a))(hy:ev f y=some (.int k b))(hz:ev f z=some (.int k c)):
  qk P n ops ⟨some d,.call ⟨.builtin .max,#[x,y,z],#[t,t',t2]⟩,ty,pos,af,none⟩ f A (.int k (Max.max (Max.max a b) c)):=
 Y.of λac w s=>by
  have h:∀a b:Int,Max.max a b=if a<b then b else a:=λa b=>by simp only[Int.max_def];split<;>split<;>omega
  simp[execOp,resolve,invoke,s.eval hx,s.eval hy,s.eval hz,builtin,Builtin.max_,Builtin.max2,h]
theorem Y.min4 {x y z u:Operand}{t t' t2 t3:TypeId}{k:IntKind}{a b c e:Int}(hx:ev f x=some (.int k a))(hy:ev f y=some (.int k b))(hz:ev f z=some (.int k c))(hu:ev f u=some (.int k e)):
  qk P n ops ⟨some d,.call ⟨.builtin .min,#[x,y,z,u],#[t,t',t2,t3]⟩,ty,pos,af,none⟩ f A (.int k (Min.min (Min.min (Min.min a b) c) e)):=
 Y.of λac w s=>by
  have h:∀a b:Int,Min.min a b=if b<a then b else a:=λa b=>by simp only[Int.min_def];split<;>split<;>omega
  simp[execOp,resolve,invoke,s.eval hx,s.eval hy,s.eval hz,s.eval hu,builtin,Builtin.min_,Builtin.min2,h]
end
theorem fk (n:NV)(A:HL)(h:RdN A n)(hk:OkN n):
  qh kY 163 [n.val] A (λr L'=>r=.bool (vV n.abs)∧L'=A):=by
 have hE : vV n.abs = (!(decide (1099511627776 < max (max n.stamp n.after) n.mark) || decide (1099511627776 < n.id) || decide (min (min (min n.k n.ef) n.who) n.code < 0) || decide (16 < n.k) || decide (256 < n.ef) || decide (16 ≤ n.who) || decide (13 < n.code)) &&
   !(decide (4<n.parts.length)||decide (16<n.ops.length)||decide (16<n.hits.length)|| !ws n.vec)&&vX n.parts&& !(n.ops.any λo=>xv o.abs)&& !(n.hits.any λo=>yd o.abs)):=by
  unfold vV;simp[List.any_map];rfl
 rw[hE];clear hE;refine qg Tryz.func163 rfl rfl rfl ?_
 by_cases a1:1099511627776<max (max n.stamp n.after) n.mark
 ·refine Q.r ?_;(repeat (intro b1;refine Q.r ?_));refine S.y (Y.max3 rfl rfl rfl) ?_;(refine Q.r ?_)
  exact N.t rfl (qi.drop (kZ _)) ⟨by simp only[jo a1,j6,j4,jW,jR,jH,jD,jN,jQ,jJ,jT],rfl⟩
 by_cases a2:1099511627776<n.id
 ·refine Q.r ?_;(repeat (intro b1;refine Q.r ?_));refine S.y (Y.max3 rfl rfl rfl) ?_;(refine Q.r ?_)
  exact N.t rfl (qi.drop (kZ _)) ⟨by simp only[jo a2,j6,j4,jW,jR,jH,jD,jN,jQ,jJ,jT],rfl⟩
 by_cases a3:min (min (min n.k n.ef) n.who) n.code<0
 ·refine Q.r ?_;(repeat (intro b1;refine Q.r ?_));refine S.y (Y.max3 rfl rfl rfl) ?_;(refine Q.r ?_);refine S.y (Y.min4 rfl rfl rfl rfl) ?_;(refine Q.r ?_)
  exact N.t rfl (qi.drop (kZ _)) ⟨by simp only[jo a3,j6,j4,jW,jR,jH,jD,jN,jQ,jJ,jT],rfl⟩
 by_cases a4:16<n.k
 ·refine Q.r ?_;(repeat (intro b1;refine Q.r ?_));refine S.y (Y.max3 rfl rfl rfl) ?_;(refine Q.r ?_);refine S.y (Y.min4 rfl rfl rfl rfl) ?_;(refine Q.r ?_)
  exact N.t rfl (qi.drop (kZ _)) ⟨by simp only[jo a4,j6,j4,jW,jR,jH,jD,jN,jQ,jJ,jT],rfl⟩
 by_cases a5:256<n.ef
 ·refine Q.r ?_;(repeat (intro b1;refine Q.r ?_));refine S.y (Y.max3 rfl rfl rfl) ?_;(refine Q.r ?_);refine S.y (Y.min4 rfl rfl rfl rfl) ?_;(refine Q.r ?_)
  exact N.t rfl (qi.drop (kZ _)) ⟨by simp only[jo a5,j6,j4,jW,jR,jH,jD,jN,jQ,jJ,jT],rfl⟩
 by_cases a6:16≤n.who
 ·refine Q.r ?_;(repeat (intro b1;refine Q.r ?_));refine S.y (Y.max3 rfl rfl rfl) ?_;(refine Q.r ?_);refine S.y (Y.min4 rfl rfl rfl rfl) ?_;(refine Q.r ?_)
  exact N.t rfl (qi.drop (kZ _)) ⟨by simp only[jo a6,j6,j4,jW,jR,jH,jD,jN,jQ,jJ,jT],rfl⟩
 by_cases a7:13<n.code
 ·refine Q.r ?_;(repeat (intro b1;refine Q.r ?_));refine S.y (Y.max3 rfl rfl rfl) ?_;(refine Q.r ?_);refine S.y (Y.min4 rfl rfl rfl rfl) ?_;(refine Q.r ?_)
  exact N.t rfl (qi.drop (kZ _)) ⟨by simp only[jo a7,j6,j4,jW,jR,jH,jD,jN,jQ,jJ,jT],rfl⟩
 by_cases q1:4<n.parts.length
 ·refine Q.r ?_;(repeat (intro b1;refine Q.r ?_));refine S.y (Y.max3 rfl rfl rfl) ?_;(refine Q.r ?_);refine S.y (Y.min4 rfl rfl rfl rfl) ?_;(refine Q.r ?_)
  exact N.t rfl (qi.drop (kZ _)) ⟨by simp only[jo q1,j6,j4,jW,jR,jH,jD,jN,jQ,jJ,jT],rfl⟩
 by_cases q2:16<n.ops.length
 ·refine Q.r ?_;(repeat (intro b1;refine Q.r ?_));refine S.y (Y.max3 rfl rfl rfl) ?_;(refine Q.r ?_);refine S.y (Y.min4 rfl rfl rfl rfl) ?_;(refine Q.r ?_)
  exact N.t rfl (qi.drop (kZ _)) ⟨by simp only[jo q2,j6,j4,jW,jR,jH,jD,jN,jQ,jJ,jT],rfl⟩
 by_cases q3:16<n.hits.length
 ·refine Q.r ?_;(repeat (intro b1;refine Q.r ?_));refine S.y (Y.max3 rfl rfl rfl) ?_;(refine Q.r ?_);refine S.y (Y.min4 rfl rfl rfl rfl) ?_;(refine Q.r ?_)
  exact N.t rfl (qi.drop (kZ _)) ⟨by simp only[jo q3,j6,j4,jW,jR,jH,jD,jN,jQ,jJ,jT],rfl⟩
 refine Q.r ?_;(repeat (intro b1;refine Q.r ?_));refine S.y (Y.max3 rfl rfl rfl) ?_;(refine Q.r ?_);refine S.y (Y.min4 rfl rfl rfl rfl) ?_;(refine Q.r ?_);refine S.cr rfl (cv n.va n.vc n.vec _ h.v.sub hk.v) ?_;rintro _ _ ⟨rfl,rfl⟩
 cases hbv:ws n.vec with
 |false=>
  refine Q.r ?_;exact N.t rfl (qi.drop (kZ _)) ⟨by simp only[j6,j4,jW,jR,jH,jD,jN,jQ,jJ,jT],rfl⟩
 |true=>
 simp only[jv a1,jv a2,jv a3,jv a4,jv a5,jv a6,jv a7,jv q1,jv q2,jv q3,j6,j4,jW,jR,jH,jD,jN,jQ,jJ,jT];clear a1 a2 a3 a4 a5 a6 a7;refine Q.r ?_;refine qw (σ:=Unit) (λ_=> [(1,.pointer (some ⟨b1,0,none⟩))]) (λ_=>pt b1 (cl n.cells 82)::A) (λ_=>vX n.parts=true) ?_ ?_
 ·refine ql (σ:=Nat) (λk=> [(1,.pointer (some ⟨b1,0,none⟩)),(74,.slice n.pa n.parts.length n.pc),(75,.int .i64 n.parts.length),(76,.int .i64 k)])
   (λ_=>pt b1 (cl n.cells 82)::A) (λk=>k≤n.parts.length∧(List.range k).all (dE n.parts)=true) (λk=>n.parts.length - k) 0 zt (kZ _) ⟨by omega,rfl⟩ ?_
  rintro k ⟨hk1,hk2⟩
  by_cases hlt:k<n.parts.length
  ·obtain ⟨p,hp⟩:=qx hlt
   obtain ⟨bp,op,hpa,hr⟩:=qY.elem (g:=λz=> [I64 z]) (λ_=>rfl) (by rw[yP];exact h.p) hp rfl;have hgp:n.parts.getD k 0=p:=by rw[j8,hp];rfl
   have hfail:dE n.parts k=false→vX n.parts=false:=λhh=>by
    unfold vX;rw[List.all_eq_false];exact ⟨k,List.mem_range.2 hlt,by rw[hh];decide⟩
   rw[hpa]
   by_cases e1:p<0
   ·repeat (first|refine S.y (Y.ldRj rfl (by first|assumption|exact vi.sub (by assumption)) rfl) ?_|(refine GQ.y ?_;refine Q.y ?_)|refine Q.go ?_|(refine GQ.g ?_;refine Q.gq ?_)|(refine GQ.s ?_;refine Q.st ?_)|(refine GQ.g ?_;refine Q.gd ?_)|refine Q.ct rfl ?_|refine Q.cf rfl ?_|(refine GQ.a ?_;refine Q.al (λb1=> ?_)))
    exact N.t rfl (qi.drop (kZ _)) ⟨by rw[hfail (by unfold dE;rw[hgp,jv (by omega:¬0≤p)];rfl)];rfl,rfl⟩
   by_cases e2:16≤p
   ·repeat (first|refine S.y (Y.ldRj rfl (by first|assumption|exact vi.sub (by assumption)) rfl) ?_|(refine GQ.y ?_;refine Q.y ?_)|refine Q.go ?_|(refine GQ.g ?_;refine Q.gq ?_)|(refine GQ.s ?_;refine Q.st ?_)|(refine GQ.g ?_;refine Q.gd ?_)|refine Q.ct rfl ?_|refine Q.cf rfl ?_|(refine GQ.a ?_;refine Q.al (λb1=> ?_)))
    exact N.t rfl (qi.drop (kZ _)) ⟨by rw[hfail (by unfold dE;rw[hgp,jv (by omega:¬p<16),jQ];rfl)];rfl,rfl⟩
   by_cases e3:k=0
   ·subst e3
    repeat (first|refine S.y (Y.ldRj rfl (by first|assumption|exact vi.sub (by assumption)) rfl) ?_|(refine GQ.y ?_;refine Q.y ?_)|refine Q.go ?_|(refine GQ.g ?_;refine Q.gq ?_)|(refine GQ.s ?_;refine Q.st ?_)|(refine GQ.g ?_;refine Q.gd ?_)|refine Q.ct rfl ?_|refine Q.cf rfl ?_|(refine GQ.a ?_;refine Q.al (λb1=> ?_)))
    exact ⟨1,⟨by rw[←hpa];rfl,by rw[←hpa];rfl,rfl,rfl,trivial⟩,kZ _,⟨by omega,by rw[show List.range (0+1)=[0] from rfl,List.all_cons,List.all_nil];unfold dE;rw[hgp,jo (by omega:(0:Int)≤p),jo (by omega:p<16)];rfl⟩,by omega⟩
   ·obtain ⟨q,hq⟩:=qx (l:=n.parts) (show k - 1<n.parts.length by omega)
    obtain ⟨bq,oq,hqa,hr2⟩:=qY.elem (g:=λz=> [I64 z]) (λ_=>rfl) (by rw[yP];exact h.p) hq rfl;have hgq:n.parts.getD (k - 1) 0=q:=by rw[j8,hq];rfl
    by_cases e4:p≤q
    ·refine Q.rd6 ?_
     rw[hqa];refine Q.rd6 ?_;exact N.t rfl (qi.drop (kZ _)) ⟨by rw[hfail (by unfold dE;rw[hgp,hgq,jv e3,jv (by omega:¬q<p),jW,jQ])];rfl,rfl⟩
    ·refine Q.rd6 ?_
     rw[hqa];refine Q.rd6 ?_;refine ⟨k+1,⟨rfl,by first|rfl|(rw[←hqa];rfl)|(rw[←hpa];rfl)|(rw[hqa];rfl)|(rw[hpa];rfl),rfl,rfl,trivial⟩,kZ _,⟨by omega,?_⟩,by omega⟩;rw[List.range_succ,List.all_append,hk2,List.all_cons,List.all_nil];unfold dE;rw[hgp,hgq,jo (by omega:(0:Int)≤p),jo (by omega:p<16),jo (by omega:q<p),j6];rfl
  ·have:k=n.parts.length:=by omega
   subst this;refine Q.r ?_;exact ⟨(),zt,kZ _,hk2⟩
 ·rintro _ hp
  refine Q.r ?_;refine S.cr rfl (jA2 202 [] [] (λo=>xv o.abs) n.oa n.oc n.ops _ h.o.1.sub (by have:=hk.o;omega) (λo ho=>jAH o _ ((h.o.2 o ho).sub) (hk.ov o ho))) ?_;rintro _ _ ⟨rfl,rfl⟩
  cases hop:n.ops.any λo=>xv o.abs with
  |true=>
   refine Q.r ?_;exact N.t rfl (qi.drop (kZ _)) ⟨by simp only[j6,j4,jW,jR,jH,jD,jN,jQ,jJ,jT],rfl⟩
  |false=>
   refine Q.r ?_;refine S.cr rfl (jA4 204 [] [] (λo=>yd o.abs) n.ha n.hc n.hits _ h.h.sub (by have:=hk.h;omega) (λo ho=>jAG o _ ((h.hv o ho).sub) (hk.hv o ho))) ?_;rintro _ _ ⟨rfl,rfl⟩;refine Q.r ?_;exact N.t rfl (qi.drop (kZ _)) ⟨by simp only[hp,j6,j4,jW,jR,jH,jD,jN,jQ,jJ,jT],rfl⟩
abbrev ST :=List UInt8×Nat
abbrev ST.cells (p:ST):List Value:=[str p.1,.int .i64 (p.2:Int)]
def KC :List ST:=[([],0),([65,115,107],4098),([82,101,112,108,121],518),([80,114,101,112,97,114,101],6153),([86,111,116,101],513),([68,101,99,105,100,101],517),([65,99,107],1),([80,114,111,98,101],1),([81,117,101,114,121],8672),([76,111,111,107],8692),([83,101,101,110],16928),([82,101,115,117,108,116],16932),([80,114,101,112,97,114,101,100],6153),([67,111,109,109,105,116,116,101,100],5),([65,98,111,114,116,101,100],1),([83,119,101,112,116],16),([69,112,111,99,104],16),([67,111,109,109,105,116],2055),([69,110,100],1),([66,101,103,105,110],7179),([89,101,115],1025),([65,99,107,101,100],1025),([71,111,110,101],1)]
def sortsC :List Value:=KC.flatMap ST.cells
def wU (k:Nat):ST:=(KC[k]?).getD ([],0)
theorem Yt (k:Nat):(wU k).2=fldN k:=by
 by_cases h:k<23
 ·exact (by decide:∀k,k<23→(wU k).2=fldN k) k h
 ·have h1:wU k=([],0):=by
   unfold wU;rw[List.getElem?_eq_none (by show 23≤k;omega)];rfl
  rw[h1];unfold fldN
  split<;>first|omega|rfl
theorem Z9 (k:Nat):(decide ((wU k).1=[]))= !decide (1≤k∧k≤22):=by
 by_cases h:k<23
 ·exact (by decide:∀k,k<23→(decide ((wU k).1=[]))= !decide (1≤k∧k≤22)) k h
 ·have h1:wU k=([],0):=by
   unfold wU;rw[List.getElem?_eq_none (by show 23≤k;omega)];rfl
  rw[h1,jv (by omega:¬(1≤k∧k≤22))];rfl
theorem Xb (k:Nat)(A:HL)(hT:vi A 0 0 sortsC)(hk:k≤255):
  qh kY 159 [.int .u8 (k:Int)] A (λr L'=>r=.agg (ST.cells (wU k)).toArray∧L'=A):=by
 refine qg Tryz.func159 rfl rfl rfl ?_
 by_cases h:23≤k
 ·have h1:wU k=([],0):=by
   unfold wU;rw[List.getElem?_eq_none (by show 23≤k;omega)];rfl
  rw[h1];refine Q.r ?_;(repeat (intro b1;refine Q.r ?_));refine S.y (Y.cvi rfl) ?_;rw[vl zo zo];refine Q.r ?_;exact N.r1 RV.c (qi.drop (kZ _)) ⟨rfl,rfl⟩
 ·have hs:KC[k]? =some (wU k):=by
   unfold wU;rw[jY (show k<KC.length by show k<23;omega)];rfl
  have hr:vi A 0 (0+k*2) (ST.cells (wU k)):=hT.part λj v e=>Ko (g:=ST.cells) (λ_=>rfl) KC k j _ v hs e
  refine Q.r ?_;(repeat (intro b1;refine Q.r ?_));refine S.y (Y.cvi rfl) ?_;rw[vl zo zo];refine Q.rn ?_;exact N.r1 RV.c (qi.drop (kZ _)) ⟨rfl,rfl⟩
theorem JU :∀(l:List Bool) (i:Nat),(yj l).testBit i=l.getD i false
 | [],i=>by simp[yj]
 |b::l,0=>by
  unfold yj;rw[Nat.testBit_zero]
  cases b<;>simp[Nat.add_mod]
 |b::l,i+1=>by
  unfold yj;rw[Nat.testBit_succ,List.getD_cons_succ,←JU l i]
  congr 1
  cases b<;>simp<;>omega
theorem jEw (a f:Nat)(ha:a<2^15):IntKind.i64.wrap (((BitVec.ofInt IntKind.i64.bits (a:Int))&&& ~~~(BitVec.ofInt IntKind.i64.bits (f:Int))).toNat:Int)=(((BitVec.ofNat 64 a&&& ~~~ BitVec.ofNat 64 f).toNat:Nat):Int):=by
 have e:∀x:Nat,BitVec.ofInt IntKind.i64.bits (x:Int)=BitVec.ofNat 64 x:=λx=>by
  show BitVec.ofInt 64 (x:Int)=_
  rw[BitVec.ofInt_natCast]
 rw[e,e];have h:(BitVec.ofNat 64 a&&& ~~~ BitVec.ofNat 64 f).toNat≤a:=by
  rw[BitVec.toNat_and];refine ke Nat.and_le_left ?_
  simp;omega
 show IntKind.i64.wrap (((BitVec.ofNat 64 a&&& ~~~ BitVec.ofNat 64 f).toNat:Nat):Int)=_
 exact vl zo zo
theorem jAq (n:NA)(f:Nat):decide ((((BitVec.ofNat 64 (yj n.bits)&&& ~~~ BitVec.ofNat 64 f).toNat:Nat):Int)=0)=n.bits.zipIdx.all λb=> !b.1||f.testBit b.2:=by
 have hl:n.bits.length=15:=rfl;rw[Bool.eq_iff_iff,decide_eq_true_iff,List.all_eq_true]
 constructor
 ·intro h b hb
  obtain ⟨x,i⟩:=b;have hi:=List.mem_zipIdx_iff_getElem?.1 hb;dsimp only at hi ⊢
  cases x with
  |false=>rfl
  |true=>
   have hlt:i<15:=by rw[←hl];exact (jm.1 hi).1
   have h0:(BitVec.ofNat 64 (yj n.bits)&&& ~~~ BitVec.ofNat 64 f)=0#64:=BitVec.eq_of_toNat_eq (by simpa using h);have h1:=jj (λv:BitVec 64=>v.getLsbD i) h0;simp only[BitVec.getLsbD_and,BitVec.getLsbD_not,BitVec.getLsbD_ofNat] at h1;rw[JU,j8,hi] at h1
   simp[show i<64 by omega] at h1
   simpa using h1
 ·intro h
  have h0:(BitVec.ofNat 64 (yj n.bits)&&& ~~~ BitVec.ofNat 64 f)=0#64:=by
   apply BitVec.eq_of_getLsbD_eq;intro i hi;simp only[BitVec.getLsbD_and,BitVec.getLsbD_not,BitVec.getLsbD_ofNat,BitVec.getLsbD_zero];rw[JU,j8]
   cases hb:n.bits[i]? with
   |none=>simp
   |some b=>
    have:=h (b,i) (List.mem_zipIdx_iff_getElem?.2 hb);dsimp only at this
    cases b with
    |false=>simp
    |true=>simp at this;simp[this,hi]
  rw[h0];rfl
theorem JL (n:NV)(A:HL)(h:RdN A n)(hk:OkN n)(hT:vi A 0 0 sortsC)(h0:0≤n.kind∧n.kind≤255):
  qh kY 87 [n.val] A (λr L'=>r=.bool (qn n.abs)∧L'=A):=by
 obtain ⟨k,hkk⟩:∃k:Nat,n.kind=(k:Int):=⟨n.kind.toNat,by omega⟩;have hbd:yj n.bits<2^15:=Zg n.bits;have hE:qn n.abs=((!decide ((wU k).1=[]))&&decide ((((BitVec.ofNat 64 (yj n.bits)&&& ~~~ BitVec.ofNat 64 (wU k).2).toNat:Nat):Int)=0)&&vV n.abs):=by
  have:=jAq n.abs (wU k).2;rw[NV.bits_abs] at this;unfold qn;rw[NV.bits_abs,this,Z9,Yt,Bool.not_not]
  show (decide (1≤n.kind∧n.kind≤22)&&(n.bits.zipIdx.all λb=> !b.1||(fldN n.kind.toNat).testBit b.2)&&vV n.abs)=_
  rw[hkk,kz,show decide (1≤(k:Int)∧(k:Int)≤22)=decide (1≤k∧k≤22) from by congr 1;simp;omega]
 rw[hE];clear hE;refine qg Tryz.func87 rfl rfl rfl ?_;refine Q.r ?_;(repeat (intro b1;refine Q.r ?_));refine S.cr (args:=[.int .u8 (k:Int)]) (by rw[←hkk];rfl) (Xb k _ hT.sub zo) ?_;rintro _ _ ⟨rfl,rfl⟩
 by_cases hn:(wU k).1=[]
 ·rw[jo hn]
  refine Q.r ?_;(repeat (intro b1;refine Q.r ?_));refine Q.dgo [true,true] [5,13] [] [0,1,2,3,4,6,7,5,8,9,10,11,12,13,14,15] ?_;refine Q.rd ?_;refine Q.r ?_;exact N.t rfl (qi.drop (qi.drop (kZ _))) ⟨by simp only[jH,jN],rfl⟩
 rw[jv hn];refine Q.r ?_;(repeat (intro b1;refine Q.r ?_));refine Q.dgo [true,true] [5,13] [] [0,1,2,3,4,6,7,5,8,9,10,11,12,13,14,15] ?_;refine Q.rd ?_;refine D.e rfl rfl rfl ?_;refine S.guard rfl ?_;refine S.cr rfl (jAp n _) ?_;rintro _ _ ⟨rfl,rfl⟩;refine Q.r ?_;refine D.y rfl rfl rfl zk (Y.guard rfl (Y.andNot rfl rfl)) ?_;rw[jEw _ _ hbd];generalize (BitVec.ofNat 64 (yj n.bits)&&& ~~~ BitVec.ofNat 64 (wU k).2).toNat=z
 by_cases hz:(z:Int)=0
 ·rw[jo hz]
  refine Q.rd ?_;refine D.e rfl rfl rfl ?_;refine S.guard rfl ?_;refine S.cr rfl (fk n _ h hk) ?_;rintro _ _ ⟨rfl,rfl⟩;refine Q.r ?_;refine Q.rd ?_;refine Q.r ?_;exact N.t rfl (qi.drop (qi.drop (kZ _))) ⟨by simp only[jD,jJ],rfl⟩
 ·rw[jv hz]
  refine Q.rd ?_;refine Q.r ?_;exact N.t rfl (qi.drop (qi.drop (kZ _))) ⟨by simp only[jD,jQ,jN],rfl⟩
end Go.Proofs.YtlnfjhiphlfkjaaGreatDoor
namespace Go.Proofs.YtlnfjhiphlfkjaaGreatDoor
open Go Go.SX
structure JS where
 v:VS
 parts:List (Int×List Int)
 done:List (Int×Int)
structure PA where
 rec_:List NA
 mail:List (Int×NA)
 els:List (Int×NA)
def PA.none :PA:=⟨[],[],[]⟩
abbrev Z4 (txn code:Int):Int×NA:=(0,{NA.zero with kind:=4,txn:=txn,code:=code})
def Vr (st:VS)(ops:VL):Bool:=st.its.any λi=>i.2.2.any λo=>yx ops o.1
def Zl (st:VS)(s:Int)(ops:VL):Bool:= !st.ch.any λc=>decide (s≤Jh c.2)&&yx ops c.1
def jFj (j:JS)(n:NA):PA:=
 if (qE j.done n.txn).isSome∨vP j.v.dim n.ops≠0 then PA.none
 else if (qE j.v.its n.txn).isSome then ⟨[],[Z4 n.txn 0],[]⟩
 else if Vr j.v n.ops then ⟨[],[Z4 n.txn 11],[]⟩
 else ⟨[{n with kind:=12}],[Z4 n.txn 0],[Z4 n.txn 8]⟩
abbrev jGK (txn:Int):Int×NA:=(0,{NA.zero with kind:=6,txn:=txn})
def jFy (j:JS)(from_:Int)(n:NA):PA:=
 if n.code≠0 then if (qE j.v.its n.txn).isSome∧from_=0 then ⟨[{NA.zero with kind:=14,txn:=n.txn}],[],[]⟩ else PA.none
 else match qE j.done n.txn with
  |some s=>if s=n.stamp then ⟨[],[jGK n.txn],[]⟩ else PA.none
  |none=>match qE j.v.its n.txn with
   |some i=>if max i.1 j.v.mark<n.stamp∧Zl j.v n.stamp i.2=true then ⟨[{NA.zero with kind:=13,txn:=n.txn,stamp:=n.stamp}],[jGK n.txn],[]⟩ else PA.none
   |none=>PA.none
def Xh (j:JS)(from_:Int)(n:NA):PA:=
 if qn n=false then PA.none
 else if n.kind=3 then if from_=0 then jFj j n else PA.none
 else if n.kind=5 then jFy j from_ n
 else if n.kind=7 then match qE j.done n.txn with
  |some s=>⟨[],[(from_,{NA.zero with kind:=5,txn:=n.txn,stamp:=s})],[]⟩
  |none=>PA.none
 else PA.none
def QB (j:JS)(n:NA):Int:=
 if qn n=false then 4
 else if n.kind=12 then zy j.v n.txn n.after n.ops
 else if n.kind=13 then yy j.v n.txn n.stamp
 else if n.kind=14 then if (qE j.v.its n.txn).isSome then 0 else 6
 else if n.kind=15 then 0
 else 4
def yQ (j:JS)(n:NA):JS:=
 if QB j n≠0 then j
 else if n.kind=12 then ⟨xI j.v n.txn n.after n.ops,qN j.parts n.txn n.parts,j.done⟩
 else if n.kind=13 then ⟨xf j.v n.txn n.stamp,qO j.parts n.txn,qN j.done n.txn n.stamp⟩
 else if n.kind=14 then ⟨{j.v with its:=qO j.v.its n.txn},qO j.parts n.txn,j.done⟩
 else if n.kind=15 then ⟨wO j.v n.mark,j.parts,j.done⟩
 else j
structure JOK (j:JS)(n:Nat):Prop where
 w:ZE j.v n
 kp:qm j.parts
 kd:qm j.done
 o:∀t s,qE j.done t=some s→qE j.v.its t=none
 p:∀t s,qE j.done t=some s→0<s
 m:0≤j.v.mark
 ne:∀c∈j.v.ch,0<c.2.length
theorem gy {t:Int}(h:0≤t):qn {NA.zero with kind:=14,txn:=t}=true:=by
 unfold qn vV NA.bits NA.zero ws
 by_cases h0:0<t
 ·simp[h0,List.zipIdx,fldN,vX]
 ·simp[h0,List.zipIdx,fldN,vX]
theorem dr {t s:Int}(h2:s≤1099511627776):qn {NA.zero with kind:=13,txn:=t,stamp:=s}=true:=by
 unfold qn vV NA.bits NA.zero ws
 by_cases h0:0<t<;>by_cases h1:0<s<;>simp[h0,h1,List.zipIdx,fldN,vX]<;>first|omega|(refine ⟨?_,?_⟩<;>first|decide|omega)
theorem nO {n:NA}(h:qn n=true)(hk:n.kind=3):qn {n with kind:=12}=true:=by
 unfold qn at h ⊢;rw[hk] at h;exact h
theorem Xe {n:NA}(h:qn n=true):n.stamp≤1099511627776∧n.after≤1099511627776∧n.mark≤1099511627776:=by
 unfold qn vV at h;simp only[jF,kL,Bool.or_eq_false_iff,j5] at h;omega
theorem bT {α:Type}{o:Option α}(h:¬o.isSome=true):o=none:=by cases o with
 |none=>rfl
 |some a=>exact absurd rfl h
theorem lf {κ α:Type}[DecidableEq κ]{m:List (κ×α)}{x y:κ}{a:α}(h:qE m x=none):qE (m++[(x,a)]) y=if y=x then some a else qE m y:=by
 have hm:=hU h
 by_cases hy:y=x
 ·subst hy
  rw[jb rfl];exact JJ (q:=[]) hm
 ·rw[ja hy]
  unfold qE;rw[List.find?_append];have:(List.find? (λp:κ×α=>decide (p.1=y)) [(x,a)])=none:=by simp[Ne.symm hy]
  rw[this,Option.or_none]
theorem jCp {κ α:Type}[DecidableEq κ](m:List (κ×α))(x:κ):qE (qO m x) x=none:=wX λu hu=>by
 have:=(jB.1 hu).2
 simpa using this
theorem Kk {κ α:Type}[DecidableEq κ]{m:List (κ×α)}(x y:κ):qE (qO m x) y=if y=x then none else qE m y:=by
 by_cases hy:y=x
 ·subst hy;rw[jb rfl,jCp]
 ·rw[ja hy,dW x y hy]
theorem nA {st:VS}{ops:VL}(h:Vr st ops=false):(ops.any λo=>st.its.any λi=>yx i.2.2 o.1)=false:=by
 rw[List.any_eq_false];intro o ho hh;obtain ⟨i,hi,hx⟩:=ku.1 hh;unfold yx at hx;obtain ⟨u,hu,hux⟩:=ku.1 hx;have hux:=kV hux;have:Vr st ops=true:=by
  unfold Vr;refine ku.2 ⟨i,hi,ku.2 ⟨u,hu,?_⟩⟩;unfold yx;exact ku.2 ⟨o,ho,jo hux.symm⟩
 rw[h] at this;cases this
theorem tJ {j:JS}{n:NA}(ha:n.after≤1099511627776)(hc:vP j.v.dim n.ops=0)(hl:qE j.v.its n.txn=none)(ht:Vr j.v n.ops=false):zy j.v n.txn n.after n.ops=0:=by
 unfold zy;rw[ja zo,ja (by simp[hc]),hl,ja (by simp),nA ht];rfl
theorem mn {j:JS}{t s:Int}{i:Int×VL}(hl:qE j.v.its t=some i)(h1:max i.1 j.v.mark<s)(hm:0≤j.v.mark)(h2:s≤1099511627776)(ha:Zl j.v s i.2=true):yy j.v t s=0:=by
 unfold yy;rw[hl];dsimp only;rw[ja zo];have hno:(i.2.any λo=>decide (s≤Jh (xe j.v.ch o.1)))=false:=by
  rw[List.any_eq_false];intro o ho hh;have hh:=kV hh;unfold xe at hh
  cases hz:qE j.v.ch o.1 with
  |none=>
   rw[hz] at hh;have:Jh ([]:VL)=0:=rfl;rw[Option.getD_none,this] at hh;omega
  |some w=>
   rw[hz,Option.getD_some] at hh;have hmem:=vM hz;unfold Zl at ha;rw[kL,List.any_eq_false] at ha;refine ha _ hmem ?_;rw[jF];refine ⟨jo hh,?_⟩;unfold yx;exact ku.2 ⟨o,ho,jo rfl⟩
 rw[hno,ja (by simp),ja zo]
theorem cD {s:Int}{ops:VL}{ch:List (Int×VL)}(hk:qm ch)(hn:(ops.map (·.1)).Nodup)(h:∀c∈ch,0<c.2.length):∀c∈yz s ch ops,0<c.2.length:=λc hc=>by
 rcases zh hk hn hc with hc|⟨o,ho,rfl⟩
 ·exact h c hc
 ·simp
structure jAS (j:JS)(k:Nat)(n r:NA):Prop where
 tx:r.txn=n.txn
 nd:qE j.done n.txn=none
 e:QB j r=0
 ok:JOK (yQ j r) (k+1)
 rt:qn r=true
theorem JOK.le {j:JS}{a b:Nat}(h:JOK j a)(hl:a≤b):JOK j b:=⟨h.w.mono hl,h.kp,h.kd,h.o,h.p,h.m,h.ne⟩
theorem tZ {j:JS}{k:Nat}(hj:JOK j k){n:NA}(hr:qn n=true)(hk:n.kind=3)(hd:qE j.done n.txn=none)(hc:vP j.v.dim n.ops=0)(hl:qE j.v.its n.txn=none)(ht:Vr j.v n.ops=false):
  jAS j k n {n with kind:=12}∧(yQ j {n with kind:=12}).done=j.done∧∀t,(qE (yQ j {n with kind:=12}).v.its t).isSome=true→t=n.txn∨(qE j.v.its t).isSome=true:=by
 have hb:=Xe hr;have hlk:=tJ (j:=j) hb.2.1 hc hl ht;have hr2:=nO hr hk;have hE:QB j {n with kind:=12}=0:=by
  unfold QB;rw[ja (by rw[hr2];decide),jb rfl];exact hlk
 have hS:yQ j {n with kind:=12}=⟨xI j.v n.txn n.after n.ops,qN j.parts n.txn n.parts,j.done⟩:=by
  unfold yQ;rw[ja (by rw[hE];decide),jb rfl]
 have hSv:xI j.v n.txn n.after n.ops={j.v with its:=j.v.its++[(n.txn,n.after,n.ops)]}:=by unfold xI;rw[jb hlk]
 refine ⟨⟨rfl,hd,hE,?_,hr2⟩,by rw[hS],λt h=> ?_⟩
 ·rw[hS]
  refine ⟨hj.w.lock _ _ _,vy hj.kp _ _,hj.kd,λt s h=> ?_,hj.p,?_,?_⟩
  ·dsimp only at h ⊢
   rw[hSv];dsimp only;rw[lf hl]
   by_cases ht:t=n.txn
   ·subst ht;rw[hd] at h;cases h
   ·rw[ja ht];exact hj.o t s h
  ·rw[hSv];exact hj.m
  ·rw[hSv];exact hj.ne
 ·rw[hS] at h
  dsimp only at h;rw[hSv] at h;dsimp only at h;rw[lf hl] at h
  by_cases ht:t=n.txn
  ·exact .inl ht
  ·rw[ja ht] at h;exact .inr h
abbrev XT (t s:Int):NA:={NA.zero with kind:=13,txn:=t,stamp:=s}
abbrev ZW (t:Int):NA:={NA.zero with kind:=14,txn:=t}
theorem gL {j:JS}{k:Nat}(hj:JOK j k){n:NA}(hr:qn n=true)(hd:qE j.done n.txn=none){i:Int×VL}(hl:qE j.v.its n.txn=some i)(h1:max i.1 j.v.mark<n.stamp)(ha:Zl j.v n.stamp i.2=true):
  jAS j k n (XT n.txn n.stamp)∧0<n.stamp∧(yQ j (XT n.txn n.stamp)).done=qN j.done n.txn n.stamp∧∀t,(qE (yQ j (XT n.txn n.stamp)).v.its t).isSome=true→(qE j.v.its t).isSome=true:=by
 have hb:=Xe hr;have hm:=hj.m;have hE0:=mn hl h1 hj.m hb.1 ha;have hr2:qn (XT n.txn n.stamp)=true:=dr hb.1;have hE:QB j (XT n.txn n.stamp)=0:=by
  unfold QB;rw[ja (by rw[hr2];decide),ja (show ¬(13:Int)=12 by decide),jb rfl];exact hE0
 have hS:yQ j (XT n.txn n.stamp)=⟨xf j.v n.txn n.stamp,qO j.parts n.txn,qN j.done n.txn n.stamp⟩:=by
  unfold yQ;rw[ja (by rw[hE];decide),ja (show ¬(13:Int)=12 by decide),jb rfl]
 have hSv:xf j.v n.txn n.stamp={j.v with ch:=yz n.stamp j.v.ch i.2,its:=qO j.v.its n.txn}:=by unfold xf;rw[hl];dsimp only;rw[jb hE0]
 have hpos:0<n.stamp:=by omega
 refine ⟨⟨rfl,hd,hE,?_,hr2⟩,hpos,by rw[hS],λt h=> ?_⟩
 ·rw[hS]
  refine ⟨hj.w.apply _ _,yo hj.kp _,vy hj.kd _ _,λt s h=> ?_,λt s h=> ?_,?_,?_⟩
  ·dsimp only at h ⊢
   rw[hSv];dsimp only;rw[wa hj.kd] at h;rw[Kk]
   by_cases ht:t=n.txn
   ·rw[jb ht]
   ·rw[ja ht] at h ⊢;exact hj.o t s h
  ·dsimp only at h
   rw[wa hj.kd] at h
   by_cases ht:t=n.txn
   ·rw[jb ht] at h;cases h;exact hpos
   ·rw[ja ht] at h;exact hj.p t s h
  ·rw[hSv];exact hj.m
  ·rw[hSv]
   exact cD hj.w.k1 (hj.w.wf.io _ (vM hl)).2.1 hj.ne
 ·rw[hS] at h
  dsimp only at h;rw[hSv] at h;dsimp only at h;rw[Kk] at h
  by_cases ht:t=n.txn
  ·rw[jb ht] at h;cases h
  ·rw[ja ht] at h;exact h
theorem nW {j:JS}{k:Nat}(hj:JOK j k){n:NA}(h0:0≤n.txn)(hl:(qE j.v.its n.txn).isSome=true):
  jAS j k n (ZW n.txn)∧(yQ j (ZW n.txn)).done=j.done∧∀t,(qE (yQ j (ZW n.txn)).v.its t).isSome=true→t≠n.txn∧(qE j.v.its t).isSome=true:=by
 have hd:qE j.done n.txn=none:=by
  cases hz:qE j.done n.txn with
  |none=>rfl
  |some s=>rw[hj.o _ _ hz] at hl;cases hl
 have hr2:qn (ZW n.txn)=true:=gy h0;have hE:QB j (ZW n.txn)=0:=by
  unfold QB;rw[ja (by rw[hr2];decide),ja (show ¬(14:Int)=12 by decide),ja (show ¬(14:Int)=13 by decide),jb rfl];exact jb hl
 have hS:yQ j (ZW n.txn)=⟨{j.v with its:=qO j.v.its n.txn},qO j.parts n.txn,j.done⟩:=by
  unfold yQ;rw[ja (by rw[hE];decide),ja (show ¬(14:Int)=12 by decide),ja (show ¬(14:Int)=13 by decide),jb rfl]
 refine ⟨⟨rfl,hd,hE,?_,hr2⟩,by rw[hS],λt h=> ?_⟩
 ·rw[hS]
  refine ⟨(hj.w.free _).mono zo,yo hj.kp _,hj.kd,λt s h=> ?_,hj.p,hj.m,hj.ne⟩;dsimp only at h ⊢;rw[Kk]
  by_cases ht:t=n.txn
  ·rw[jb ht]
  ·rw[ja ht];exact hj.o t s h
 ·rw[hS] at h
  dsimp only at h;rw[Kk] at h
  by_cases ht:t=n.txn
  ·rw[jb ht] at h;cases h
  ·rw[ja ht] at h;exact ⟨ht,h⟩
theorem YE {j:JS}{k:Nat}(hj:JOK j k){n:NA}(h0:0≤n.txn)(f:Int):
  (Xh j f n).rec_=[]∨
  ((Xh j f n).rec_=[{n with kind:=12}]∧jAS j k n {n with kind:=12}∧(yQ j {n with kind:=12}).done=j.done∧∀t,(qE (yQ j {n with kind:=12}).v.its t).isSome=true→t=n.txn∨(qE j.v.its t).isSome=true)∨
  ((Xh j f n).rec_=[XT n.txn n.stamp]∧(qE j.v.its n.txn).isSome=true∧jAS j k n (XT n.txn n.stamp)∧0<n.stamp∧(yQ j (XT n.txn n.stamp)).done=qN j.done n.txn n.stamp∧∀t,(qE (yQ j (XT n.txn n.stamp)).v.its t).isSome=true→(qE j.v.its t).isSome=true)∨
  ((Xh j f n).rec_=[ZW n.txn]∧jAS j k n (ZW n.txn)∧(yQ j (ZW n.txn)).done=j.done∧∀t,(qE (yQ j (ZW n.txn)).v.its t).isSome=true→t≠n.txn∧(qE j.v.its t).isSome=true):=by
 unfold Xh
 cases hr:qn n with
 |false=>left;rfl
 |true=>
 rw[ja zd]
 by_cases h3:n.kind=3
 ·rw[jb h3]
  by_cases hf:f=0
  ·rw[jb hf]
   unfold jFj
   by_cases c1:(qE j.done n.txn).isSome=true∨vP j.v.dim n.ops≠0
   ·rw[jb c1];left;rfl
   rw[ja c1];simp only[not_or,Decidable.not_not] at c1
   by_cases c2:(qE j.v.its n.txn).isSome=true
   ·rw[jb c2];left;rfl
   rw[ja c2]
   cases c3:Vr j.v n.ops with
   |true=>left;rfl
   |false=>
    rw[ja zd]
    right;left
    exact ⟨rfl,tZ hj hr h3 (bT c1.1) c1.2 (bT c2) c3⟩
  ·rw[ja hf];left;rfl
 rw[ja h3]
 by_cases h5:n.kind=5
 ·rw[jb h5]
  unfold jFy
  by_cases c1:n.code≠0
  ·rw[jb c1]
   by_cases c2:(qE j.v.its n.txn).isSome=true∧f=0
   ·rw[jb c2]
    right;right;right
    exact ⟨rfl,nW hj h0 c2.1⟩
   ·rw[ja c2];left;rfl
  rw[ja c1]
  cases hd:qE j.done n.txn with
  |some s=>
   dsimp only
   by_cases c2:s=n.stamp
   ·rw[jb c2];left;rfl
   ·rw[ja c2];left;rfl
  |none=>
   dsimp only
   cases hl:qE j.v.its n.txn with
   |none=>left;rfl
   |some i=>
    dsimp only
    by_cases c3:max i.1 j.v.mark<n.stamp∧Zl j.v n.stamp i.2=true
    ·rw[jb c3]
     right;right;left
     exact ⟨rfl,rfl,gL hj hr hd hl c3.1 c3.2⟩
    ·rw[ja c3];left;rfl
 rw[ja h5]
 by_cases h7:n.kind=7
 ·rw[jb h7]
  cases hd:qE j.done n.txn with
  |some s=>left;rfl
  |none=>left;rfl
 ·rw[ja h7];left;rfl
attribute [local irreducible] swp qq qL qJ vZ qh St qi qk vu qH
def DJ (st:VS):Prop:=∀i∈st.its,∀j∈st.its,i.1≠j.1→∀x∈i.2.2.map (·.1),x∉j.2.2.map (·.1)
theorem DJ.sub {st st':VS}(h:DJ st)(hs:∀i∈st'.its,i∈st.its):DJ st':=λi hi j hj=>h i (hs i hi) j (hs j hj)
theorem DJ.do_ {st:VS}(h:DJ st)(o:DV):DJ (doS st o):=by
 unfold doS
 split
 ·exact h.sub λi hi=>(jB.1 hi).1
 split
 ·unfold xf
  split
  ·exact h
  ·split
   ·exact h.sub λi hi=>(jB.1 hi).1
   ·exact h
 split
 ·unfold wO
  split
  ·exact h
  ·exact h
 ·unfold xI
  by_cases hE:zy st o.txn o.after (WL 18 (o.ops.map OV.abs))=0
  ·rw[jb hE]
   generalize WL 18 (o.ops.map OV.abs)=ops at hE ⊢;unfold zy at hE
   by_cases h1:1099511627776<o.after
   ·rw[jb h1] at hE;cases hE
   rw[ja h1] at hE
   by_cases h2:vP st.dim ops≠0
   ·rw[jb h2] at hE;exact absurd hE h2
   rw[ja h2] at hE
   by_cases h3:(qE st.its o.txn).isSome=true
   ·rw[jb h3] at hE;cases hE
   rw[ja h3] at hE;have hfree:∀i∈st.its,∀x∈ops.map (·.1),x∉i.2.2.map (·.1):=by
    intro i hi x hx hx2;obtain ⟨w,hw,rfl⟩:=jM.1 hx;obtain ⟨u,hu,hux⟩:=jM.1 hx2;have:(ops.any λo=>st.its.any λi=>yx i.2.2 o.1)=true:=ku.2 ⟨w,hw,ku.2 ⟨i,hi,ku.2 ⟨u,hu,jo hux⟩⟩⟩;rw[jb this] at hE
    cases hE
   intro i hi j hj hij x hx
   rcases jy.1 hi with hi|hi
   ·rcases jy.1 hj with hj|hj
    ·exact h i hi j hj hij x hx
    ·obtain rfl:=ji.1 hj
     exact λhx2=>hfree i hi x hx2 hx
   ·obtain rfl:=ji.1 hi
    rcases jy.1 hj with hj|hj
    ·exact hfree j hj x hx
    ·obtain rfl:=ji.1 hj
     exact absurd rfl hij
  ·rw[ja hE];exact h
end Go.Proofs.YtlnfjhiphlfkjaaGreatDoor
namespace Go.Proofs.YtlnfjhiphlfkjaaGreatDoor
open Go Go.SX
structure JOW (j:JS)(n:Nat):Prop where
 w:ZE j.v n
 kp:qm j.parts
 kd:qm j.done
 p:∀t s,qE j.done t=some s→0<s
 m:0≤j.v.mark
 ne:∀c∈j.v.ch,0<c.2.length
 dj:DJ j.v
 pl:j.parts.length≤n
 dl:j.done.length≤n
theorem JOW.le {j:JS}{a b:Nat}(h:JOW j a)(hl:a≤b):JOW j b:=⟨h.w.mono hl,h.kp,h.kd,h.p,h.m,h.ne,h.dj,ke h.pl hl,ke h.dl hl⟩
theorem yf {κ α:Type}[DecidableEq κ](m:List (κ×α))(x:κ)(a:α):(qN m x a).length≤m.length+1:=by
 unfold qN
 split<;>simp
theorem Zb {κ α:Type}[DecidableEq κ](m:List (κ×α))(x:κ):(qO m x).length≤m.length:=kw _ _
theorem jFS {s:Int}{u:List (Int×VL)×GL}(hk:qm u.1)(h:∀c∈u.1,0<c.2.length)(id:Int):∀c∈(W9 s u id).1,0<c.2.length:=by
 intro c hc;unfold W9 at hc;dsimp only at hc
 split at hc
 ·exact h c (jB.1 hc).1
 ·rename_i h0
  rcases wJ u.1 hk id with ⟨p,w,q,e,hp,hq⟩|hno
  ·rw[e] at hc h h0
   rw[wv hp hq] at hc
   rcases jy.1 hc with hc|hc
   ·exact h c (List.mem_append_left _ hc)
   rcases j9.1 hc with rfl|hc
   ·exact Nat.pos_of_ne_zero h0
   ·exact h c (List.mem_append_right _ (jV _ hc))
  ·rw[vJ hno] at hc
   rcases jy.1 hc with hc|hc
   ·exact h c hc
   ·obtain rfl:=ji.1 hc
    exact Nat.pos_of_ne_zero h0
theorem jBG {s:Int}:∀{ks:List Int} {u:List (Int×VL)×GL},qm u.1→(∀c∈u.1,0<c.2.length)→∀c∈(ks.foldl (W9 s) u).1,0<c.2.length
 | [],_,_,h=>h
 |k::ks,u,hk,h=>jBG (ks:=ks) (Yr hk k) (jFS hk h k)
theorem pC {st:VS}{t s:Int}(h0:0≤s)(h:yy st t s=0):0<s:=by
 unfold yy at h
 cases hl:qE st.its t with
 |none=>
  rw[hl] at h;dsimp only at h
  split at h<;>cases h
 |some i=>
  rw[hl] at h;dsimp only at h
  split at h
  ·cases h
  ·omega
theorem Xq {st:VS}{t s:Int}(h:yy st t s=0):∃i,qE st.its t=some i:=by
 unfold yy at h
 cases hl:qE st.its t with
 |none=>
  rw[hl] at h;dsimp only at h
  split at h<;>cases h
 |some i=>exact ⟨i,rfl⟩
theorem DJ.lock {st:VS}(h:DJ st)(t a:Int)(ops:VL):DJ (xI st t a ops):=by
 unfold xI
 split
 ·rename_i hE
  unfold zy at hE
  by_cases h1:1099511627776<a
  ·rw[jb h1] at hE;cases hE
  rw[ja h1] at hE
  by_cases h2:vP st.dim ops≠0
  ·rw[jb h2] at hE;exact absurd hE h2
  rw[ja h2] at hE
  by_cases h3:(qE st.its t).isSome=true
  ·rw[jb h3] at hE;cases hE
  rw[ja h3] at hE;have hfree:∀i∈st.its,∀x∈ops.map (·.1),x∉i.2.2.map (·.1):=by
   intro i hi x hx hx2;obtain ⟨w,hw,rfl⟩:=jM.1 hx;obtain ⟨u,hu,hux⟩:=jM.1 hx2;have:(ops.any λo=>st.its.any λi=>yx i.2.2 o.1)=true:=ku.2 ⟨w,hw,ku.2 ⟨i,hi,ku.2 ⟨u,hu,jo hux⟩⟩⟩;rw[jb this] at hE
   cases hE
  intro i hi j hj hij x hx
  rcases jy.1 hi with hi|hi
  ·rcases jy.1 hj with hj|hj
   ·exact h i hi j hj hij x hx
   ·obtain rfl:=ji.1 hj
    exact λhx2=>hfree i hi x hx2 hx
  ·obtain rfl:=ji.1 hi
   rcases jy.1 hj with hj|hj
   ·exact hfree j hj x hx
   ·obtain rfl:=ji.1 hj
    exact absurd rfl hij
 ·exact h
theorem JOW.app {j:JS}{k:Nat}(h:JOW j k){n:NA}(h0:0≤n.stamp):JOW (yQ j n) (k+1):=by
 unfold yQ
 split
 ·exact h.le zo
 rename_i hE;have hE:QB j n=0:=Decidable.not_not.1 hE;have hr:¬qn n=false:=λhh=>by unfold QB at hE;rw[jb hh] at hE;cases hE
 unfold QB at hE;rw[ja hr] at hE
 split
 ·refine ⟨h.w.lock _ _ _,vy h.kp _ _,h.kd,h.p,?_,?_,h.dj.lock _ _ _,ke (yf _ _ _) (Nat.succ_le_succ h.pl),Nat.le_succ_of_le h.dl⟩
  ·unfold xI;split<;>exact h.m
  ·unfold xI;split<;>exact h.ne
 rename_i c1;rw[ja c1] at hE
 split
 ·rename_i c2
  rw[jb c2] at hE;obtain ⟨i,hi⟩:=Xq hE;have hSv:xf j.v n.txn n.stamp={j.v with ch:=yz n.stamp j.v.ch i.2,its:=qO j.v.its n.txn}:=by unfold xf;rw[hi];dsimp only;rw[jb hE]
  refine ⟨h.w.apply _ _,yo h.kp _,vy h.kd _ _,λt s ht=> ?_,?_,?_,?_,ke (Zb _ _) (Nat.le_succ_of_le h.pl),ke (yf _ _ _) (Nat.succ_le_succ h.dl)⟩
  ·dsimp only at ht
   rw[wa h.kd] at ht
   split at ht
   ·cases ht;exact pC h0 hE
   ·exact h.p t s ht
  ·rw[hSv];exact h.m
  ·rw[hSv]
   exact cD h.w.k1 (h.w.wf.io _ (vM hi)).2.1 h.ne
  ·rw[hSv]
   exact h.dj.sub λi hi=>(jB.1 hi).1
 split
 ·refine ⟨(h.w.free _).mono zo,yo h.kp _,h.kd,h.p,h.m,h.ne,h.dj.sub λi hi=>(jB.1 hi).1,ke (Zb _ _) (Nat.le_succ_of_le h.pl),Nat.le_succ_of_le h.dl⟩
 split
 ·refine ⟨(h.w.sweep _).mono zo,h.kp,h.kd,h.p,?_,?_,?_,Nat.le_succ_of_le h.pl,Nat.le_succ_of_le h.dl⟩
  ·have:=h.m
   dsimp only;unfold wO
   split<;>(try dsimp only)<;>omega
  ·dsimp only
   unfold wO
   split
   ·exact h.ne
   ·exact jBG (u:=(j.v.ch,[])) h.w.k1 h.ne
  ·refine h.dj.sub λi hi=> ?_
   dsimp only at hi;unfold wO at hi
   split at hi<;>exact hi
 ·exact h.le zo
attribute [local irreducible] swp qq qL qJ vZ qh St qi qk vu qH
structure xN (M:OM)(n:NV):Prop where
 p:qI M n.pa n.parts.length 1 (n.parts.map I64)
 o:qI M n.oa n.ops.length 2 (n.ops.flatMap OV.cells)∧okR M n.ops
 v:qI M n.va n.vec.length 1 (n.vec.map zC)
 h:qI M n.ha n.hits.length 3 (n.hits.flatMap HV.cells)
 hv:∀h∈n.hits,qI M h.a h.vec.length 1 (h.vec.map zC)
theorem xN.mono {M M':OM}{n:NV}(h:xN M n)(hl:qV M M'):xN M' n:=⟨h.p.mono hl,⟨h.o.1.mono hl,λo ho=>(h.o.2 o ho).mono hl⟩,h.v.mono hl,h.h.mono hl,λx hx=>(h.hv x hx).mono hl⟩
theorem xN.rd {M:OM}{n:NV}(h:xN M n){L:HL}[xq M L]:RdN L n:=⟨h.p.rd,⟨h.o.1.rd,λo ho=>(h.o.2 o ho).rd⟩,h.v.rd,h.h.rd,λx hx=>(h.hv x hx).rd⟩
def zB (M:OM):Prop:=qI M (some ⟨0,0,none⟩) 46 1 sortsC
theorem zB.mono {M M':OM}(h:zB M)(hl:qV M M'):zB M':=qI.mono h hl
theorem zB.rd {M:OM}(h:zB M){L:HL}[xq M L]:vi L 0 0 sortsC:=by
 have h1:qY L (some ⟨0,0,none⟩) 46 1 sortsC:=qI.rd h
 rcases h1.2 with h2|⟨b,o,e,r⟩
 ·cases h2
 ·cases e;exact r
structure ZX (n:NV):Prop where
 kind:0≤n.kind∧n.kind≤255
 txn:0≤n.txn
 stamp:0≤n.stamp
 mark:0≤n.mark
 after:0≤n.after
abbrev NA.nv (r:NA):NV:=⟨r.kind,r.txn,r.batch,r.stamp,r.after,r.mark,r.query,r.id,r.k,r.ef,r.code,r.who,none,0,[],none,0,[],none,0,[],none,0,[]⟩
theorem qI.nil0 {M:OM}{a:OA}{sz:Nat}:qI M a 0 sz []:=⟨by simp,.inl rfl⟩
theorem xN.nv {M:OM}(r:NA):xN M r.nv:=⟨qI.nil0,⟨qI.nil0,λo ho=>by cases ho⟩,qI.nil0,qI.nil0,λo ho=>by cases ho⟩
theorem OkN.nv (r:NA):OkN r.nv:=⟨jw _,jw _,(λo ho=>by cases ho),jw _,jw _,(λo ho=>by cases ho)⟩
theorem WH (st:VS)(t a:Int)(ops:VL):(xI st t a ops).dim=st.dim:=by
 unfold xI
 split<;>rfl
theorem VO (st:VS)(t s:Int):(xf st t s).dim=st.dim:=by
 unfold xf
 split
 ·rfl
 ·split<;>rfl
theorem Vv (st:VS)(s:Int):(wO st s).dim=st.dim:=by
 unfold wO
 split<;>rfl
structure PV where
 a:OA
 c:Nat
 l:List Int
abbrev PV.val (v:PV):Value:=.slice v.a v.l.length v.c
structure JQ (M:OM)(j:JS)(sf:Int)(ps:List (Int×PV)):Prop where
 s1:1≤sf
 s2:sf=j.v.dim
 pt:ps.map (λu=>(u.1,u.2.l))=j.parts
 ok:∀u∈ps,qI M u.2.a u.2.l.length 1 (u.2.l.map I64)
theorem JQ.mono {M M':OM}{j:JS}{self:Int}{ps:List (Int×PV)}(h:JQ M j self ps)(hl:qV M M'):JQ M' j self ps:=⟨h.s1,h.s2,h.pt,λu hu=>(h.ok u hu).mono hl⟩
structure JX where
 v:Nat
 mp:Nat
 md:Nat
 self:Int
 ps:List (Int×PV)
section
variable {n : Nat} {ops rest : List Oper} {cd : Code} {Q : vm} {f : vL} {L L0 : HL} {M : OM} {j : JS}
end
abbrev zJ (m:Int×NA):List Value:=Value.int .i64 m.1::m.2.nv.cells
abbrev IV.zero :IV:=⟨0,0,none,0,[]⟩
theorem okI.zero {M:OM}:okI M IV.zero:=⟨qI.nil0,λo ho=>by cases ho⟩
end Go.Proofs.YtlnfjhiphlfkjaaGreatDoor
namespace Go.SX
open Go
section
variable {P : Program} {n : Nat} {ops : List Oper} {Q : vm} {f : vL} {A L : HL} {cs : List Nat}
end
section
variable {P : Program} {n : Nat} {ops : List Oper} {Q : vm} {f : vL} {A L : HL} {E cs σ : List Nat} {listed : Array Bool} {held : Bool}
end
section
variable {P : Program} {n : Nat} {ops rest : List Oper} {Q : vm} {f : vL} {A L : HL} {d : Tmp} {ty : TypeId} {pos : String} {af : Array Edge}
end
end Go.SX
namespace Go.Proofs.YtlnfjhiphlfkjaaGreatDoor
open Go Go.SX
attribute [local irreducible] swp qq qL qJ vZ qh St qi qk vu qH
def bR (n:NV)(r:NA):NV:=if r.kind=12 then {n with kind:=12} else r.nv
theorem jDB (xs:List Int):(xs.map I64).all (·.oneCell')=true:=by simp[Value.oneCell']
theorem yF (a:OA)(c:Nat)(xs:List Int)(A:HL)(h:qY A a xs.length 1 (xs.map I64))(hn:xs.length≤1000000):
  qh kY 121 [.slice a xs.length c] A (λv L'=>∃a' c',v=.slice a' xs.length c'∧L'=slO 3 1 a' xs.length c' (xs.map I64)::A):=by
 refine qg Tryz.func121 rfl rfl rfl ?_
 cases a with
 |none=>
  have hx:xs=[]:=by
   rcases h.2 with h0|⟨_,_,h0,_⟩
   ·exact jO h0
   ·cases h0
  subst hx;refine Q.r ?_;exact N.t rfl vj ⟨none,0,rfl,rfl⟩
 |some ad=>
  refine Q.r ?_;(repeat (intro b1;refine Q.r ?_));refine qo (vg (sz:=1) (m:=0) rfl) ?_;refine S.app0 rfl rfl rfl (vG.rd h.sub (jDB _)) zr zo zo (λa5 c5=> ?_);refine Q.r ?_;exact N.t rfl (kZ _) ⟨a5,c5,rfl,rfl⟩
theorem gA {κ α β:Type}[DecidableEq κ](f:α→β)(m:List (κ×α))(x:κ)(a:α):(qN m x a).map (λu=>(u.1,f u.2))=qN (m.map λu=>(u.1,f u.2)) x (f a):=by
 unfold qN;rw[List.any_map];have:((λp:κ×β=>decide (p.1=x))∘λu:κ×α=>(u.1,f u.2))=λp=>decide (p.1=x):=rfl
 rw[this]
 cases m.any λp=>decide (p.1=x) with
 |true=>
  simp only[if_true,kE];refine List.map_congr_left λu _=> ?_
  show (_:κ×β)=if u.1=x then (x,f a) else (u.1,f u.2)
  by_cases h:u.1=x
  ·simp[h]
  ·simp[h]
 |false=>simp
theorem jCV {κ α β:Type}[DecidableEq κ](f:α→β)(m:List (κ×α))(x:κ):(qO m x).map (λu=>(u.1,f u.2))=qO (m.map λu=>(u.1,f u.2)) x:=by
 unfold qO;rw[List.filter_map];rfl
theorem JQ.put {M:OM}{j j':JS}{sf:Int}{ps:List (Int×PV)}(h:JQ M j sf ps){t:Int}{v:PV}(hv:qI M v.a v.l.length 1 (v.l.map I64))(hj:j'.parts=qN j.parts t v.l)(hdm:j'.v.dim=j.v.dim:=by first|rfl|exact WH _ _ _ _|exact VO _ _ _|exact Vv _ _):JQ M j' sf (qN ps t v):=by
 refine ⟨h.s1,h.s2.trans hdm.symm,by rw[hj,←h.pt,gA (λv:PV=>v.l)],λu hu=> ?_⟩;unfold qN at hu
 split at hu
 ·obtain ⟨w,hw,rfl⟩:=jM.1 hu
  split
  ·exact hv
  ·exact h.ok w hw
 ·rcases jy.1 hu with hu|hu
  ·exact h.ok u hu
  ·rw[ji.1 hu];exact hv
theorem JQ.same {M:OM}{j j':JS}{sf:Int}{ps:List (Int×PV)}(h:JQ M j sf ps)(hj:j'.parts=j.parts)(hdm:j'.v.dim=j.v.dim:=by first|rfl|exact WH _ _ _ _|exact VO _ _ _|exact Vv _ _):JQ M j' sf ps:=⟨h.s1,h.s2.trans hdm.symm,by rw[hj,h.pt],h.ok⟩
abbrev J0 (dim:Int):JS:=⟨⟨dim,[],[],0⟩,[],[]⟩
theorem J0.ok {dim:Int}(h1:1≤dim)(h2:dim≤8):JOK (J0 dim) 0:=
 ⟨⟨⟨h1,h2,jz _,(λi hi=>by cases hi),jz _,(λc hc=>by cases hc)⟩,by simp[qm],by simp[qm]⟩,by simp[qm],by simp[qm],(λt s h=>by cases h),(λt s h=>by cases h),ki _,(λc hc=>by cases hc)⟩
section
variable {n : Nat} {ops rest : List Oper} {cd : Code} {Q : vm} {f : vL} {L L0 : HL} {M : OM} {j : JS}
end
abbrev exA :NA:={NA.zero with kind:=3,txn:=7,ops:=[(1,[5])]}
abbrev J1 :JS:=⟨⟨1,[],[(7,0,[(1,[5])])],0⟩,[(7,[])],[]⟩
abbrev J2 :JS:=⟨⟨1,[(1,[(5,[5])])],[],0⟩,[],[(7,5)]⟩
theorem ex1 :Xh (J0 1) 0 exA=⟨[{exA with kind:=12}],[Z4 7 0],[Z4 7 8]⟩:=by kernel_rfl
theorem ex2 :yQ (J0 1) {exA with kind:=12}=J1:=by kernel_rfl
theorem ex3 :Xh J1 0 {NA.zero with kind:=5,txn:=7,stamp:=5}=⟨[XT 7 5],[jGK 7],[]⟩:=by kernel_rfl
theorem ex4 :yQ J1 (XT 7 5)=J2:=by kernel_rfl
theorem J1.ok :JOK J1 1:=by
 have h:=YE (J0.ok (dim:=1) zd zd) (n:=exA) zd 0;rw[ex1] at h
 rcases h with h|h|h|h
 ·cases h
 ·have:=h.2.1.ok
  rw[ex2] at this;exact this
 ·simp at h
 ·simp at h
theorem J2.ok :JOK J2 2:=by
 have h:=YE J1.ok (n:={NA.zero with kind:=5,txn:=7,stamp:=5}) zd 0;rw[ex3] at h
 rcases h with h|h|h|h
 ·cases h
 ·simp at h
 ·have:=h.2.2.1.ok
  rw[ex4] at this;exact this
 ·simp at h
abbrev HV.ov (h:HV):OV:=⟨h.id,h.a,h.c,h.vec⟩
def d7 (k:Nat)(l:List (Int×Int×List Int)):List (Int×Int×List Int):=(l.take k).map λh=>(h.1,h.2.1,h.2.2.take 8)
theorem lH {n:Nat}{l:List (Int×Int×List Int)}(h:l.length≤n):d7 n l=l.map λh=>(h.1,h.2.1,h.2.2.take 8):=by unfold d7;rw[kK h]
theorem pR (n:Nat)(a:OA)(c:Nat)(ops:List HV)(A:HL)(h:qY A a ops.length 3 (ops.flatMap HV.cells))(hv:∀o∈ops,qY A o.a o.vec.length 1 (o.vec.map zC))(hc:∀o∈ops,o.vec.length≤o.c)(hn:ops.length≤9223372036854775807)(hnn:n≤1000000):
  qh kY 107 [.slice a ops.length c,.int .i64 n] A (λv L'=>∃(a':OA) (c':Nat) (us:List HV),us.map HV.abs=d7 n (ops.map HV.abs)∧(∀o∈us,o.vec.length=0∨∃b,o.a=some ⟨b,0,none⟩)∧v=.slice a' us.length c'∧L'=slO 113 3 a' us.length c' (us.flatMap HV.cells)::Jx (us.map HV.ov)::A):=by
 refine qg Tryz.func107 rfl rfl rfl ?_;refine Q.r ?_;refine ql (σ:=Nat×OA×Nat×List HV) (λs=> [(1,.int .i64 n),(8,.slice a ops.length c),(9,.int .i64 ops.length),(5,.slice s.2.1 s.2.2.2.length s.2.2.1),(10,.int .i64 s.1)])
  (λs=>slO 113 3 s.2.1 s.2.2.2.length s.2.2.1 (s.2.2.2.flatMap HV.cells)::Jx (s.2.2.2.map HV.ov)::A)
  (λs=>s.1≤ops.length∧s.2.2.2.map HV.abs=d7 n ((ops.take s.1).map HV.abs)∧∀o∈s.2.2.2,o.vec.length=0∨∃b,o.a=some ⟨b,0,none⟩) (λs=>ops.length - s.1) (0,none,0,[]) zt ?_ ⟨by omega,by simp[d7],by simp⟩ ?_
 ·exact qi.trans (qi.trans l7 vj) (kZ _)
 rintro ⟨k,a3,c3,us⟩ ⟨hk,hus,hua⟩;dsimp only at hk hus hua ⊢;have hul:us.length=min n k:=by
  have:=jj List.length hus
  simp[d7] at this;omega
 by_cases hlt:k<ops.length
 ·obtain ⟨o,ho⟩:=qx hlt
  have hmo:o∈ops:=jn ho;obtain ⟨b,oo,hia,hr⟩:=qY.elem (g:=HV.cells) (λ_=>rfl) h ho rfl;rw[hia]
  repeat (first|(refine GQ.y ?_;refine Q.y ?_)|refine Q.go ?_|(refine GQ.g ?_;refine Q.gq ?_)|(refine GQ.s ?_;refine Q.st ?_)|(refine GQ.a ?_;refine Q.al (λb1=> ?_)))
  by_cases hkn:k<n
  ·refine Q.r ?_;(repeat (intro b1;refine Q.r ?_))
   refine Q.dgo [true,false,false] [7,9,10] [] [0,1,2,3,4,5,6,7,8,9,10,11] ?_;refine Q.rd ?_;refine D.e rfl rfl rfl ?_;refine S.cr rfl (QG o.a o.c 8 o.vec _ ((hv o hmo).sub) (hc o hmo) zo) ?_;rintro _ _ ⟨a',c',rfl,rfl⟩;refine qZ a' (λha'=> ?_);refine Q.r ?_;refine Q.rd ?_;(repeat (intro b1;refine Q.rd ?_));refine D.e rfl rfl rfl ?_;refine S.app rfl rfl (vG.sl vi.row zr zr) zr zo zo (λa4 c4=> ?_);refine Q.r ?_;refine Q.rd ?_;refine Q.r ?_;refine ⟨(k+1,a4,c4,us++[⟨o.id,o.dist,a',c',o.vec.take 8⟩]),⟨rfl,rfl,rfl,jj some (by simp),rfl,trivial⟩,?_,⟨by dsimp only;omega,?_,?_⟩,by dsimp only;omega⟩
   ·dsimp only
    rw[qG,vK,jq];refine qi.pick (qi.trans ?_ (Z5 (o:=⟨o.id,a',c',o.vec.take 8⟩) rfl));exact eG
   ·dsimp only
    rw[jq,hus,lH (l:=(ops.take k).map HV.abs) (by simp;omega),lH (l:=(ops.take (k+1)).map HV.abs) (by simp;omega),qA ho,jq,jq];rfl
   ·intro u hu
    rcases jy.1 hu with hu|hu
    ·exact hua u hu
    ·obtain rfl:=ji.1 hu
     exact ha'
  ·refine Q.r ?_;(repeat (intro b1;refine Q.r ?_))
   refine ⟨(k+1,a3,c3,us),zt,by exact eG,⟨by dsimp only;omega,?_,hua⟩,by dsimp only;omega⟩;dsimp only;rw[hus];unfold d7;rw[←List.map_take,←List.map_take,List.take_take,List.take_take,show min n k=min n (k+1) by omega]
 ·have hke:k=ops.length:=by omega
  subst hke;rw[jI] at hus;refine Q.r ?_;exact N.t rfl eG ⟨a3,c3,us,hus,hua,rfl,rfl⟩
theorem bH (us:List OV){n:Nat}{ops rest:List Oper}{Q:vm}{f:vL}{L L0 L1:HL}{M:OM}[h:xp (Jx us) L L0][h1:xw L0 M L1](hk:∀M',qV M M'→okR M' us→(∀o∈us,o.vec.length≤o.c)→qq kY n ops rest Q f (qp M'::L1)):qq kY n ops rest Q f L:=
 qo (h.ent.trans (sZ us)) (dD λM'=>YK (Ke λhh=>hk M' hh.1 hh.2.1 hh.2.2))
def NA.few (n:NA):NA:={n with parts:=n.parts.take 6,ops:=WL 18 n.ops,vec:=n.vec.take 10,hits:=d7 18 n.hits}
structure mO (n:NV):Prop where
 p:n.parts.length≤n.pc
 ov:∀o∈n.ops,o.vec.length≤o.c
 v:n.vec.length≤n.vc
 hv:∀h∈n.hits,h.vec.length≤h.c
 p2:n.parts.length≤9223372036854775807
 o2:n.ops.length≤9223372036854775807
 v2:n.vec.length≤9223372036854775807
 h2:n.hits.length≤9223372036854775807
theorem jAV (n:NV)(M:OM)(L:HL)(hn:xN M n)(hc:mO n):
  qh kY 40 [n.val] (qp M::L) (λr L'=>∃(n':NV) (M':OM),r=n'.val∧qV M M'∧xN M' n'∧mO n'∧n'.ops.length≤n'.oc∧n'.abs=n.abs.few∧L'=qp M'::L):=by
 have hc1:=hc.p;have hc2:=hc.p2;refine qg Tryz.func40 rfl rfl rfl ?_;have hl:(n.parts.take 6).length=min 6 n.parts.length:=jP ..;refine Q.r ?_;(repeat (intro b1;refine Q.r ?_));refine qo (vg (sz:=1) (m:=0) rfl) ?_;refine Q.r ?_;have hrM:qI M n.pa (n.parts.take 6).length 1 ((n.parts.take 6).map I64):=by
  have:=hn.p.take (k:=min 6 n.parts.length) zo;rw[hl];rw[jX,←List.map_take] at this
  rwa [←List.take_eq_take_min] at this
 refine S.y (Y.slT (h:=(n.parts.take 6).length) rfl rfl (by rw[hl];omega) zo) ?_;refine S.app0 rfl rfl rfl (vG.rd hrM.rd (jDB _)) zr zo zo (λa5 c5=> ?_);refine zm a5 (λhc5=> ?_);refine qR a5 (λM1 hl1 hs1=> ?_);refine Q.r ?_;refine Q.dgo [false,false,true] [2,5,8,10,12,14] [10] [0,1,3,4,6,7,2,9,5,8,10,11,12,13,14] ?_;refine Q.rd ?_;refine D.e rfl rfl rfl ?_;refine S.cr rfl (jA8 18 n.oa n.oc n.ops _ (hn.mono hl1).rd.o hc.ov hc.o2 zo) ?_;rintro _ _ ⟨a6,c6,us,hus,_,rfl,rfl⟩;refine zm a6 (λhc6=> ?_);refine qR a6 (λM2 hl2 hs2=> ?_);refine bH us (λM3 hl3 hs3 hc3=> ?_);refine Q.r ?_;refine Q.rd ?_;refine D.e rfl rfl rfl ?_;refine S.cr rfl (pR 18 n.ha n.hc n.hits _ (hn.mono (hl1.trans (hl2.trans hl3))).rd.h (hn.mono (hl1.trans (hl2.trans hl3))).rd.hv hc.hv hc.h2 zo) ?_;rintro _ _ ⟨a7,c7,hs,hhs,_,rfl,rfl⟩;refine qR a7 (λM4 hl4 hs4=> ?_);refine bH (hs.map HV.ov) (λM5 hl5 hs5 hc5'=> ?_);refine Q.r ?_;refine Q.rd ?_;refine D.e rfl rfl rfl ?_;refine S.cr rfl (QG n.va n.vc 10 n.vec _ (hn.mono (hl1.trans (hl2.trans (hl3.trans (hl4.trans hl5))))).rd.v hc.v zo) ?_;rintro _ _ ⟨a8,c8,rfl,rfl⟩;refine zm a8 (λhc8=> ?_);refine qR a8 (λM6 hl6 hs6=> ?_);refine Q.r ?_;refine Q.rd ?_;refine Q.dc rfl rfl rfl rfl ?_;refine Q.r ?_;refine Q.rd ?_;refine Q.r ?_;have hm6:qV M M6:=hl1.trans (hl2.trans (hl3.trans (hl4.trans (hl5.trans hl6))));refine N.r1 RV.c ?_ ⟨⟨n.kind,n.txn,n.batch,n.stamp,n.after,n.mark,n.query,n.id,n.k,n.ef,n.code,n.who,a5,c5,n.parts.take 6,a6,c6,us,a8,c8,n.vec.take 10,a7,c7,hs⟩,M6,rfl,hm6,?_,?_,hc6,?_,rfl⟩
 ·exact eG
 ·exact ⟨hs1.mono (hl2.trans (hl3.trans (hl4.trans (hl5.trans hl6)))),⟨hs2.mono (hl3.trans (hl4.trans (hl5.trans hl6))),λo ho=>(hs3 o ho).mono (hl4.trans (hl5.trans hl6))⟩,hs6,hs4.mono (hl5.trans hl6),λh hh=>(hs5 h.ov (jA (f:=HV.ov) hh)).mono hl6⟩
 ·have ho:=jj List.length hus
  have hh:=jj List.length hhs
  simp[WL,d7] at ho hh
  exact ⟨hc5,hc3,hc8,λh hh=>hc5' h.ov (jA (f:=HV.ov) hh),by dsimp only;rw[jP];omega,by dsimp only;omega,by dsimp only;rw[jP];omega,by dsimp only;omega⟩
 ·simp only[NV.abs,NA.few,hus,hhs]
end Go.Proofs.YtlnfjhiphlfkjaaGreatDoor
namespace Go.Proofs.YtlnfjhiphlfkjaaGreatDoor
open Go Go.SX
def jHC :List (List UInt8):=[[],[98,111],[98,115,99],[116,97,112,111],[116,99],[116,115,99],[116],[116],[113,105,107,101,118],[115,109,113,105,107,101,118],[113,99,104],[115,113,99,104],[116,97,112,111],[116,115],[116],[109],[109],[116,98,115,112],[116],[116,98,97,119,112,111],[116,119],[116,119],[116]]
def xd (k:Nat):List UInt8:=(jHC[k]?).getD []
def vn (k:Nat)(f:UInt8):Bool:=(xd k).any λx=>decide (x=f)
def abc :List UInt8:=[116,98,115,97,109,113,105,107,101,99,119,112,111,118,104]
set_option maxRecDepth 100000 in
theorem vf (k i:Nat)(hi:i<15):(fldN k).testBit i=vn k (abc.getD i 0):=by
 by_cases h:k<23
 ·exact (by decide:∀k,k<23→∀i,i<15→(fldN k).testBit i=vn k (abc.getD i 0)) k h i hi
 ·have h1:xd k=[]:=by
   unfold xd;rw[List.getElem?_eq_none (by show 23≤k;omega)];rfl
  have h2:fldN k=0:=by
   unfold fldN
   split<;>first|omega|rfl
  rw[h2];unfold vn;rw[h1];simp
def xy (k:Nat)(f:UInt8)(n most:Int):Bool:=decide (n≤most)&&(decide (n=0)||vn k f)
def Q6 (k:Nat)(n:NA):Bool:=
 xy k 116 n.txn 18446744073709551615&&xy k 98 n.batch 18446744073709551615&&xy k 115 n.stamp 1099511627776&&xy k 97 n.after 1099511627776&&xy k 109 n.mark 1099511627776&&xy k 113 n.query 18446744073709551615&&xy k 105 n.id 1099511627776&&xy k 107 n.k 16&&xy k 101 n.ef 256&&xy k 99 n.code 13&&xy k 119 n.who 15
def ZL (k:Nat)(n:NA):Bool:=
 xy k 112 n.parts.length 4&&xy k 111 n.ops.length 16&&xy k 118 n.vec.length 8&&xy k 104 n.hits.length 16&&ws n.vec
structure xW (n:NA):Prop where
 kind:0≤n.kind∧n.kind≤255
 txn:0≤n.txn∧n.txn≤18446744073709551615
 batch:0≤n.batch∧n.batch≤18446744073709551615
 stamp:0≤n.stamp∧n.stamp≤18446744073709551615
 after:0≤n.after∧n.after≤18446744073709551615
 mark:0≤n.mark∧n.mark≤18446744073709551615
 query:0≤n.query∧n.query≤18446744073709551615
 id:0≤n.id∧n.id≤18446744073709551615
 k:n.k≤9223372036854775807
 ef:n.ef≤9223372036854775807
 code:n.code≤9223372036854775807
 who:n.who≤9223372036854775807
theorem yK {k:Nat}{f:UInt8}{n most:Int}(h:0≤n):xy k f n most=true↔n≤most∧((!decide (0<n))||vn k f)=true:=by
 unfold xy;rw[jF,decide_eq_true_iff];have:decide (n=0)= !decide (0<n):=by
  by_cases h0:n=0
  ·subst h0;rfl
  ·rw[jv h0,jo (by omega:0<n)];rfl
 rw[this]
theorem dH {k:Nat}{f:UInt8}{n most:Int}:xy k f n most=true↔n≤most∧((!(!decide (n=0)))||vn k f)=true:=by
 unfold xy;rw[jF,decide_eq_true_iff,Bool.not_not]
theorem sR {v:List Int}(h:ws v=true):(v.length:Int)≤8:=by
 by_cases h0:v.length=0
 ·omega
 ·unfold ws wQ at h
  rw[jv h0] at h;simp only[jR,jF,jS] at h;omega
theorem tD {n:NA}(u:xW n):qn n=(decide (1≤n.kind∧n.kind≤22)&& !(decide (n.k<0)||decide (n.ef<0)||decide (n.code<0)||decide (n.who<0))&&(Q6 n.kind.toNat n&&(ZL n.kind.toNat n&&(vX n.parts&&(!(n.ops.any xv)&& !(n.hits.any yd)))))):=by
 rw[Bool.eq_iff_iff];have hb:∀i,i<15→(fldN n.kind.toNat).testBit i=vn n.kind.toNat (abc.getD i 0):=λi hi=>vf _ i hi
 unfold qn vV Q6 ZL;simp only[NA.bits,List.zipIdx_cons,List.zipIdx_nil,List.all_cons,List.all_nil,kR,Nat.reduceAdd,hb 0 zd,hb 1 zd,hb 2 zd,hb 3 zd,hb 4 zd,hb 5 zd,hb 6 zd,hb 7 zd,hb 8 zd,hb 9 zd,hb 10 zd,hb 11 zd,hb 12 zd,hb 13 zd,hb 14 zd];have e:∀i x,abc.getD i 0=x→abc.getD i 0=x:=λ_ _ h=>h
 simp only[show abc.getD 0 0=116 from rfl,show abc.getD 1 0=98 from rfl,show abc.getD 2 0=115 from rfl,show abc.getD 3 0=97 from rfl,show abc.getD 4 0=109 from rfl,show abc.getD 5 0=113 from rfl,show abc.getD 6 0=105 from rfl,show abc.getD 7 0=107 from rfl,show abc.getD 8 0=101 from rfl,show abc.getD 9 0=99 from rfl,show abc.getD 10 0=119 from rfl,show abc.getD 11 0=112 from rfl,show abc.getD 12 0=111 from rfl,show abc.getD 13 0=118 from rfl,show abc.getD 14 0=104 from rfl];simp only[jF,yK u.txn.1,yK u.batch.1,yK u.stamp.1,yK u.after.1,yK u.mark.1,yK u.query.1,yK u.id.1,yK (kQ n.parts.length),yK (kQ n.ops.length),yK (kQ n.vec.length),yK (kQ n.hits.length)];rw[dH,dH,dH,dH];have u1:=u.txn;have u2:=u.batch;have u3:=u.query;have u4:=u.stamp;simp only[kL,Bool.or_eq_false_iff,decide_eq_true_iff,j5,Bool.not_eq_false',and_assoc,and_true]
 constructor
 ·rintro ⟨k1,k2,h0,h1,h2,h3,h4,h5,h6,h7,h8,h9,h10,h11,h12,h13,h14,b1,b2,b3,b4,b5,b6,b7,q1,q2,q3,q4,q5,q6,q7⟩
  have hb8:=sR q4
  repeat' apply And.intro
  all_goals first|assumption|omega
 ·rintro ⟨k1,k2,c1,c2,c3,c4,a0,h0,a1,h1,a2,h2,a3,h3,a4,h4,a5,h5,a6,h6,a7,h7,a8,h8,a9,h9,a10,h10,a11,h11,a12,h12,a13,h13,a14,h14,q4,q5,q6,q7⟩
  repeat' apply And.intro
  all_goals first|assumption|omega
def jI5 (j:JS)(f:Int)(n:NA)(w raw:Bool):JS:=if raw then yQ j n else if w then (Xh j f n).rec_.foldl yQ j else j
end Go.Proofs.YtlnfjhiphlfkjaaGreatDoor
