/- Walks of functions, and plain laws, that the last text rests on. No condition. -/
import Derived.ReadAgain
import Derived.ChangeArms
import Derived.WideShapes
import Derived.KernelRfl
import Derived.Test.YtlnfjhiphlfkjaaGreatDoorRows
import Derived.WalkKit
import Derived.ProofKit
import Derived.OpenShut
import Derived.DataShut
import Derived.Test.YtlnfjhiphlfkjaaGreatDoorCards
import Derived.Test.YtlnfjhiphlfkjaaGreatDoorTie
import Derived.Deep.DeepHandedRow
import Derived.Lib.LaidTab
import Derived.Lib.AppendZerosOnto
import Derived.Lib.Overlaps
import Derived.Laws.MakeOwn
import Derived.Lib.MakeNoZero
import Derived.Laws.Externs
import Derived.Shelf.Small.Bits
import Derived.Shelf.Strconv.Atoi
import Derived.Shelf.Strconv.Itoa0
import Derived.Shelf.Strconv.Itoa1
import Derived.Shelf.LaysM
import Derived.Shelf.Strconv.Itoa2
import Derived.Shelf.Strconv.Itoa3
import Derived.Shelf.Strconv.AtoiErrFast
import Derived.Shelf.Strconv.ParseIntEmpty
import Derived.Shelf.Strconv.AtoiFail
import Derived.Shelf.Strconv.Clone
import Derived.Shelf.Strconv.SyntaxError
import Derived.Shelf.LaysC
import Derived.Shelf.Strconv.ToError
import Derived.Shelf.Strconv.Lower
import Derived.Shelf.Strconv.ParseUint10
import Derived.Shelf.Strconv.ParseUint10Empty
import Derived.Shelf.Strconv.ParseUint10Any
import Derived.Shelf.Strconv.ParseInt10
import Derived.Shelf.Strconv.AtoiLong
import Derived.Shelf.Strconv.AtoiInnerAll
import Derived.Shelf.Strconv.RangeError
import Derived.Shelf.Strconv.ToErrorRange
import Derived.Shelf.Strconv.AtoiAll
import Derived.Shelf.Strconv.ErrVarAll
import Derived.Shelf.Sort.Plain
import Derived.Shelf.Slices.In.SortNone
import Derived.Test.YtlnfjhiphlfkjaaGreatDoorChecked
import Derived.Stop.LaidErr
import Derived.Lay
import Derived.Test.YtlnfjhiphlfkjaaGreatDoorPk04
set_option linter.unusedVariables false
set_option linter.unusedSimpArgs false
set_option linter.unusedSectionVars false
set_option maxHeartbeats 2000000
namespace Go.Proofs.YtlnfjhiphlfkjaaGreatDoor
open Go Go.SX
attribute [local irreducible] swp qq qM qL vX qh St qi qk vu qG
def jFD (A:HL)(a:OA)(xs:List NV):Prop:=qW A a xs.length 16 (xs.flatMap NV.cells)∧∀n∈xs,RdN A n∧OkN n
def jFE (A:HL)(a:OA)(xs:List (Int×NV)):Prop:=qW A a xs.length 17 (xs.flatMap vx)∧∀n∈xs,RdN A n.2∧OkN n.2
theorem jFD.sub {A L:HL}{a:OA}{xs:List NV}(h:jFD A a xs)[s:tg A L]:jFD L a xs:=⟨h.1.sub,λn hn=>⟨(h.2 n hn).1.sub,(h.2 n hn).2⟩⟩
theorem jFE.sub {A L:HL}{a:OA}{xs:List (Int×NV)}(h:jFE A a xs)[s:tg A L]:jFE L a xs:=⟨h.1.sub,λn hn=>⟨(h.2 n hn).1.sub,(h.2 n hn).2⟩⟩
structure EO where
 fr:Int
 n:NV
 w:Bool
 r:Bool
 ask:Int
 id:Int
abbrev EO.cells (o:EO):List Value:=[.int .i64 o.fr,.int .u8 o.n.kind,.int .u64 o.n.txn,.int .u64 o.n.batch,.int .u64 o.n.stamp,.int .u64 o.n.after,.int .u64 o.n.mark,.int .u64 o.n.query,.int .u64 o.n.id,.int .i64 o.n.k,.int .i64 o.n.ef,.int .i64 o.n.code,.int .i64 o.n.who,
 .slice o.n.pa o.n.parts.length o.n.pc,.slice o.n.oa o.n.ops.length o.n.oc,.slice o.n.va o.n.vec.length o.n.vc,.slice o.n.ha o.n.hits.length o.n.hc,.bool o.w,.bool o.r,.int .u64 o.ask,.int .u64 o.id]
structure EOK (M:OM)(o:EO):Prop where
 n:xt M o.n
 c:nF o.n
 u:Zf o.n
 uu:yF o.n.abs
theorem EOK.mono {M M':OM}{o:EO}(h:EOK M o)(hl:qU M M'):EOK M' o:=⟨h.n.mono hl,h.c,h.u,h.uu⟩
theorem Zf.few {n':NV}{n:NV}(h:Zf n)(e:n'.abs=n.abs.few):Zf n':=by
 have e1:n'.kind=n.kind:=jj NA.kind e;have e2:n'.txn=n.txn:=jj NA.txn e;have e3:n'.stamp=n.stamp:=jj NA.stamp e;have e4:n'.mark=n.mark:=jj NA.mark e;have e5:n'.after=n.after:=jj NA.after e;exact ⟨by rw[e1];exact h.kind,by rw[e2];exact h.txn,by rw[e3];exact h.stamp,by rw[e4];exact h.mark,by rw[e5];exact h.after⟩
section
variable {n : Nat} {ops rest : List Oper} {Q : vk} {f : vF} {L L0 : HL} {M : OM}
end
structure jH6 (j:JS)(k:Nat)(P:List (Int×Bool)):Prop where
 ok:JOK j k
 kP:qn P
 pr:∀t,(qJ j.v.its t).isSome=true→qJ P t=some true
structure S5 where
 b9:Nat
 b10:Nat
 ra:OA
 rc:Nat
 ma:OA
 mc:Nat
 ea:OA
 ec:Nat
 qa:OA
 qc:Nat
 qb:OA
 qd:Nat
 qe:OA
 qf:Nat
 M:OM
theorem yF.few {n':NV}{n:NV}(h:yF n.abs)(e:n'.abs=n.abs.few):yF n'.abs:=by
 rw[e];exact ⟨h.kind,h.txn,h.batch,h.stamp,h.after,h.mark,h.query,h.id,h.k,h.ef,h.code,h.who⟩
structure jH5 (n2 n1:NV)(r:NA):Prop where
 e1:(ZN n2 r).abs=r
 e2:(liftQ n1 r).abs=r
 n2:Zf (ZN n2 r)
 u1:yF (liftQ n1 r).abs
theorem xt.lift {M:OM}{n:NV}(h:xt M n)(r:NA):xt M (ZN n r):=by
 unfold ZN
 split
 ·exact ⟨h.p,h.o,h.v,h.h,h.hv⟩
 ·exact xt.nv r
theorem OkN.lift {n:NV}(h:OkN n)(r:NA):OkN (ZN n r):=by
 unfold ZN
 split
 ·exact ⟨h.p,h.o,h.ov,h.v,h.h,h.hv⟩
 ·exact OkN.nv r
theorem xt.liftQ {M:OM}{n:NV}(h:xt M n)(r:NA):xt M (liftQ n r):=by
 unfold Go.Proofs.YtlnfjhiphlfkjaaGreatDoor.liftQ
 split
 ·exact ⟨h.p,h.o,qH.nil0,qH.nil0,λo ho=>by cases ho⟩
 ·exact xt.nv r
theorem OkN.liftQ {n:NV}(h:OkN n)(r:NA):OkN (liftQ n r):=by
 unfold Go.Proofs.YtlnfjhiphlfkjaaGreatDoor.liftQ
 split
 ·exact ⟨h.p,h.o,h.ov,jw _,jw _,λo ho=>by cases ho⟩
 ·exact OkN.nv r
theorem JOW.zero {dim:Int}(h1:1≤dim)(h2:dim≤8):JOW ⟨⟨dim,[],[],0⟩,[],[]⟩ 0:=
 ⟨⟨⟨h1,h2,jz _,(λi hi=>by cases hi),jz _,(λc hc=>by cases hc)⟩,by simp[qn],by simp[qn]⟩,by simp[qn],by simp[qn],(λt s h=>by cases h),ki _,(λc hc=>by cases hc),(λi hi=>by cases hi),jz _,jz _⟩
attribute [local irreducible] zc
theorem mY {α:Type}(rr:α→Value)(bm b:Nat)(m:List (Int×α))(A:HL):VT kY 133 [.pointer (some ⟨bm,0,none⟩)] U64 m.length (λks=>ks.Perm (m.map (·.1)))
  (pt bm (cl [.map (some b)] 129)::Vp U64 rr b m::A) (Vp U64 rr b m::A):=by
 intro l J hJ;refine qg Tryz.func133 rfl rfl rfl ?_;refine Q.r ?_;refine S.rg rfl (λr=> ?_);refine Q.r ?_;refine ql (σ:=List Nat) (λvis=> [(0,.func (.yield l) #[] #[]),(5,.pointer (some ⟨r,0,none⟩))])
  (λvis=>J (vis.filterMap λi=>(m[i]?).map (·.1))::ZO U64 rr b r m vis::A) (λvis=>vis.Nodup∧∀i∈vis,i<m.length) (λvis=>m.length - vis.length) [] zt (by simp only[List.filterMap_nil];exact eG) ⟨by simp,by simp⟩ ?_
 rintro vis ⟨hv1,hv2⟩;refine Q.r ?_;refine S.nx rfl (λhend=> ?_) (λi p hp hi=> ?_)
 ·refine Q.r ?_
  exact N.n0 RV.nil (qi.cons Qn) ⟨_,Xi _ hv1 hv2 hend,rfl⟩
 ·have hil:i<m.length:=(jm.1 hp).1
  obtain ⟨hm1,hm2,hm3⟩:=Kz hv1 hv2 hil hi;have hvl:(vis.filterMap λi=>(m[i]?).map (·.1)).length≤vis.length:=List.length_filterMap_le _ _;have happ:((vis++[i]).filterMap λi=>(m[i]?).map (·.1))=(vis.filterMap λi=>(m[i]?).map (·.1))++[p.1]:=by
   rw[List.filterMap_append];simp[hp]
  refine Q.r ?_;refine S.y (Y.en rfl hp) ?_;refine S.y (Y.ext rfl rfl) ?_;refine S.y (Y.as rfl) ?_;refine qO ?_;refine N.tn ?_;refine wl ?_;refine zT ?_;refine qy (λ_ h=>by cases h) rfl ?_;refine Q.r ?_;refine qy (λ_ h=>by cases h) rfl ?_;refine Q.r ?_;refine J8 rfl rfl ((hJ _ p.1 zo).frame (R:=_)) ?_;refine qy (λ_ h=>by cases h) rfl ?_;refine Q.r ?_;refine wB ?_;refine Q.r ?_;refine ⟨vis++[i],zt,?_,⟨hm1,hm2⟩,by simp;omega⟩;rw[happ];exact eG
theorem Zg (mo:Option Nat)(L:HL):qh kY 67 [.map mo] L
  (λv L'=>∃bm,v=.func (.func 133) #[] [.pointer (some ⟨bm,0,none⟩)].toArray∧L'=pt bm (cl [.map mo] 129)::L):=by
 refine qg Tryz.func67 rfl rfl rfl ?_;refine Q.r ?_;(repeat (intro b1;refine Q.r ?_));refine S.y (Y.mf rfl rfl) ?_;refine Q.r ?_;exact N.t rfl (kZ _) ⟨_,rfl,rfl⟩
def jCU {α:Type}(m:List (Int×α)):List (Int×α):=(vo (m.map (·.1))).filterMap λk=>(qJ m k).map λa=>(k,a)
abbrev bY (v:Int×List Int):List UInt8:=numI v.1++vW v.2
abbrev jC2 (e:Int×VL):List UInt8:=numI e.1++numI (e.2.length:Int)++e.2.flatMap bY
abbrev jA3 (x:Int):List UInt8:=numI (IntKind.u64.wrap x)
abbrev jC1 (parts:List (Int×List Int))(i:Int×Int×VL):List UInt8:=numI i.1++numI i.2.1++numI (((qJ parts i.1).getD []).length:Int)++((qJ parts i.1).getD []).flatMap jA3++numI (i.2.2.length:Int)++i.2.2.flatMap bY
abbrev jA4 (done:List (Int×Int))(t:Int):List UInt8:=numI t++numI ((qJ done t).getD 0)
def WC (j:JS):List UInt8:=
 numI j.v.mark++numI ((jCU j.v.ch).length:Int)++(jCU j.v.ch).flatMap jC2++numI ((jCU j.v.its).length:Int)++(jCU j.v.its).flatMap (jC1 j.parts)++numI (j.done.length:Int)++(vo (j.done.map (·.1))).flatMap (jA4 j.done)
end Go.Proofs.YtlnfjhiphlfkjaaGreatDoor
namespace Go.Proofs.YtlnfjhiphlfkjaaGreatDoor
open Go Go.SX
structure JPK (j:JS):Prop where
 m:j.v.mark≤18446744073709551615
 its:∀i∈j.v.its,i.1≤18446744073709551615∧i.2.1≤18446744073709551615∧∀o∈i.2.2,o.1≤18446744073709551615
 ch:∀c∈j.v.ch,c.1≤18446744073709551615∧∀v∈c.2,v.1≤18446744073709551615
 done:∀d∈j.done,d.1≤18446744073709551615∧d.2≤18446744073709551615
 parts:∀u∈j.parts,u.2.length≤4
theorem JPK.zero {dim:Int}:JPK ⟨⟨dim,[],[],0⟩,[],[]⟩:=⟨by show (0:Int)≤18446744073709551615;decide,(λi hi=>by cases hi),(λi hi=>by cases hi),(λi hi=>by cases hi),(λi hi=>by cases hi)⟩
attribute [local irreducible] swp qq qM qL vX qh St qi qk vu qG
theorem yg {α:Type}{f:α→List UInt8}{c:Nat}:∀{l:List α},(∀x∈l,(f x).length≤c)→(l.flatMap f).length≤l.length*c
 | [],_=>by simp
 |x::l,h=>by
  have h1:=h x (by simp);have h2:=yg (f:=f) (c:=c) (l:=l) (λy hy=>h y (jV _ hy));rw[jK,jc,jC,Nat.succ_mul];omega
theorem jAs {v:List Int}(h:v.length≤8):(vW v).length≤90:=by
 unfold vW;have h1:=qp (z:=(v.length:Int)) zo;have h2:(v.flatMap λn=>numI (QT n)).length≤v.length*10:=yg λn _=>qp (lA _)
 rw[jc];omega
theorem WB {v:Int×List Int}(h:v.1≤18446744073709551615)(h2:v.2.length≤8):(bY v).length≤100:=by
 have:=qp h;have:=jAs h2;rw[jc];omega
theorem yG {α:Type}{l:List α}{f:α→List UInt8}{c:Nat}(k:Nat)(h:∀x∈l,(f x).length≤c):((l.take k).flatMap f).length≤l.length*c:=by
 refine ke (yg λx hx=>h x (List.mem_of_mem_take hx)) (Nat.mul_le_mul_right c (by rw[jP];omega))
theorem QN {α:Type}{l:List α}{k:Nat}{x:α}{f:α→List UInt8}(h:l[k]? =some x):(l.take (k+1)).flatMap f=(l.take k).flatMap f++f x:=by rw[qz h,kS];simp
theorem qW.row1 {L:HL}{b n:Nat}{l:List Value}{t:TypeId}[h:y9 b L (cl l t)](hl:l.length=n):qW L (some ⟨b,0,none⟩) n 1 l:=⟨by rw[hl,jX],.inr ⟨b,0,rfl,vg.row⟩⟩
theorem jAo {w:Nat}{L:HL}:qi (pt w (cl [.slice none 0 0] 139)::L) (wH w []::L):=qi.trans (qi.cons vh) (bE (a:=none) (c:=0) (bs:=[]))
theorem jCp {P:Program}{n:Nat}{ops:List Oper}{o:Oper}{f:vF}{A:HL}{v v':Value}(h:qk P n ops o f A v)(e:v=v'):qk P n ops o f A v':=e▸h
end Go.Proofs.YtlnfjhiphlfkjaaGreatDoor
namespace Go.SX
open Go Go.ChangeShapes Go.WideShapes Go.RowKit
section
variable {H : Type} {enc : TypeId × Value → H} {P : Program} {W : World}
def Rd (enc:TypeId×Value→H)(P:Program)(W:World)(t:TypeId)(cs:List Value):Prop:=∃n x,DataW.trod enc P W 0 (λ_=>true) true n t cs=some x
theorem K1 {w:World}{base:Nat}{a:Addr}{n:Nat}{cs:List Value}(h:w.cells? base a n=some cs):cs.length=n∧∀j,j<n→w.cell? (a.add j)=cs[j]? :=by
 unfold World.cells? at h
 split at h
 ·exact ⟨by simpa using mapM_some_length h,λj hj=>by simpa using mapM_some_get h j j (by simp[hj])⟩
 ·cases h
theorem mL {w:World}{a:Addr}{v:Value}(h:w.cell? a=some v):∃l t fz,w.heap[a.block]? =some (.cells l t fz)∧l[a.off]? =some v∧a.spot=none:=by
 unfold World.cell? at h
 split at h
 ·rename_i c t fz hb
  split at h
  ·cases h
  ·rename_i hs
   refine ⟨c,t,fz,hb,h,by simpa using hs⟩
 ·cases h
theorem jCm (x y n:Nat):(⟨x,y,none⟩:Addr).add n=⟨x,y+n,none⟩:=by unfold Addr.add;split<;>simp_all
theorem pz {sz:Nat}:∀{rows:List (List Value)} {j:Nat} {v:Value},(∀r∈rows,r.length=sz)→rows.flatten[j]? =some v→∃k r i,rows[k]? =some r∧r[i]? =some v∧j=k*sz+i
 | [],j,v,_,h=>by simp at h
 |r::rows,j,v,hr,h=>by
  have h0:=hr r (by simp);rw[List.flatten_cons] at h
  by_cases hj:j<r.length
  ·rw[ko hj] at h
   exact ⟨0,r,j,rfl,h,by simp⟩
  ·rw[kG zo] at h
   obtain ⟨k,r',i,h1,h2,h3⟩:=pz (λx hx=>hr x (by simp[hx])) h;exact ⟨k+1,r',i,by simpa using h1,h2,by rw[Nat.succ_mul];omega⟩
theorem Rd.slice {t e:TypeId}{sz:Nat}{cs:List Value}(h:Rd enc P W t cs)(ht:P.underlying t=some (.slice e))(hs:P.cellsOf e=sz)(h0:0<sz):
  ∃(a:OA) (c:Nat) (rows:List (List Value)),cs=[.slice a rows.length c]∧rows.length≤c∧c≤maxLen∧qH (yS W) a rows.length sz rows.flatten∧∀r∈rows,r.length=sz∧Rd enc P W e r:=by
 obtain ⟨n,x,h⟩:=h
 rcases DataW.trod_slice ht h with ⟨rfl,_⟩|⟨a,len,cap,elems,rest,n,rfl,rfl,_,_,hlc,hcm,hel,hat,_⟩
 ·exact ⟨none,0,[],rfl,jz _,jw _,qH.nil,by simp⟩
 ·simp only[hs] at hat
  have hrow:∀i,i<len→∃r y,W.cells? 0 (a.add (i*sz)) sz=some r∧DataW.trod enc P W 0 (λ_=>true) true n e r=some y:=λi hi=>by
   have:=hat i hi;have hi':i<elems.length:=by omega
   rw[jY hi'] at this;obtain ⟨r,h1,h2⟩:=Option.bind_eq_some_iff.1 this;exact ⟨r,_,h1,h2⟩
  let rows:=(List.range len).map λi=>(W.cells? 0 (a.add (i*sz)) sz).getD []
  have hrl:rows.length=len:=by simp[rows]
  have hri:∀i r,rows[i]? =some r→i<len∧W.cells? 0 (a.add (i*sz)) sz=some r:=λi r hr=>by
   have hi:i<len:=by have:=(jm.1 hr).1;omega
   obtain ⟨r',y,h1,_⟩:=hrow i hi;refine ⟨hi,?_⟩;simp only[rows,jZ,List.getElem?_range hi,Option.map_some,jk,h1,Option.getD_some] at hr;rw[←hr];exact h1
  have hmem:∀r∈rows,r.length=sz∧Rd enc P W e r:=λr hr=>by
   obtain ⟨i,hi,rfl⟩:=List.getElem_of_mem hr;obtain ⟨h1,h2⟩:=hri i _ (jY hi);obtain ⟨r',y,h3,h4⟩:=hrow i h1;rw[h2] at h3;cases h3;exact ⟨(K1 h2).1,n,y,h4⟩
  refine ⟨some a,cap,rows,by rw[hrl],by omega,hcm,⟨?_,?_⟩,hmem⟩
  ·have:∀l:List (List Value),(∀r∈l,r.length=sz)→l.flatten.length=l.length*sz:=by
    intro l
    induction l with
    |nil=>simp
    |cons r l ih=>intro h;rw[List.flatten_cons,jc,h r (by simp),ih (λx hx=>h x (by simp[hx])),jC,Nat.succ_mul];omega
   exact this rows λr hr=>(hmem r hr).1
  ·by_cases hl0:len=0
   ·exact .inl zo
   ·refine .inr ?_
    obtain ⟨r0,y0,h1,_⟩:=hrow 0 zo;have h2:=(K1 h1).2 0 h0;have hr0:0<r0.length:=by rw[(K1 h1).1];exact h0
    rw[jY hr0] at h2;obtain ⟨l,tt,fz,hb,hc,hsp⟩:=mL h2;have ea:(a.add (0*sz)).add 0=a:=by simp[Addr.add]
    rw[ea] at hb hc hsp;have eA:a=⟨a.block,a.off,none⟩:=by cases a;simp_all
    refine ⟨a.block,a.off,l,tt,fz,by rw[←eA],hb,λj v hv=> ?_⟩;obtain ⟨k,r,i,h3,h4,rfl⟩:=pz (λr hr=>(hmem r hr).1) hv;obtain ⟨h5,h6⟩:=hri k r h3;have hi:i<sz:=by rw[←(K1 h6).1];exact (jm.1 h4).1
    have h7:=(K1 h6).2 i hi;rw[h4] at h7;have e2:(a.add (k*sz)).add i=⟨a.block,a.off+(k*sz+i),none⟩:=by
     rw[eA,jCm,jCm,Nat.add_assoc]
    rw[e2] at h7;simp only[World.cell?,hb] at h7
    simpa using h7
theorem Rd.list {t e:TypeId}{sz:Nat}{cs:List Value}{α:Type}{g:α→List Value}{Q:α→Prop}(he:∀r,Rd enc P W e r→∃x,r=g x∧Q x)(h:Rd enc P W t cs)(ht:P.underlying t=some (.slice e))(hs:P.cellsOf e=sz)(h0:0<sz):
  ∃(a:OA) (c:Nat) (xs:List α),cs=[.slice a xs.length c]∧xs.length≤c∧c≤maxLen∧qH (yS W) a xs.length sz (xs.flatMap g)∧∀x∈xs,Q x:=by
 obtain ⟨a,c,rows,h1,h2,h3,h4,h5⟩:=h.slice ht hs h0;have key:∀rows:List (List Value),(∀r∈rows,r.length=sz∧Rd enc P W e r)→∃xs:List α,rows=xs.map g∧∀x∈xs,Q x:=by
  intro rows
  induction rows with
  |nil=>exact λ_=>⟨[],rfl,by simp⟩
  |cons r rows ih=>
   intro h;obtain ⟨xs,e1,e2⟩:=ih λx hx=>h x (by simp[hx])
   obtain ⟨x,e3,e4⟩:=he r (h r (by simp)).2;refine ⟨x::xs,by rw[jL,←e1,←e3],λy hy=> ?_⟩
   rcases j9.1 hy with rfl|hy
   ·exact e4
   ·exact e2 y hy
 obtain ⟨xs,e1,e2⟩:=key rows h5;have el:rows.length=xs.length:=by rw[e1,jf]
 rw[el] at h1 h2 h4;refine ⟨a,c,xs,h1,h2,h3,?_,e2⟩;rw[List.flatMap_def,←e1];exact h4
theorem Rd.int {t:TypeId}{k:IntKind}{cs:List Value}(h:Rd enc P W t cs)(ht:P.underlying t=some (.int k)):∃n,cs=[.int k n]∧(Lit.int k n).wf=true:=by
 obtain ⟨n,x,h⟩:=h;obtain ⟨v,h1,_,h2⟩:=DataW.trod_int ht h;exact ⟨v,h1,h2⟩
theorem Rd.bool {t:TypeId}{cs:List Value}(h:Rd enc P W t cs)(ht:P.underlying t=some .bool):∃b,cs=[.bool b]:=by
 obtain ⟨n,x,h⟩:=h;obtain ⟨v,h1,_⟩:=DataW.trod_bool ht h;exact ⟨v,h1⟩
theorem Rd.fields {t:TypeId}{fs:Array Field}{cs:List Value}(h:Rd enc P W t cs)(ht:P.underlying t=some (.struct fs)):cs.length=P.cellsOf t∧∀(i:Nat) (f:Field),fs[i]? =some f→Rd enc P W f.type ((cs.drop f.offset).take (P.cellsOf f.type)):=by
 obtain ⟨n,x,h⟩:=h;obtain ⟨xs,m,_,_,h1,h2,h3⟩:=DataW.trod_struct ht h;refine ⟨h1,λi f hf=> ?_⟩;have:=h3 i f hf;have hi:i<xs.length:=by rw[h2];exact (kj.1 hf).1
 rw[jY hi] at this;exact ⟨m,_,this⟩
theorem Rd.byte {t:TypeId}{cs:List Value}(h:Rd enc P W t cs)(ht:P.underlying t=some (.int .u8)):∃x,cs=[B x]∧True:=by
 obtain ⟨n,rfl,h1⟩:=h.int ht;have h2:0≤n∧n≤255:=bounds_u8 h1;refine ⟨UInt8.ofNat n.toNat,?_,trivial⟩;have:(UInt8.ofNat n.toNat).toNat=n.toNat:=by simp;omega
 simp only[B,this];rw[Int.toNat_of_nonneg h2.1]
theorem Rd.bytes {t e:TypeId}{cs:List Value}(h:Rd enc P W t cs)(ht:P.underlying t=some (.slice e))(he:P.underlying e=some (.int .u8))(hs:P.cellsOf e=1):
  ∃(a:OA) (c:Nat) (bs:List UInt8),cs=[.slice a bs.length c]∧bs.length≤c∧c≤maxLen∧qH (yS W) a bs.length 1 (bs.map B):=by
 obtain ⟨a,c,xs,h1,h2,h3,h4,_⟩:=Rd.list (g:=λx=> [B x]) (λr hr=>hr.byte he) h ht hs zo;refine ⟨a,c,xs,h1,h2,h3,?_⟩;have key:∀xs:List UInt8,xs.flatMap (λx=> [B x])=xs.map B:=λxs=>by induction xs with
  |nil=>rfl
  |cons x xs ih=>rw[jK,ih];rfl
 rwa [key] at h4
theorem mM (K:Kids P (· <P.types.size))(hz:∀t e,t<P.types.size→P.underlying t=some (.slice e)→0<P.cellsOf e){W':World}{ts:List TypeId}{vs:List Value}{ds:List (DataW H)}{ps:List MemPlace}(hT:∀t∈ts,t<P.types.size)
  (h:DataW.TrodAll enc P W 0 (λ_=>true) true ts vs ds ps) (hk:Xf W W') (sp:Nat→Bool) (hs:∀p∈ps,sp p.block=true):DataW.TrodAll enc P W' 0 sp true ts vs ds ps:=
 DataW.TrodAll.respare K hz hT (Vr hk h) hs
theorem XI :∀{ts:List TypeId} {vs:List Value} {ds:List (DataW H)} {ps:List MemPlace},DataW.TrodAll enc P W 0 (λ_=>true) true ts vs ds ps→vs.length=ts.length∧ds.length=ts.length∧∀(i:Nat) (t:TypeId) (v:Value),ts[i]? =some t→vs[i]? =some v→Rd enc P W t v.cells.toList
 | [],[],[],_,_=>⟨rfl,rfl,λi t v h=>by simp at h⟩
 |t::ts,v::vs,d::ds,ps,⟨p,q,⟨n,h1⟩,h2,_⟩=>by
  obtain ⟨e1,e2,e3⟩:=XI h2;refine ⟨by simp[e1],by simp[e2],λi t' v' h h'=> ?_⟩
  cases i with
  |zero=>simp at h h';subst h h';exact ⟨n,_,h1⟩
  |succ i=>exact e3 i t' v' (by simpa using h) (by simpa using h')
structure Arg (enc:TypeId×Value→H)(P:Program)(W:World)(t:TypeId)(v:Value):Prop where
 rd:Rd enc P W t v.cells.toList
 ok:∃base,Value.okWide P W .any base t v
theorem Arg.int {t:TypeId}{k:IntKind}{v:Value}(h:Arg enc P W t v)(ht:P.underlying t=some (.int k)):∃n,v=.int k n∧(Lit.int k n).wf=true:=by
 obtain ⟨r,_,o⟩:=h;obtain ⟨n,rfl⟩:=okWide_int ht o;obtain ⟨m,h1,h2⟩:=r.int ht
 simp[Value.cells] at h1
 subst h1;exact ⟨n,rfl,h2⟩
theorem Arg.bool {t:TypeId}{v:Value}(h:Arg enc P W t v)(ht:P.underlying t=some .bool):∃b,v=.bool b:=by
 obtain ⟨r,_,o⟩:=h;exact okWide_bool ht o
theorem Arg.list {t e:TypeId}{sz:Nat}{v:Value}{α:Type}{g:α→List Value}{Q:α→Prop}(h:Arg enc P W t v)(he:∀r,Rd enc P W e r→∃x,r=g x∧Q x)(ht:P.underlying t=some (.slice e))(hs:P.cellsOf e=sz)(h0:0<sz):
  ∃(a:OA) (c:Nat) (xs:List α),v=.slice a xs.length c∧xs.length≤c∧c≤9223372036854775807∧qH (yS W) a xs.length sz (xs.flatMap g)∧∀x∈xs,Q x:=by
 obtain ⟨r,_,o⟩:=h;obtain ⟨a,l,c,rfl⟩:=okWide_slice ht o;obtain ⟨a',c',xs,h1,h2,h3,h4,h5⟩:=r.list he ht hs h0
 simp[Value.cells] at h1
 obtain ⟨rfl,rfl,rfl⟩:=h1;exact ⟨_,_,xs,rfl,h2,h3,h4,h5⟩
theorem Arg.bytes {t e:TypeId}{v:Value}(h:Arg enc P W t v)(ht:P.underlying t=some (.slice e))(he:P.underlying e=some (.int .u8))(hs:P.cellsOf e=1):
  ∃(a:OA) (c:Nat) (bs:List UInt8),v=.slice a bs.length c∧bs.length≤c∧c≤9223372036854775807∧qH (yS W) a bs.length 1 (bs.map B):=by
 obtain ⟨r,_,o⟩:=h;obtain ⟨a,l,c,rfl⟩:=okWide_slice ht o;obtain ⟨a',c',xs,h1,h2,h3,h4⟩:=r.bytes ht he hs
 simp[Value.cells] at h1
 obtain ⟨rfl,rfl,rfl⟩:=h1;exact ⟨_,_,xs,rfl,h2,h3,h4⟩
theorem jAQ {f:FuncId}{F:Func}{s:ChangeSpec}{tb:TypeId}{args:Array Value}{ds gs:List (DataW H)}{before:List MemPlace}{handsOn again:Bool}(K:Kids P (· <P.types.size))(hz:∀t e,t<P.types.size→P.underlying t=some (.slice e)→0<P.cellsOf e)
  (hT:(F.params.toList.all λt=>decide (t<P.types.size))=true) (hvs:s.vars=[]) (hfn:∀ds:List (DataW H),ds.length=F.params.toList.length→s.fn H ds={results:=[.lit (.bool true)],args:=ds}) (hrt:F.resultTypes= #[tb]) (htb:P.underlying tb=some .bool)
  {base:Nat} (hval:∀(j:Nat) t v,F.params[j]? =some t→args[j]? =some v→Value.okWide P W .any base t v)
  (hW:DataW.Whole enc P F.params.toList s.vars false W args.toList ds gs before)
  (hw:(∀(i:Nat) (t:TypeId) (v:Value),F.params.toList[i]? =some t→args.toList[i]? =some v→Arg enc P W t v)→args.toList.length=F.params.toList.length→qh P f args.toList [qo (yS W)] (λv _=>v=.bool true)):
  Calls P f args W λe W'=>∃v,e=.returned v∧s.post enc P F false true handsOn again W args v W':=by
 have hW':=hW;obtain ⟨p,q,hA,hV,rfl,hfz,hnd⟩:=hW;rw[hvs] at hV;obtain ⟨rfl,rfl⟩:gs=[]∧q=[]:=by
  cases gs with
  |nil=>exact ⟨rfl,hV⟩
  |cons g gs=>exact hV.elim
 obtain ⟨h1,h2,h3⟩:=XI hA;have hc:=(hw (λi t v e1 e2=>⟨h3 i t v e1 e2,base,hval i t v (by simpa using e1) (by simpa using e2)⟩) h1).kept;refine hc.mono λe W' ⟨he,hk⟩=> ?_
 subst he;have hf:=hfn ds h2;refine ⟨_,rfl,rM (pa:=p) (pv:=[]) hW' (λb sp hd=> ?_) (λsp hsp=> ?_) (λsp _=> ?_) rfl hk ?_⟩
 ·rw[hrt,jG,hf]
  exact trodAll_cons_mk (shut_bool htb _) trodAll_mk0
 ·rw[jG,hf]
  exact mM K hz (λt ht=>kV (List.all_eq_true.1 hT t ht)) hA hk sp (λx hx=>hsp x (by simp[hx]))
 ·rw[hvs,jG,hf];rfl
 ·exact ok_one hrt rfl (okWide_bool_mk htb _)
end
end Go.SX
namespace Go.Proofs.YtlnfjhiphlfkjaaGreatDoor
open Go Go.SX Go.ChangeShapes Go.WideShapes Go.ChangeAt Go.RowKit
theorem own :ownKnob Tryz.prog.godebug=none:=by kernel_rfl
theorem Rd.i32 {H:Type}{enc:TypeId×Value→H}{W:World}{cs:List Value}(h:Rd enc kY W 21 cs):∃z,cs=cI z∧True:=by
 obtain ⟨z,hz,_⟩:=Rd.int h Tryz.underlying21;exact ⟨z,hz,trivial⟩
theorem jEI {n:Int}(h:(Lit.int .u64 n).wf=true):0≤n∧n≤18446744073709551615:=by
 have:=(Lit.wf_int_iff .u64 n).1 h;have e1:IntKind.u64.min=0:=by decide
 have e2:IntKind.u64.max=18446744073709551615:=by decide
 rw[e1,e2] at this;exact this
theorem Rd.u64 {H:Type}{enc:TypeId×Value→H}{W:World}{cs:List Value}(h:Rd enc kY W 31 cs):∃z,cs=cU z∧(0≤z∧z≤18446744073709551615):=by
 obtain ⟨z,hz,hw⟩:=Rd.int h Tryz.underlying31;exact ⟨z,hz,jEI hw⟩
theorem Rd.vec {H:Type}{enc:TypeId×Value→H}{W:World}{cs:List Value}(h:Rd enc kY W 36 cs):∃(a:OA) (c:Nat) (xs:List Int),cs=[.slice a xs.length c]∧xs.length≤c∧xs.length≤9223372036854775807∧qH (yS W) a xs.length 1 (xs.map yT):=by
 obtain ⟨a,c,ls,h1,h1c,h1m,h1s,h1q⟩:=Rd.list (λr hr=>Rd.i32 hr) h (sz:=1) Tryz.underlying36 zk zd;have hmx:maxLen=9223372036854775807:=by decide
 rw[hmx] at h1m;have hmm:ls.length≤9223372036854775807:=ke h1c h1m;rw[cN] at h1s;exact ⟨a,c,ls,h1,h1c,hmm,h1s⟩
set_option maxRecDepth 100000 in
theorem Rd.op {H:Type}{enc:TypeId×Value→H}{W:World}{cs:List Value}(h:Rd enc kY W 38 cs):∃o:OV,cs=o.cells∧(qH (yS W) o.a o.vec.length 1 (o.vec.map yT)∧o.vec.length≤o.c∧o.vec.length≤9223372036854775807∧0≤o.id∧o.id≤18446744073709551615):=by
 obtain ⟨hl,hf⟩:=h.fields Tryz.underlying38;obtain ⟨x,h0,hx⟩:=Rd.u64 (hf 0 _ rfl);obtain ⟨a,c,xs,h1,h2,h3,h4⟩:=Rd.vec (hf 1 _ rfl);have hl':cs.length=2:=hl.trans zk
 match cs,hl' with
 | [u,v],_=>
  have h0':[u]=[Value.int .u64 x]:=h0;have h1':[v]=[Value.slice a xs.length c]:=h1;simp only[List.cons.injEq,and_true] at h0' h1';subst h0' h1';exact ⟨⟨x,a,c,xs⟩,rfl,h4,h2,h3,hx⟩
def jHJ (W:World)(a:OA)(ops:List OV):Prop:=(qH (yS W) a ops.length 2 (ops.flatMap OV.cells)∧okR (yS W) ops)∧(∀u∈ops,u.vec.length≤u.c)∧ops.length≤9223372036854775807
theorem Rd.u8 {H:Type}{enc:TypeId×Value→H}{W:World}{cs:List Value}(h:Rd enc kY W 5 cs):∃z,cs=[Value.int .u8 z]:=by
 obtain ⟨z,hz,_⟩:=Rd.int h Tryz.underlying5;exact ⟨z,hz⟩
theorem Rd.ops {H:Type}{enc:TypeId×Value→H}{W:World}{cs:List Value}(h:Rd enc kY W 39 cs):∃(a:OA) (c:Nat) (ops:List OV),cs=[.slice a ops.length c]∧jHJ W a ops:=by
 obtain ⟨a,c,ls,h1,h1c,h1m,h1s,h1q⟩:=Rd.list (λr hr=>Rd.op hr) h (sz:=2) Tryz.underlying39 zk zd;have hmx:maxLen=9223372036854775807:=by decide
 rw[hmx] at h1m;exact ⟨a,c,ls,h1,⟨h1s,λu hu=>(h1q u hu).1⟩,λu hu=>(h1q u hu).2.1,ke h1c h1m⟩
theorem Rd.i64 {H:Type}{enc:TypeId×Value→H}{W:World}{cs:List Value}(h:Rd enc kY W 3 cs):∃z,cs=[I64 z]∧True:=by
 obtain ⟨z,hz,hw⟩:=Rd.int h Tryz.underlying3;exact ⟨z,hz,trivial⟩
set_option maxRecDepth 100000 in
theorem Rd.hit {H:Type}{enc:TypeId×Value→H}{W:World}{cs:List Value}(h:Rd enc kY W 113 cs):∃o:HV,cs=o.cells∧(qH (yS W) o.a o.vec.length 1 (o.vec.map yT)∧o.vec.length≤o.c):=by
 obtain ⟨hl,hf⟩:=h.fields Tryz.underlying113;obtain ⟨x,h0,hx⟩:=Rd.u64 (hf 0 _ rfl);obtain ⟨y,h1,hy⟩:=Rd.u64 (hf 1 _ rfl);obtain ⟨a,c,xs,h2,h3,h4,h5⟩:=Rd.vec (hf 2 _ rfl);have hl':cs.length=3:=hl.trans zk
 match cs,hl' with
 | [u,v,w],_=>
  have h0':[u]=[Value.int .u64 x]:=h0;have h1':[v]=[Value.int .u64 y]:=h1;have h2':[w]=[Value.slice a xs.length c]:=h2;simp only[List.cons.injEq,and_true] at h0' h1' h2';subst h0' h1' h2';exact ⟨⟨x,y,a,c,xs⟩,rfl,h5,h3⟩
theorem Rd.hits {H:Type}{enc:TypeId×Value→H}{W:World}{cs:List Value}(h:Rd enc kY W 41 cs):∃(a:OA) (c:Nat) (hs:List HV),cs=[.slice a hs.length c]∧qH (yS W) a hs.length 3 (hs.flatMap HV.cells)∧hs.length≤9223372036854775807∧∀x∈hs,qH (yS W) x.a x.vec.length 1 (x.vec.map yT)∧x.vec.length≤x.c:=by
 obtain ⟨a,c,ls,h1,h1c,h1m,h1s,h1q⟩:=Rd.list (λr hr=>Rd.hit hr) h (sz:=3) Tryz.underlying41 zk zd;have hmx:maxLen=9223372036854775807:=by decide
 rw[hmx] at h1m;exact ⟨a,c,ls,h1,h1s,ke h1c h1m,h1q⟩
abbrev jAM {H:Type}(p:ST):DataW H:=.agg [.lit (.string p.1),.lit (.int .i64 (p.2:Int))]
theorem jDm {H:Type}:(Rows.laid_armillary_note_sorts:DataW H)=.agg (J4.map jAM):=by kernel_rfl
theorem jDv {α:Type}{g:α→List Value}{sz:Nat}(hg:∀x,(g x).length=sz)(h0:0<sz){l:List α}{cs:List Value}(hl:cs.length=l.length*sz)(h:∀i x,l[i]? =some x→(cs.drop (i*sz)).take sz=g x):cs=l.flatMap g:=by
 have hlen:(l.flatMap g).length=l.length*sz:=by
  clear hl h
  induction l with
  |nil=>simp
  |cons y l ih=>rw[jK,jc,ih,hg,jC,Nat.succ_mul,Nat.add_comm]
 apply List.ext_getElem?;intro k
 by_cases hk:k<l.length*sz
 ·have hi:k / sz<l.length:=(Nat.div_lt_iff_lt_mul h0).2 hk
  have hr:k % sz<sz:=Nat.mod_lt _ h0;have e:k=k / sz*sz+k % sz:=by rw[Nat.mul_comm];exact (Nat.div_add_mod k sz).symm
  obtain ⟨x,hx⟩:=qw hi;have h1:=h _ x hx;have h2:(g x)[k % sz]? =cs[k]? :=by
   rw[←h1,List.getElem?_take_of_lt hr,List.getElem?_drop,←e]
  have h3:k % sz<(g x).length:=by rw[hg];exact hr
  have h4:=JH hg l (k / sz) (k % sz) x _ hx (jY h3);rw[←e] at h4;rw[h4,←h2,jY h3]
 ·rw[List.getElem?_eq_none zo,List.getElem?_eq_none zo]
theorem jBI :Tryz.prog.globalNamed "armillary/note.sorts" =some 0:=by kernel_rfl
theorem jDs :(Tryz.prog.globals[0]?).map (·.type)=some 236:=by kernel_rfl
theorem jCa :Tryz.prog.cellsOf 235=2:=by kernel_rfl
theorem jDK :Tryz.prog.cellsOf 236=46:=by kernel_rfl
theorem jB9 :Tryz.prog.cellsOf 9=1:=by kernel_rfl
theorem jCb :Tryz.prog.cellsOf 3=1:=by kernel_rfl
theorem lL {W:World}{fuel:Nat}{cs:List Value}{p:ST}{q:List MemPlace}(h:DataW.trod (λ_=>()) kY W 0 (λ_=>true) false fuel 235 cs=some (jAM p,q)):cs=ST.cells p:=by
 obtain ⟨y0,y1,n,e,hl,h0,h1⟩:=trod_struct2 Tryz.underlying235 h;rw[jCa] at hl;dsimp only at h0 h1;rw[jB9] at h0;rw[jCb] at h1;have e':=jj Prod.fst e;simp only[DataW.agg.injEq,List.cons.injEq,and_true] at e';obtain ⟨s,hs,hy0,_⟩:=DataW.trod_string Tryz.underlying9 h0;obtain ⟨z,hz,hy1,_⟩:=DataW.trod_int Tryz.underlying3 h1;subst hy0 hy1;simp only[DataW.lit.injEq,Lit.string.injEq,Lit.int.injEq,true_and] at e'
 match cs,hl with
 | [u,v],_=>
  have hs':[u]=[Value.string s]:=hs;have hz':[v]=[Value.int .i64 z]:=hz;simp only[List.cons.injEq,and_true] at hs' hz';subst hs' hz';have:str p.1=Value.string s:=by
   unfold str;rw[e'.1]
  rw[←e'.2,←this]
theorem dY {W:World}(h:laidMet kY [("armillary/note.sorts",Rows.laid_armillary_note_sorts)] W):yE (yS W):=by
 obtain ⟨ps,⟨g',t',cs,fuel,p,q,hg',ht',hvar,hd,_,_⟩,_⟩:=h;obtain rfl:=Option.some.inj (jBI.symm.trans hg');obtain rfl:=Option.some.inj (jDs.symm.trans ht');rw[jDm] at hd;obtain ⟨xs,m,_,e,hl,hxl,hx⟩:=DataW.trod_array Tryz.underlying236 hd;rw[jDK] at hl;have e1:=jj Prod.fst e;simp only[DataW.agg.injEq] at e1;have hcs:cs.toList=sortsC:=by
  refine jDv (g:=ST.cells) (sz:=2) (λ_=>rfl) zd (hl.trans zd) (λi x hi=> ?_);have hi':i<23:=(jm.1 hi).1;have h1:=hx i hi';rw[jCa] at h1;obtain ⟨y,hy⟩:=qw (l:=xs) (by rw[hxl];exact hi');rw[hy] at h1;have h2:(xs.map (·.1))[i]? =some y.1:=by rw[jZ,hy];rfl
  rw[←e1,jZ,hi] at h2;have h3:=Option.some.inj h2;exact lL (p:=x) (q:=y.2) (by rw[h1,show jAM x=y.1 from h3])
 unfold World.var? at hvar;rw[jBI] at hvar;simp only[Option.bind_some] at hvar;refine ⟨by decide,.inr ⟨0,0,?_⟩⟩
 cases hb:W.heap[0]? with
 |none=>rw[hb] at hvar;cases hvar
 |some o=>
  rw[hb] at hvar
  cases o with
  |cells l t fz=>
   dsimp only at hvar
   cases hvar
   refine ⟨cs,t,fz,rfl,hb,λj v hv=> ?_⟩;rw[←hcs] at hv;rw[kR]
   simpa using hv
  |_=>cases hvar
end Go.Proofs.YtlnfjhiphlfkjaaGreatDoor
namespace Go.SX
open Go
def jE0 :List Nat:=[0,498536548,997073096,651767980,1994146192,1802195444,1303535960,1342533948,3988292384,4027552580,3604390888,3412177804,2607071920,2262029012,2685067896,3183342108]
def r9 (c:Nat):Nat:=jE0.getD c 0
def h1 (c:Nat):Nat:=if c % 2=1 then (c>>>1)^^^3988292384 else c>>>1
def hN :Nat→Nat→Nat
 |0,c=>c
 |k+1,c=>hN k (h1 c)
def W6 (c:Nat):Nat:=(c>>>4)^^^r9 (c&&&15)
def f9 (c:Nat)(b:UInt8):Nat:=W6 (W6 (c^^^b.toNat))
def yk (c:Nat)(bs:List UInt8):Nat:=bs.foldl f9 c
def JM (bs:List UInt8):Nat:=yk 4294967295 bs^^^4294967295
def db (b c i:Nat):Nat:=if c&&&1≠(b>>>i)&&&1 then (c>>>1)^^^3988292384 else c>>>1
theorem dL (a b:Nat):(a^^^b) % 2=(a % 2+b % 2) % 2:=by
 have h:=Nat.testBit_xor a b 0;simp only[Nat.testBit_zero] at h;have ha:=Nat.mod_two_eq_zero_or_one a;have hb:=Nat.mod_two_eq_zero_or_one b;have hc:=Nat.mod_two_eq_zero_or_one (a^^^b)
 rcases ha with ha|ha<;>rcases hb with hb|hb<;>rcases hc with hc|hc<;>rw[ha,hb,hc] at h<;>simp at h<;>rw[ha,hb,hc]
theorem nU (a b k:Nat):(a^^^b)>>>k=(a>>>k)^^^(b>>>k):=Nat.shiftRight_xor_distrib
theorem jE7 (a b:Nat):h1 (a^^^b)=h1 a^^^h1 b:=by
 unfold h1;rw[nU,dL];have ha:=Nat.mod_two_eq_zero_or_one a;have hb:=Nat.mod_two_eq_zero_or_one b
 rcases ha with ha|ha<;>rcases hb with hb|hb<;>rw[ha,hb]<;>simp
 ·rw[Nat.xor_assoc]
 ·rw[Nat.xor_assoc,Nat.xor_assoc,Nat.xor_comm (b>>>1)]
 ·rw[show a>>>1^^^3988292384^^^(b>>>1^^^3988292384)=(a>>>1^^^b>>>1)^^^(3988292384^^^3988292384) from by
   rw[Nat.xor_assoc,Nat.xor_assoc,←Nat.xor_assoc 3988292384,Nat.xor_comm 3988292384 (b>>>1),Nat.xor_assoc (b>>>1)]]
  simp
theorem jBF :∀(k a b:Nat),hN k (a^^^b)=hN k a^^^hN k b
 |0,_,_=>rfl
 |k+1,a,b=>by
  show hN k (h1 (a^^^b))=_
  rw[jE7,jBF k];rfl
theorem jBG :∀(k x:Nat),hN k (x<<<k)=x
 |0,x=>by simp[hN]
 |k+1,x=>by
  show hN k (h1 (x<<<(k+1)))=x
  have e:h1 (x<<<(k+1))=x<<<k:=by
   unfold h1;have hm:(x<<<(k+1)) % 2=0:=by
    rw[Nat.shiftLeft_eq,Nat.pow_succ,←Nat.mul_assoc];omega
   rw[hm,ja zd,Nat.shiftLeft_succ,Nat.shiftRight_eq_div_pow];omega
  rw[e];exact jBG k x
theorem jEJ (c:Nat):c=((c>>>4)<<<4)^^^(c&&&15):=by
 apply Nat.eq_of_testBit_eq;intro i;rw[Nat.testBit_xor,Nat.testBit_shiftLeft,Nat.testBit_shiftRight,Nat.testBit_and]
 by_cases h:4≤i
 ·have e:Nat.testBit 15 i=false:=Nat.testBit_lt_two_pow (Nat.lt_of_lt_of_le (by decide:15<2^4) (Nat.pow_le_pow_right zd h))
  rw[e,show 4+(i - 4)=i by omega];simp[h]
 ·have hi:i<4:=by omega
  have e:Nat.testBit 15 i=true:=by
   rcases i with _|_|_|_|i<;>first|decide|omega
  rw[e];simp[h]
theorem jC9 :∀l,l<16→hN 4 l=r9 l:=by decide
theorem pd (c:Nat):W6 c=hN 4 c:=by
 have h:c&&&15<16:=Nat.lt_of_le_of_lt Nat.and_le_right zd
 conv=>rhs;rw[jEJ c]
 rw[jBF,jBG,jC9 _ h];rfl
theorem jBH :∀(a b c:Nat),hN a (hN b c)=hN (b+a) c
 |a,0,c=>by simp[hN]
 |a,b+1,c=>by
  show hN a (hN b (h1 c))=_
  rw[jBH a b,show b+1+a=(b+a)+1 by omega];rfl
theorem jDG (c:Nat)(b:UInt8):f9 c b=hN 8 (c^^^b.toNat):=by
 unfold f9;rw[pd,pd,jBH]
theorem pq :∀(k c:Nat),hN (k+1) c=h1 (hN k c)
 |0,_=>rfl
 |k+1,c=>by
  show hN (k+1) (h1 c)=h1 (hN k (h1 c))
  exact pq k _
theorem jDR (a:Nat):a&&&1=a % 2:=Nat.and_one_is_mod a
theorem jDP (b c r i:Nat)(h:c=r^^^(b>>>i)):db b c i=h1 r^^^(b>>>(i+1)):=by
 unfold db h1;rw[jDR,jDR];have hx:=dL r (b>>>i);rw[←h] at hx;have e:c>>>1=(r>>>1)^^^(b>>>(i+1)):=by rw[h,nU,Nat.shiftRight_add]
 rw[e];have hr:=Nat.mod_two_eq_zero_or_one r;have hb:=Nat.mod_two_eq_zero_or_one (b>>>i)
 rcases hr with hr|hr<;>rcases hb with hb|hb<;>rw[hr,hb] at hx<;>rw[hx,hr,hb]<;>simp
 ·rw[Nat.xor_assoc,Nat.xor_comm (b>>>(i+1)),←Nat.xor_assoc]
 ·rw[Nat.xor_assoc,Nat.xor_comm (b>>>(i+1)),←Nat.xor_assoc]
def Xd (b:Nat):Nat→Nat→Nat
 |0,c=>c
 |i+1,c=>db b (Xd b i c) i
theorem pO (b c:Nat):∀i,Xd b i c=hN i (c^^^b)^^^(b>>>i)
 |0=>by simp[Xd,hN,Nat.xor_assoc]
 |i+1=>by
  show db b (Xd b i c) i=_
  rw[jDP b _ _ i (pO b c i),pq]
theorem jHE (c:Nat)(b:UInt8):Xd b.toNat 8 c=f9 c b:=by
 rw[pO,jDG];have:b.toNat>>>8=0:=by
  rw[Nat.shiftRight_eq_div_pow];have:=b.toNat_lt;omega
 rw[this];simp
theorem VY {a b:Nat}(ha:a<4294967296)(hb:b<4294967296):a^^^b<4294967296:=Nat.xor_lt_two_pow (n:=32) ha hb
theorem cC (c:Nat):r9 c<4294967296:=by
 unfold r9
 by_cases h:c<16
 ·revert c;decide
 ·rw[j8,List.getElem?_eq_none (by show 16≤c;omega)];decide
theorem cD {c:Nat}(h:c<4294967296):W6 c<4294967296:=by
 unfold W6;refine VY ?_ (cC _);rw[Nat.shiftRight_eq_div_pow];omega
theorem jDF {c:Nat}(b:UInt8)(h:c<4294967296):f9 c b<4294967296:=
 cD (cD (VY h (by have:=b.toNat_lt;omega)))
theorem Ke :∀(bs:List UInt8) {c:Nat},c<4294967296→yk c bs<4294967296
 | [],_,h=>h
 |b::bs,_,h=>Ke bs (jDF b h)
theorem Xy (bs:List UInt8):JM bs<4294967296:=VY (Ke bs zd) zd
theorem Yo (c:Nat)(a b:List UInt8):yk c (a++b)=yk (yk c a) b:=List.foldl_append ..
section
variable {P : Program} {n : Nat} {ops rest : List Oper} {Q : vk} {f : vF} {A L : HL} {d : Tmp} {ty : TypeId} {pos : String} {af : Array Edge}
theorem Y.orr {x y:Operand}{t t':TypeId}{k:IntKind}{a b:Int}(hx:ev f x=some (.int k a))(hy:ev f y=some (.int k b)):qk P n ops ⟨some d,.binOp .or t x y t',ty,pos,af,none⟩ f A ((.int k (k.wrap ((BitVec.ofInt k.bits a)|||(BitVec.ofInt k.bits b)).toNat))):=Y.of (λ_ w s=>by simp[execOp,s.eval hx,s.eval hy,eqGuard,binOp,Op.intArith,Op.intBits])
theorem Y.cpl {x:Operand}{t:TypeId}{a:Int}(hx:ev f x=some (.int .u32 a)):qk P n ops ⟨some d,.unOp .xor t x,ty,pos,af,none⟩ f A ((.int .u32 (IntKind.u32.wrap ((BitVec.ofInt IntKind.u32.bits 4294967295)^^^(BitVec.ofInt IntKind.u32.bits a)).toNat))):=Y.of (λ_ w s=>by simp[execOp,s.eval hx,Op.unary,Op.intBits,IntKind.signed,IntKind.max,IntKind.bits])
end
theorem XC {n:Nat}(h:n<4294967296):IntKind.u32.wrap (n:Int)=(n:Int):=by
 simp[IntKind.wrap,IntKind.bits,IntKind.signed];omega
theorem sO {n:Nat}(h:n<4294967296):(BitVec.ofInt IntKind.u32.bits (n:Int)).toNat=n:=by
 show (BitVec.ofInt 32 (n:Int)).toNat=n
 simp;omega
theorem xor32 {a b:Nat}(ha:a<4294967296)(hb:b<4294967296):IntKind.u32.wrap (((BitVec.ofInt IntKind.u32.bits (a:Int))^^^(BitVec.ofInt IntKind.u32.bits (b:Int))).toNat:Int)=((a^^^b:Nat):Int):=by
 rw[BitVec.toNat_xor,sO ha,sO hb,XC (VY ha hb)]
theorem and32 {a b:Nat}(ha:a<4294967296)(hb:b<4294967296):IntKind.u32.wrap (((BitVec.ofInt IntKind.u32.bits (a:Int))&&&(BitVec.ofInt IntKind.u32.bits (b:Int))).toNat:Int)=((a&&&b:Nat):Int):=by
 rw[BitVec.toNat_and,sO ha,sO hb,XC (Nat.lt_of_le_of_lt Nat.and_le_left ha)]
theorem or32 {a b:Nat}(ha:a<4294967296)(hb:b<4294967296):IntKind.u32.wrap (((BitVec.ofInt IntKind.u32.bits (a:Int))|||(BitVec.ofInt IntKind.u32.bits (b:Int))).toNat:Int)=((a|||b:Nat):Int):=by
 rw[BitVec.toNat_or,sO ha,sO hb,XC (Nat.or_lt_two_pow (n:=32) ha hb)]
section
variable {P : Program} {n : Nat} {ops rest : List Oper} {Q : vk} {f : vF} {A L : HL} {d : Tmp} {ty : TypeId} {pos : String} {af : Array Edge}
theorem Y.and32 {x y:Operand}{t t':TypeId}{a b:Nat}(hx:ev f x=some (.int .u32 (a:Int)))(hy:ev f y=some (.int .u32 (b:Int)))(ha:a<4294967296)(hb:b<4294967296):qk P n ops ⟨some d,.binOp .and t x y t',ty,pos,af,none⟩ f A (.int .u32 ((a&&&b:Nat):Int)):=Go.SX.and32 ha hb▸Y.and hx hy
theorem Y.or32 {x y:Operand}{t t':TypeId}{a b:Nat}(hx:ev f x=some (.int .u32 (a:Int)))(hy:ev f y=some (.int .u32 (b:Int)))(ha:a<4294967296)(hb:b<4294967296):qk P n ops ⟨some d,.binOp .or t x y t',ty,pos,af,none⟩ f A (.int .u32 ((a|||b:Nat):Int)):=Go.SX.or32 ha hb▸Y.orr hx hy
theorem Y.xor32 {x y:Operand}{t t':TypeId}{a b:Nat}(hx:ev f x=some (.int .u32 (a:Int)))(hy:ev f y=some (.int .u32 (b:Int)))(ha:a<4294967296)(hb:b<4294967296):qk P n ops ⟨some d,.binOp .xor t x y t',ty,pos,af,none⟩ f A (.int .u32 ((a^^^b:Nat):Int)):=Go.SX.xor32 ha hb▸Y.xor hx hy
theorem Y.cpl32 {x:Operand}{t:TypeId}{a:Nat}(hx:ev f x=some (.int .u32 (a:Int)))(ha:a<4294967296):qk P n ops ⟨some d,.unOp .xor t x,ty,pos,af,none⟩ f A (.int .u32 ((4294967295^^^a:Nat):Int)):=Go.SX.xor32 (a:=4294967295) zd ha▸Y.cpl hx
theorem Y.cv32 {x:Operand}{s t:TypeId}{k:IntKind}{a:Nat}[h0:yZ P s][h2:zK P t .u32](hx:ev f x=some (.int k (a:Int)))(ha:a<4294967296):qk P n ops ⟨some d,.convert s t x,ty,pos,af,none⟩ f A (.int .u32 (a:Int)):=Go.SX.XC ha▸Y.cvi hx
end
abbrev bC (b:UInt8):List Value:=[B b]
theorem cM (xs:List UInt8):xs.flatMap bC=xs.map B:=by induction xs with
 |nil=>rfl
 |cons x xs ih=>simp[jK,ih]
structure YB where
 a:OA
 c:Nat
 bs:List UInt8
abbrev YB.val (v:YB):Value:=.slice v.a v.bs.length v.c
abbrev YB.cells (v:YB):List Value:=[v.val]
def n4 (L:HL)(v:YB):Prop:=qW L v.a v.bs.length 1 (v.bs.map B)
def wc (M:OM)(v:YB):Prop:=qH M v.a v.bs.length 1 (v.bs.map B)
theorem wc.mono {M M':OM}{v:YB}(h:wc M v)(hl:qU M M'):wc M' v:=qH.mono h hl
theorem wc.rd {M:OM}{v:YB}(h:wc M v){L:HL}[wY M L]:n4 L v:=qH.rd h
abbrev qV (vs:List YB):List UInt8:=vs.flatMap YB.bs
theorem pJ {vs:List YB}{v:YB}(h:v∈vs):v.bs.length≤(qV vs).length:=by
 obtain ⟨p,q,rfl⟩:=List.append_of_mem h
 simp[qV];omega
end Go.SX
namespace Go.Proofs.YtlnfjhiphlfkjaaGreatDoor
open Go Go.SX
attribute [local irreducible] swp qq qM qL vX qh St qi qk vu qG
def nibC :List Value:=jE0.map λz:Nat=>Value.int .u32 (z:Int)
def xg (M:OM):Prop:=qH M (some ⟨2,0,none⟩) 16 1 nibC
theorem xg.mono {M M':OM}(h:xg M)(hl:qU M M'):xg M':=qH.mono h hl
theorem xg.rd {M:OM}(h:xg M){L:HL}[wY M L]:vg L 2 0 nibC:=by
 have h1:qW L (some ⟨2,0,none⟩) 16 1 nibC:=qH.rd h
 rcases h1.2 with h2|⟨b,o,e,r⟩
 ·cases h2
 ·cases e;exact r
theorem fE (k:Nat)(h:k<16):nibC[k]? =some (.int .u32 (r9 k)):=by
 rcases k with _|_|_|_|_|_|_|_|_|_|_|_|_|_|_|_|k<;>first|rfl|omega
theorem Xn (c:Nat):c&&&15<16:=Nat.lt_of_le_of_lt Nat.and_le_right zd
theorem gB (a:OA)(c:Nat)(vs:List YB)(L:HL)(h:qW L a vs.length 1 (vs.flatMap YB.cells))(hv:∀v∈vs,n4 L v)(hT:vg L 2 0 nibC)(hn:vs.length≤1000000)(hb:(qV vs).length≤1000000000000):
  qh kY 191 [.slice a vs.length c] L (λr L'=>r=.int .u32 (JM (qV vs))∧L'=L):=by
 refine qg Tryz.func191 rfl rfl rfl ?_;refine Q.r ?_;refine qx (σ:=Unit) (λ_=> [(3,.int .u32 (yk 4294967295 (qV vs)))]) (λ_=>L) (λ_=>True) ?_ ?_
 ·refine ql (σ:=Nat) (λk=> [(8,.slice a vs.length c),(9,.int .i64 vs.length),(3,.int .u32 (yk 4294967295 (qV (vs.take k)))),(10,.int .i64 k)]) (λ_=>L)
   (λk=>k≤vs.length) (λk=>vs.length - k) 0 zt (kZ _) zo ?_
  intro k hk
  by_cases hlt:k<vs.length
  ·obtain ⟨v,hx⟩:=qw hlt
   have hmv:v∈vs:=jn hx;have hvl:=pJ hmv;obtain ⟨b,o,hab,hr⟩:=qW.elem (g:=YB.cells) (λ_=>rfl) h hx rfl;rw[hab];refine Q.r ?_;have hv0:=hv v hmv;unfold n4 at hv0;rw[←cM] at hv0;refine ql (σ:=Nat) (λj=> [(8,.slice (some ⟨b,o,none⟩) vs.length c),(9,.int .i64 vs.length),(10,.int .i64 k),(14,v.val),(15,.int .i64 v.bs.length),(3,.int .u32 (yk (yk 4294967295 (qV (vs.take k))) (v.bs.take j))),(16,.int .i64 j)]) (λ_=>L)
    (λj=>j≤v.bs.length) (λj=>v.bs.length - j) 0 zt (kZ _) zo ?_
   intro j hj;have hc0:yk (yk 4294967295 (qV (vs.take k))) (v.bs.take j)<4294967296:=Ke _ (Ke _ zd)
   by_cases hjl:j<v.bs.length
   ·obtain ⟨x,hxj⟩:=qw hjl
    obtain ⟨b2,o2,hab2,hr2⟩:=qW.elem (g:=bC) (λ_=>rfl) hv0 hxj rfl;have hsn:yk (yk 4294967295 (qV (vs.take k))) (v.bs.take (j+1))=f9 (yk (yk 4294967295 (qV (vs.take k))) (v.bs.take j)) x:=by
     rw[qz hxj,Yo];rfl
    generalize hcc:yk (yk 4294967295 (qV (vs.take k))) (v.bs.take j)=cc at hc0 hsn;have hx8:=x.toNat_lt;have l1:x.toNat<4294967296:=by omega
    unfold YB.val;rw[hab2];refine Q.r ?_;refine S.y (Y.cv32 (a:=x.toNat) rfl l1) ?_;refine S.y (Y.xor32 rfl rfl hc0 l1) ?_;have l2:cc^^^x.toNat<4294967296:=VY hc0 l1;have l3:∀z:Nat,z<4294967296→z / 2^4<4294967296:=λz hz=>Nat.lt_of_le_of_lt (Nat.div_le_self _ _) hz
    have l4:W6 (cc^^^x.toNat)<4294967296:=cD l2;have hs:f9 cc x=W6 (W6 (cc^^^x.toNat)):=rfl;generalize cc^^^x.toNat=y at*;have e1:∀y,W6 y=y / 2^4^^^r9 (y&&&15):=λy=>by unfold W6;rw[Nat.shiftRight_eq_div_pow]
    refine Q.r ?_;refine S.y (Y.shr rfl rfl zd) ?_;refine Q.r ?_;refine S.y (Y.and32 (b:=15) rfl rfl l2 zd) ?_;refine S.y (Y.iaa rfl rfl rfl (Xn _)) ?_;refine S.y (Y.ldRj rfl hT (by rw[jX];exact fE _ (Xn _))) ?_;refine S.y (Y.xor32 rfl rfl (l3 _ l2) (cC _)) ?_;rw[←e1];rw[e1 (W6 y)] at hs;generalize W6 y=z at*;refine Q.r ?_;refine S.y (Y.shr rfl rfl zd) ?_;refine Q.r ?_;refine S.y (Y.and32 (b:=15) rfl rfl l4 zd) ?_;refine S.y (Y.iaa rfl rfl rfl (Xn _)) ?_;refine S.y (Y.ldRj rfl hT (by rw[jX];exact fE _ (Xn _))) ?_;refine S.y (Y.xor32 rfl rfl (l3 _ l4) (cC _)) ?_;rw[←hs];refine Q.r ?_;refine ⟨j+1,⟨rfl,rfl,rfl,by rw[←hab2];rfl,rfl,by rw[hsn];rfl,rfl,trivial⟩,kZ _,by omega,by omega⟩
   ·have hje:j=v.bs.length:=by omega
    subst hje;refine Q.r ?_;have e3:yk (yk 4294967295 (qV (vs.take k))) (v.bs.take v.bs.length)=yk 4294967295 (qV (vs.take (k+1))):=by
     rw[jI,qz hx];unfold qV;rw[kS,Yo]
     simp
    rw[e3];exact ⟨k+1,zt,kZ _,by omega,by omega⟩
  ·have hke:k=vs.length:=by omega
   subst hke;refine Q.r ?_;refine ⟨(),⟨?_,trivial⟩,kZ _,trivial⟩;rw[jI];rfl
 ·intro _ _
  have hc0:yk 4294967295 (qV vs)<4294967296:=Ke _ zd;refine Q.r ?_;refine S.y (Y.cpl32 rfl hc0) ?_;refine Q.r ?_;refine N.t rfl (kZ _) ⟨?_,rfl⟩;unfold JM;rw[Nat.xor_comm]
end Go.Proofs.YtlnfjhiphlfkjaaGreatDoor
namespace Go.SX
open Go
section
variable {P : Program} {n : Nat} {ops rest : List Oper} {Q : vk} {f : vF} {A L : HL}
variable {d : Tmp} {ty : TypeId} {pos : String} {af : Array Edge}
theorem fe {w:World}{dT sT ty e t0:TypeId}{b o dl dc k kc sz:Nat}{a:Addr}{cs l:List Value}(hu:P.underlying dT=some (.slice e))(hs:∀w,(sizeOf e).run P w=.ok sz w)
  (hn:cs.length=min k dl*sz) (hrow:w.heap[b]? =some (cl l t0)) (hl:o+cs.length≤l.length) (hsrc:∀j v,cs[j]? =some v→w.cell? (a.add j)=some v) (h1:∀v∈cs,v.oneCell'=true):
  (Builtin.copy_ #[dT,sT] ty #[.slice (some ⟨b,o,none⟩) dl dc,.slice (some a) k kc]).run P w=.ok (goInt (min k dl:Nat)) (w.setRow b (vG l o cs).toArray):=by
 have hld:=run_loadCells_list (P:=P) w a cs hsrc;have hst:=run_storeCells_at P b o t0 cs 0 l.toArray w hrow (by simpa using hl) h1;rw[hn] at hld;simp only[Nat.add_zero] at hst;have hp:vG l o cs=List.take o l++cs++List.drop (o+cs.length) l:=rfl;rw[hp];have hm:Nat.min k dl=min k dl:=rfl
 simp[Builtin.copy_,run_underlying hu,Builtin.lenOf,Builtin.firstCells,hs,hm,hld,hst]
theorem S.cpy {x y:Operand}{t tx e t0:TypeId}{sz bts:Nat}{ag:Bool}{zs:List Value}{b o dl dc b2 o2 k kc:Nat}{l l' ys:List Value}{L':Obj→HL}[h:wu P t e][h2:Ty P e ag sz zs bts][hu:Xe b L (cl l t0) L']
  (hx:ev f x=some (.slice (some ⟨b,o,none⟩) dl dc)) (hy:ev f y=some (.slice (some ⟨b2,o2,none⟩) k kc)) (hr:vg L b2 o2 ys) (hn:ys.length=min k dl*sz) (hl:o+ys.length≤l.length) (h1:ys.all (·.oneCell')=true) (hl':vG l o ys=l')
  (hk:qq P n ops rest Q (upd f d (.int .i64 (min k dl:Nat))) (L' (cl l' t0))):
  qq P n ops (⟨some d,.call ⟨.builtin .copy,#[x,y],#[t,tx]⟩,ty,pos,af,none⟩::rest) Q f L:=by
 refine vB (R := fun v L1 => v = .int .i64 (min k dl : Nat) ∧ L1 = L' (cl l' t0)) (fun F ac w s t1 => ?_) (by rintro _ _ ⟨rfl,rfl⟩;exact hk);have hrow := hu.read t1;have hrun := fe (P := P) (w := w) (dT := t) (sT := tx) (ty := ty) (e := e) (t0 := t0) (b := b) (o := o) (dl := dl) (dc := dc) (k := k) (kc := kc) (sz := sz) (a := ⟨b2,o2,none⟩) (cs := ys) (l := l) h.raw h2.size hn hrow hl (fun j v e => by
  have:=hr w F t1 j v e;have e2:(⟨b2,o2,none⟩:Addr).add j=⟨b2,o2+j,none⟩:=by unfold Addr.add;split<;>simp_all
  rw[e2];exact this) (λv hv=>by simpa using List.all_eq_true.1 h1 v hv)
 refine ⟨_,w.setRow b l'.toArray,_,?_,KE hrow t1,rfl,rfl⟩;rw[←hl']
 simp[execOp,resolve,invoke,s.eval hx,s.eval hy,builtin,hrun,goInt]
theorem S.appz {x y:Operand}{t tn e:TypeId}{sz bts:Nat}{ag:Bool}{zs:List Value}{kn kq:IntKind}{b o m c k:Nat}{olds:List Value}[h:wu P t e][h2:Ty P e ag sz zs bts][h3:zK P tn kn]
  (hx:ev f x=some (.slice (some ⟨b,o,none⟩) m c)) (hy:ev f y=some (.int kq k)) (hr:vg L b o olds) (ho:olds.length=m*sz) (hg:c<m+k) (h0:0<k) (hz:zs.length=sz) (hs0:0<sz) (hfit:(m+k)*bts≤140737488355328) (h63:m+k≤9223372036854775807)
  (hk:∀b' c',qq P n ops rest Q (upd f d (.slice (some ⟨b',0,none⟩) (m+k) c')) (slO e sz (some ⟨b',0,none⟩) (m+k) c' (olds++QL k zs)::L)):
  qq P n ops (⟨some d,.call ⟨.builtin .append,#[x,y],#[t,tn]⟩,ty,pos,af,none⟩::rest) Q f L:=by
 obtain ⟨i,z,hi,hisz,hib,hiz,hzz⟩:=h2.raw;refine vB (R:=λv L1=>∃b' c',v=.slice (some ⟨b',0,none⟩) (m+k) c'∧L1=slO e sz (some ⟨b',0,none⟩) (m+k) c' (olds++QL k zs)::L) (λF ac w s t1=> ?_) (by rintro _ _ ⟨b',c',rfl,rfl⟩;exact hk b' c');have hfit':Builtin.nextslicecap (m+k) c*i.bytes≤281474976710656:=growslice_fits hg (by rw[hib];exact hfit);have hold:(Builtin.firstCells i.size m (.slice (some ⟨b,o,none⟩) m c)).run P w.drew=.ok olds.toArray w.drew:=by
  refine run_firstCells_some w.drew i.size m _ m c olds (by rw[hisz];exact ho) (λj u hj=> ?_);have e2:(⟨b,o,none⟩:Addr).add j=⟨b,o+j,none⟩:=by unfold Addr.add;split<;>simp_all
  rw[e2];exact hr w F t1 j u hj
 have hbz:k*i.bytes≤281474976710656:=by
  rw[hib];have:=Nat.mul_le_mul_right bts (show k≤m+k by omega);omega
 have hr:=Lib.run_append_grow_zeros (P:=P) w t tn ty e i z kq kn h.raw h3.raw hi hiz (some ⟨b,o,none⟩) m c olds hold k h0 (by rw[hisz];exact hs0) hg zo hbz hfit';have hcap:m+k≤grownCap w (m+k) c e:=by
  simp only[grownCap,Question.cut];omega
 have hzl:z.cells.size=sz:=by rw[←hz,←hzz];simp
 have hzr:(Builtin.zeroCells z.cells k).toList=QL k zs:=by
  have:=XB z.cells k sz hzl;rw[hzz] at this;have e:Builtin.zeroCells z.cells k=(QL k zs).toArray:=by simpa[Builtin.zeroCells,hzl] using this
  rw[e]
 have hrl:(QL k zs).length=k*sz:=by rw[xK,hz]
 refine ⟨_,w.drew.alloc (.cells (olds.toArray++Builtin.zeroCells z.cells k++Builtin.zeroCells z.cells (grownCap w (m+k) c e - (m+k))) e),slO e sz (some ⟨w.heap.size,0,none⟩) (m+k) (grownCap w (m+k) c e) (olds++QL k zs)::L,?_,?_,_,_,rfl,rfl⟩
 ·simp[execOp,resolve,invoke,s.eval hx,s.eval hy,builtin,hr]
 ·have H2:St (w.drew.alloc (.cells (olds.toArray++Builtin.zeroCells z.cells k++Builtin.zeroCells z.cells (grownCap w (m+k) c e - (m+k))) e)) (pt w.heap.size (cl ((olds++QL k zs)++(Builtin.zeroCells z.cells (grownCap w (m+k) c e - (m+k))).toList) e)::(L++F)):=by
   refine St.pt_new t1 ?_
   show w.heap.push _=_
   congr 1
   simp[cl,←hzr]
  have H3 := St.slO_shut (sz := sz) (m := m + k) (c := grownCap w (m + k) c e) (by simp [ho,hrl,Nat.add_mul]) hcap (by
   simp only[jc,ho,hrl,Builtin.zeroCells,Array.length_toList,Array.size_map,Array.size_range,hzl];rw[←Nat.add_mul,←Nat.add_mul];congr 1;omega) H2
  exact H3
theorem qh.slOc {g:FuncId}{args:List Value}{R:Value→HL→Prop}{t sz m c:Nat}{a:OA}{cs:List Value}
  (h0:a=none→m=0→c=0→cs=[]→qh P g args (SX.slO t sz none 0 0 []::L) R) (h1:∀b,a=some ⟨b,0,none⟩→m≤c→qh P g args (SX.slO t sz a m c cs::L) R):qh P g args (SX.slO t sz a m c cs::L) R:=λF w H=>by
 rcases (St.slO_open H).2 with ⟨e1,e2,e3,e4,_⟩|⟨b,rest,e,h2,_,_⟩
 ·subst e1 e2 e3 e4
  exact h0 rfl rfl rfl rfl F w H
 ·exact h1 b e h2 F w H
theorem jA7 (b:Nat){t sz m c:Nat}{cs:List Value}{L0:HL}[h:Kq (some ⟨b,0,none⟩) L t sz m c cs L0]
  (hk:∀rs,m≤c→(cs++rs).length=c*sz→qq P n ops rest Q f (pt b (cl (cs++rs) t)::L0)):qq P n ops rest Q f L:=λok F a w s t1=>by
 rcases (St.slO_open (L:=L0++F) (h.ent w F t1)).2 with ⟨e,_⟩|⟨b',rs,e,h1,h2,h3⟩
 ·cases e
 ·cases e
  exact hk rs h1 h2 ok F a w s h3
theorem Y.cap {x:Operand}{t e:TypeId}{a:OA}{m c:Nat}[h:wu P t e](hx:ev f x=some (.slice a m c)):qk P n ops ⟨some d,.call ⟨.builtin .cap,#[x],#[t]⟩,ty,pos,af,none⟩ f A (.int .i64 c):=by
 refine Y.of (λac w s=> ?_)
 simp[execOp,resolve,invoke,s.eval hx,builtin,Builtin.cap_,h.und]
 rfl
theorem St.pt_ne {w:World}{b b':Nat}{o o':Obj}{L:HL}(H:St w (pt b o::pt b' o'::L)):b≠b':=by
 rintro rfl;obtain ⟨h,f,h1,h2,ok,e,a,h3,h4,ok',rfl,a',l⟩:=H;have e3:h3 b=some (true,o'):=a';have e2:(h3.add h4) b=some (true,o'):=by simp[Hp.add,e3]
 have:=ok b _ _ _ _ a e2
 simp at this
theorem Y.ovl {x y:Operand}{g:FuncId}{fn:Func}{tS tR e t1 t2:TypeId}{ats:Array TypeId}{b1 b2 o1 o2 m1 c1 m2 c2 sz bts:Nat}{ag:Bool}{zs l1 l2:List Value}{A0 A1:HL}[h:wu P tS e][h2:Ty P e ag sz zs bts]
  [p1:xe (pt b1 (cl l1 t1)) A A0] [p2:xe (pt b2 (cl l2 t2)) A0 A1]
  (hf:P.funcs[g]? =some fn) (hname:(fn.name== "runtime.NumGoroutine")=false) (hb:fn.body.isNone=true) (hn:Extern.findNext fn=none) (he:Extern.find fn=some (Extern.SlicesOverlaps.overlaps #[tS,tS] #[tR]))
  (hx:ev f x=some (.slice (some ⟨b1,o1,none⟩) m1 c1)) (hy:ev f y=some (.slice (some ⟨b2,o2,none⟩) m2 c2)) (hl:l2≠[]):
  qk P n ops ⟨some d,.call ⟨.value (.func g),#[x,y],ats⟩,ty,pos,af,none⟩ f A (.bool false):=by
 refine Y.of' (λac w F s t=> ?_);have u2:St w (pt b1 (cl l1 t1)::pt b2 (cl l2 t2)::(A1++F)):=by simpa using (p1.ent.trans p2.ent.cons) w F t
 have hne:=St.pt_ne u2;have r1:=St.pt_read u2;have r2:=St.pt_read u2.tail;have hr:=Lib.run_overlaps_apart (P:=P) w tS tR e h.raw sz h2.size ⟨b1,o1,none⟩ ⟨b2,o2,none⟩ m1 c1 m2 c2 hne t1 t2 l1.length l2.length (by simp[World.shape?,r1,cl]) (by simp[World.shape?,r2,cl]) (by simpa using hl) (by simp[World.frozen?,r1,cl]) (by simp[World.frozen?,r1,cl]);have hev:ac.eval (.func g)=.func (.func g) #[] #[]:=rfl
 simp[execOp,resolve,Deferred.ofValue,invoke,s.eval hx,s.eval hy,hev,run_callFunc_extern hf hname hb hn he,hr]
end
section
variable {P : Program} {n : Nat} {ops rest : List Oper} {Q : vk} {f : vF} {A L : HL} {d : Tmp} {ty : TypeId} {pos : String} {af : Array Edge}
theorem Y.anI {x y:Operand}{t t':TypeId}{k:IntKind}{a b:Int}(hx:ev f x=some (.int k a))(hy:ev f y=some (.int k b)):qk P n ops ⟨some d,.binOp .andNot t x y t',ty,pos,af,none⟩ f A ((.int k (k.wrap ((BitVec.ofInt k.bits a)&&& ~~~(BitVec.ofInt k.bits b)).toNat))):=Y.of (λ_ w s=>by simp[execOp,s.eval hx,s.eval hy,eqGuard,binOp,Op.intBits])
theorem S.mks {x y:Operand}{t e:TypeId}{sz bts:Nat}{ag:Bool}{zs:List Value}{kx ky:IntKind}{m:Nat}[h:wu P t e][h2:Ty P e ag sz zs bts](hx:ev f x=some (.int kx m))(hy:ev f y=some (.int ky m))(hz:zs.length=sz)
  (hb:bts*m≤281474976710656) (h63:m≤9223372036854775807) (hs:m*sz≤16777216) (hk:∀b,qq P n ops rest Q (upd f d (.slice (some ⟨b,0,none⟩) m m)) (pt b (cl (QL m zs) e)::L)):
  qq P n ops (⟨some d,.makeSlice t x y,ty,pos,af,none⟩::rest) Q f L:=by
 obtain ⟨i,z,hi,hisz,hib,hiz,hzz⟩:=h2.raw;refine vB (R:=λv L1=>∃b,v=.slice (some ⟨b,0,none⟩) m m∧L1=pt b (cl (QL m zs) e)::L) (λF ac w s t1=> ?_) (by rintro _ _ ⟨b,rfl,rfl⟩;exact hk b);have hr:=run_makeSlice (P:=P) w t e i z h.raw hi hiz kx ky (m:Int) m zo zo (by rw[hisz];simpa using hs) (by rw[hib];omega) zo;have hzl:z.cells.size=sz:=by rw[←hz,←hzz];simp
 have e1:madeCells z.cells (m*sz)=(QL m zs).toArray:=by
  have:=XB z.cells m sz hzl;rw[hzz] at this;exact this
 rw[hisz,kz,e1] at hr;refine ⟨_,w.alloc (.cells (QL m zs).toArray e),pt w.heap.size (cl (QL m zs) e)::L,?_,?_,_,rfl,rfl⟩
 ·simp[execOp,s.eval hx,s.eval hy,hr]
 ·exact St.pt_new t1 rfl
theorem S.cpy0 {x y:Operand}{t tx e:TypeId}{sz bts:Nat}{ag:Bool}{zs:List Value}{b o dl dc kc:Nat}{a:OA}[h:wu P t e][h2:Ty P e ag sz zs bts]
  (hx:ev f x=some (.slice (some ⟨b,o,none⟩) dl dc)) (hy:ev f y=some (.slice a 0 kc)) (hk:qq P n ops rest Q (upd f d (.int .i64 0)) L):
  qq P n ops (⟨some d,.call ⟨.builtin .copy,#[x,y],#[t,tx]⟩,ty,pos,af,none⟩::rest) Q f L:=by
 refine vB (R:=λv L1=>v=.int .i64 0∧L1=L) (λF ac w s t1=> ?_) (by rintro _ _ ⟨rfl,rfl⟩;exact hk);have hst:(storeCells ⟨b,o,none⟩ []).run P w=.ok () w:=rfl;have hrun:(Builtin.copy_ #[t,tx] ty #[.slice (some ⟨b,o,none⟩) dl dc,.slice a 0 kc]).run P w=.ok (goInt 0) w:=by
  cases a with
  |none=>simp[Builtin.copy_,run_underlying h.raw,Builtin.lenOf,Builtin.firstCells,h2.size,hst]
  |some ad=>
   have hld:=run_loadCells_list (P:=P) w ad [] (λj v e=>by simp at e);simp only[j7] at hld
   simp[Builtin.copy_,run_underlying h.raw,Builtin.lenOf,Builtin.firstCells,h2.size,hld,hst]
 refine ⟨_,w,_,?_,t1,rfl,rfl⟩
 simp[execOp,resolve,invoke,s.eval hx,s.eval hy,builtin,hrun,goInt]
end
theorem qH.fromA {M:OM}{a:OA}{m c l sz:Nat}{cs:List Value}(h:qH M a m sz cs)(h1:l≤m)(h2:m≤c):qH M (Go.Proofs.YtlnfjhiphlfkjaaGreatDoor.Qw a c l sz) (m - l) sz (cs.drop (l*sz)):=by
 by_cases h0:l=0
 ·subst h0
  unfold Go.Proofs.YtlnfjhiphlfkjaaGreatDoor.Qw;rw[jb rfl,Nat.zero_mul,List.drop_zero];exact h
 ·refine ⟨by rw[jE,h.1,Nat.sub_mul],?_⟩
  rcases h.2 with h3|⟨b,o,l',t,fz,e,e1,e2⟩
  ·omega
  ·by_cases hc:c=l
   ·exact .inl zo
   ·subst e
    unfold Go.Proofs.YtlnfjhiphlfkjaaGreatDoor.Qw;rw[ja h0];refine .inr ⟨b,o+l*sz,l',t,fz,by simp[hc],e1,λj v hj=> ?_⟩;rw[List.getElem?_drop] at hj;have:=e2 _ v hj
    rwa [←Nat.add_assoc] at this
end Go.SX
namespace Go.Proofs.YtlnfjhiphlfkjaaGreatDoor
open Go Go.SX
attribute [local irreducible] swp qq qM qL vX qh St qi qk vu qG
def vN :List UInt8→Nat→Nat→Nat×Nat×Int
 | [],_,_=>(0,0,2)
 |b::bs,i,n=>if i=9∧1<b.toNat then (0,0,4) else if b.toNat<128 then (if b.toNat=0∧0<i then (0,0,4) else (n+b.toNat % 128*2^(7*i),i+1,0)) else vN bs (i+1) (n+b.toNat % 128*2^(7*i))
theorem xL (b:UInt8)(bs:List UInt8)(i n:Nat):vN (b::bs) i n=if i=9∧1<b.toNat then (0,0,4) else if b.toNat<128 then (if b.toNat=0∧0<i then (0,0,4) else (n+b.toNat % 128*2^(7*i),i+1,0)) else vN bs (i+1) (n+b.toNat % 128*2^(7*i)):=rfl
theorem Q2 :∀(bs:List UInt8) (i n:Nat),(vN bs i n).2.1≤i+bs.length
 | [],i,n=>by simp[vN]
 |b::bs,i,n=>by
  unfold vN;have:=Q2 bs (i+1) (n+b.toNat % 128*2^(7*i));rw[jC]
  repeat' split
  all_goals ((try dsimp only);omega)
set_option maxRecDepth 100000 in
theorem jG9 (b:Nat)(hb:b<256):IntKind.u8.wrap (((BitVec.ofInt IntKind.u8.bits (b:Int))&&& ~~~(BitVec.ofInt IntKind.u8.bits 128)).toNat:Int)=((b % 128:Nat):Int):=by
 show IntKind.u8.wrap (((BitVec.ofInt 8 (b:Int))&&& ~~~(BitVec.ofInt 8 128)).toNat:Int)=_
 rw[BitVec.toNat_and,show (BitVec.ofInt 8 (b:Int)).toNat=b by simp;omega,show (~~~(BitVec.ofInt 8 128)).toNat=127 by decide];have e3:b&&&127=b % 128:=(by decide:∀x,x<256→x&&&127=x % 128) b hb;rw[e3,wrap_u8 zo zo]
theorem di {n b i:Nat}(hn:n<2^(7*i))(hb:b<128):n+b*2^(7*i)<2^(7*(i+1)):=by
 have e:2^(7*(i+1))=128*2^(7*i):=by rw[Nat.mul_add,Nat.pow_add,Nat.mul_comm]
 have:=Nat.mul_le_mul_right (2^(7*i)) (show b≤127 by omega);omega
theorem mO {n b i:Nat}(hn:n<2^(7*i))(hi:i≤9)(hb:b<128)(h9:i=9→b≤1):n+b*2^(7*i)<18446744073709551616∧
  IntKind.u64.wrap (((BitVec.ofInt IntKind.u64.bits (n:Int))|||(BitVec.ofInt IntKind.u64.bits (IntKind.u64.wrap ((b:Int)*2^(7*i))))).toNat:Int)=((n+b*2^(7*i):Nat):Int):=by
 have h1:n+b*2^(7*i)<18446744073709551616:=by
  by_cases h:i=9
  ·subst h
   have:=h9 rfl;have e:(2:Nat)^(7*9)=9223372036854775808:=by decide
   rw[e] at hn ⊢;omega
  ·have:=di hn hb
   have h2:2^(7*(i+1))≤2^(7*9):=Nat.pow_le_pow_right zo zo;have e:(2:Nat)^(7*9)=9223372036854775808:=by decide
   omega
 refine ⟨h1,?_⟩;have e2:IntKind.u64.wrap ((b:Int)*2^(7*i))=((b*2^(7*i):Nat):Int):=by
  have:((b:Int)*2^(7*i))=((b*2^(7*i):Nat):Int):=by push_cast;rfl
  rw[this,wrap_u64 zo zo]
 have e:∀x:Nat,x<18446744073709551616→(BitVec.ofInt IntKind.u64.bits (x:Int)).toNat=x:=λx hx=>by
  show (BitVec.ofInt 64 (x:Int)).toNat=x
  simp;omega
 have e5:n|||b*2^(7*i)=n+b*2^(7*i):=by rw[Nat.or_comm,Nat.mul_comm b,←Nat.two_pow_add_eq_or_of_lt hn,Nat.add_comm]
 rw[e2,BitVec.toNat_or,e _ zo,e _ zo,e5,wrap_u64 zo zo]
abbrev cB (b:UInt8):List Value:=[B b]
theorem jBP (xs:List UInt8):xs.flatMap cB=xs.map B:=by induction xs with
 |nil=>rfl
 |cons x xs ih=>simp[jK,ih]
set_option maxRecDepth 100000 in
theorem rO (a:OA)(c:Nat)(bs:List UInt8)(L:HL)(h:qW L a bs.length 1 (bs.map B))(hb:bs.length≤1000000000000):
  qh kY 234 [.slice a bs.length c] L (λv L'=>v=.tuple #[.int .u64 (vN bs 0 0).1,.int .i64 (vN bs 0 0).2.1,.int .i64 (vN bs 0 0).2.2]∧L'=L):=by
 refine qg Tryz.func234 rfl rfl rfl ?_;refine Q.r ?_;refine qx (σ:=Unit) (λ_=> []) (λ_=>L) (λ_=>vN bs 0 0=(0,0,2)) ?_ ?_
 ·refine ql (σ:=Nat×Nat) (λs=> [(8,.slice a bs.length c),(9,.int .i64 bs.length),(5,.int .u64 s.2),(10,.int .i64 s.1)]) (λ_=>L)
   (λs=>s.1≤bs.length∧s.1≤9∧s.2<2^(7*s.1)∧vN (bs.drop s.1) s.1 s.2=vN bs 0 0) (λs=>bs.length - s.1) (0,0) zt (kZ _) ⟨by omega,by omega,by simp,rfl⟩ ?_
  rintro ⟨k,n⟩ ⟨hk,h9,hn,hp⟩;dsimp only at hk h9 hn hp ⊢
  by_cases hlt:k<bs.length
  ·obtain ⟨x,hx⟩:=qw hlt
   have hd:bs.drop k=x::bs.drop (k+1):=by
    rw[List.drop_eq_getElem_cons hlt]
    congr 1
    exact (jm.1 hx).2
   rw[hd,xL] at hp;have hx8:x.toNat<256:=x.toNat_lt;have hrs:qW L a bs.length 1 (bs.flatMap cB):=by rw[jBP];exact h
   obtain ⟨b,o,hia,hr⟩:=qW.elem (g:=cB) (λ_=>rfl) hrs hx rfl;clear hrs;rw[hia];have em:IntKind.i64.wrap (7*(k:Int))=((7*k:Nat):Int):=by rw[vl zo zo];push_cast;rfl
   by_cases c9:k=9∧1<x.toNat
   ·rw[jb c9] at hp
    obtain ⟨c91,c92⟩:=c9;rw[←hp];refine Q.r ?_;exact N.r3 (RV.tmp rfl (RV.tmp rfl (RV.tmp rfl RV.nil))) (kZ _) ⟨rfl,rfl⟩
   ·rw[ja c9] at hp
    have hm9:k=9→x.toNat % 128≤1:=λe=>by omega
    obtain ⟨ho1,ho2⟩:=mO (b:=x.toNat % 128) hn h9 zo hm9;have hm2:=di (b:=x.toNat % 128) hn zo;generalize hm:n+x.toNat % 128*2^(7*k)=m at*;have hpw:(2:Nat)^(7*(k+1))=2^(7*(k+1)):=rfl;clear hpw hn hm;have hgo:∀{R:Prop},(k=9→x.toNat≤1→R)→(k≠9→R)→R:=λh1 h2=>by
     by_cases e:k=9
     ·exact h1 e zo
     ·exact h2 e
    refine hgo (λc91 c92=> ?_) (λc91=> ?_)
    all_goals refine Q.r ?_
    all_goals refine S.y (Y.anI rfl rfl) ?_
    all_goals rw[jG9 _ hx8]
    all_goals refine Q.r ?_
    all_goals refine S.y (Y.cvi rfl) ?_
    all_goals rw[wrap_u64 zo zo]
    all_goals refine Q.r ?_
    all_goals refine S.y (Y.mul rfl rfl) ?_
    all_goals rw[em]
    all_goals refine S.y (Y.shlI (b:=7*k) rfl rfl (by show 7*k≤64;omega)) ?_
    all_goals refine S.y (Y.or rfl rfl) ?_
    all_goals rw[ho2]
    all_goals clear ho2 hgo hm9 em c9 hd hia ho1
    ·rw[jb zo] at hp
     by_cases hx0:x.toNat=0
     ·rw[jb ⟨hx0,by omega⟩] at hp
      rw[←hp];clear hp;refine Q.r ?_;exact N.r3 (RV.tmp rfl (RV.tmp rfl (RV.tmp rfl RV.nil))) (kZ _) ⟨rfl,rfl⟩
     ·rw[ja zo] at hp
      rw[←hp];clear hp;refine Q.r ?_;exact N.r3 (RV.tmp rfl (RV.tmp rfl (RV.tmp rfl RV.nil))) (kZ _) ⟨rfl,rfl⟩
    ·by_cases hx1:x.toNat<128
     ·rw[jb hx1] at hp
      by_cases hx0:x.toNat=0
      ·by_cases hk0:0<k
       ·rw[jb ⟨hx0,hk0⟩] at hp
        rw[←hp];clear hp;refine Q.r ?_;exact N.r3 (RV.tmp rfl (RV.tmp rfl (RV.tmp rfl RV.nil))) (kZ _) ⟨rfl,rfl⟩
       ·rw[ja zo] at hp
        rw[←hp];clear hp;refine Q.r ?_;exact N.r3 (RV.tmp rfl (RV.tmp rfl (RV.tmp rfl RV.nil))) (kZ _) ⟨rfl,rfl⟩
      ·rw[ja zo] at hp
       rw[←hp];clear hp;refine Q.r ?_;exact N.r3 (RV.tmp rfl (RV.tmp rfl (RV.tmp rfl RV.nil))) (kZ _) ⟨rfl,rfl⟩
     ·rw[ja hx1] at hp
      refine Q.r ?_;exact ⟨(k+1,m),zt,kZ _,⟨by omega,by omega,hm2,hp⟩,by dsimp only;omega⟩
  ·have hke:k=bs.length:=by omega
   subst hke;rw[kM] at hp;refine Q.r ?_;exact ⟨(),trivial,kZ _,hp.symm⟩
 ·rintro _ hp
  (try dsimp only at hp)
  rw[hp];refine Q.r ?_;exact N.r3 (RV.tmp rfl (RV.tmp rfl (RV.tmp rfl RV.nil))) (kZ _) ⟨rfl,rfl⟩
def qA (bs:List UInt8)(most:Nat):Nat×Nat×Int:=if (vN bs 0 0).2.2≠0 then (0,0,(vN bs 0 0).2.2) else if most<(vN bs 0 0).1 then (0,0,3) else ((vN bs 0 0).1,(vN bs 0 0).2.1,0)
def QK (a:OA)(c:Nat)(bs:List UInt8)(q:Nat×Nat×Int):Value:=if q.2.2≠0 then .slice none 0 0 else .slice (Qw a c q.2.1 1) (bs.length - q.2.1) (c - q.2.1)
theorem xJ (bs:List UInt8)(most:Nat):(qA bs most).2.1≤bs.length:=by
 unfold qA;have:=Q2 bs 0 0
 split
 ·simp
 ·split
  ·simp
  ·dsimp only;omega
theorem qW.atA {L:HL}{a:OA}{m sz:Nat}{cs:List Value}(h:qW L a m sz cs):m=0∨∃b o,a=some ⟨b,o,none⟩:=by
 rcases h.2 with h0|⟨b,o,e,_⟩
 ·exact .inl h0
 ·exact .inr ⟨b,o,e⟩
set_option maxRecDepth 100000 in
theorem V0 (a:OA)(c:Nat)(bs:List UInt8)(most:Nat)(L:HL)(h:qW L a bs.length 1 (bs.map B))(hb:bs.length≤1000000000000):
  qh kY 194 [.slice a bs.length c,.int .u64 most] L (λv L'=>v=.tuple #[.int .u64 (qA bs most).1,QK a c bs (qA bs most),.int .i64 (qA bs most).2.2]∧L'=L):=by
 have hsz:=Q2 bs 0 0;have hat:=qW.atA h;have hp:=rO a c bs L h hb;unfold qA;generalize vN bs 0 0=q at*;obtain ⟨v,sz,e⟩:=q;dsimp only at*;refine qg Tryz.func194 rfl rfl rfl ?_;refine Q.r ?_;refine S.cr rfl hp ?_;rintro _ _ ⟨rfl,rfl⟩;clear hp
 by_cases he:e=0
 ·subst he
  by_cases hm:most<v
  ·rw[ja zd,jb hm]
   refine Q.r ?_;exact N.r3 (RV.tmp rfl (RV.tmp rfl (RV.tmp rfl RV.nil))) (kZ _) ⟨rfl,rfl⟩
  ·rw[ja zd,ja hm]
   refine Q.r ?_;refine Q.dgo [] [] [] [0,1,2,3,4,5,6] ?_;refine Q.rd ?_;refine D.y rfl rfl rfl zk (Y.slFa rfl rfl rfl zo hat) ?_;refine Q.rd ?_;refine Q.r ?_;exact N.r3 (RV.tmp rfl (RV.tmp rfl (RV.tmp rfl RV.nil))) (kZ _) ⟨rfl,rfl⟩
 ·rw[jb he]
  refine Q.r ?_;refine N.r3 (RV.tmp rfl (RV.tmp rfl (RV.tmp rfl RV.nil))) (kZ _) ⟨?_,rfl⟩;unfold QK;rw[jb he];rfl
abbrev dH (r:Nat)(a:OA)(m c:Nat)(bad:Int):HP:=pt r (cl [.slice a m c,.int .i64 bad] 243)
theorem sy (r:Nat)(a:OA)(m c:Nat)(bad e:Int)(L:HL):
  qh kY 235 [.pointer (some ⟨r,0,none⟩),.int .i64 e] (dH r a m c bad::L) (λv L'=>v=.tuple #[]∧L'=dH r a m c (if bad=0 then e else bad)::L):=by
 refine qg Tryz.func235 rfl rfl rfl ?_
 by_cases hb:bad=0
 ·rw[jb hb]
  refine Q.r ?_;exact N.n0 RV.nil (kZ _) ⟨rfl,rfl⟩
 ·rw[ja hb]
  refine Q.r ?_;exact N.n0 RV.nil (kZ _) ⟨rfl,rfl⟩
theorem zu (r:Nat)(a a2:OA)(m c m2 c2:Nat)(bad e:Int)(L:HL):
  qh kY 195 [.pointer (some ⟨r,0,none⟩),.slice a2 m2 c2,.int .i64 e] (dH r a m c bad::L)
   (λv L'=>v=.bool (decide (e=0))∧L'=(if e=0 then dH r a2 m2 c2 bad else dH r a m c (if bad=0 then e else bad))::L):=by
 refine qg Tryz.func195 rfl rfl rfl ?_
 by_cases he:e=0
 ·rw[jb he]
  refine Q.r ?_;exact N.t rfl (kZ _) ⟨by rw[jo he],rfl⟩
 ·rw[ja he]
  refine Q.r ?_;refine S.cr rfl (sy r a m c bad e L) ?_;rintro _ _ ⟨rfl,rfl⟩;refine Q.r ?_;exact N.t rfl (kZ _) ⟨by rw[jv he],rfl⟩
theorem ZW (r:Nat)(a:OA)(m c:Nat)(bad:Int)(L:HL):
  qh kY 193 [.pointer (some ⟨r,0,none⟩)] (dH r a m c bad::L) (λv L'=>v=.bool (!decide (bad=0))∧L'=dH r a m c bad::L):=by
 refine qg Tryz.func193 rfl rfl rfl ?_;refine Q.r ?_;exact N.t rfl (kZ _) ⟨rfl,rfl⟩
def JA (most:Nat)(bs:List UInt8)(bad:Int):Nat×List UInt8×Int:=if bad≠0 then (0,bs,bad) else if (qA bs most).2.2≠0 then (0,bs,(qA bs most).2.2) else ((qA bs most).1,bs.drop (qA bs most).2.1,0)
set_option maxRecDepth 100000 in
theorem Zw (r:Nat)(a:OA)(c:Nat)(bs:List UInt8)(bad:Int)(most:Nat)(M:OM)(L:HL)[hM:wY M L](h:qH M a bs.length 1 (bs.map B))(hc:bs.length≤c)(hb:bs.length≤1000000000000):
  qh kY 145 [.pointer (some ⟨r,0,none⟩),.int .u64 most] (dH r a bs.length c bad::L)
   (λv L'=>v=.int .u64 (JA most bs bad).1∧∃a' c',qH M a' (JA most bs bad).2.1.length 1 ((JA most bs bad).2.1.map B)∧(JA most bs bad).2.1.length≤c'∧L'=dH r a' (JA most bs bad).2.1.length c' (JA most bs bad).2.2::L):=by
 refine qg Tryz.func145 rfl rfl rfl ?_;refine Q.r ?_;refine S.cr rfl (ZW r a bs.length c bad L) ?_;rintro _ _ ⟨rfl,rfl⟩;unfold JA
 by_cases hd:bad=0
 ·subst hd
  rw[ja zd];refine Q.r ?_;refine S.cr rfl (V0 a c bs most (dH r a bs.length c 0::L) (h.rd (hm:=wY.there)) hb) ?_;rintro _ _ ⟨rfl,rfl⟩;have hsz:=xJ bs most;generalize qA bs most=q at*;obtain ⟨v,sz,e⟩:=q;dsimp only at*;refine Q.r ?_;unfold QK;dsimp only
  by_cases he:e=0
  ·subst he
   rw[ja zd,ja zd];refine S.cr rfl (zu r a (Qw a c sz 1) bs.length c (bs.length - sz) (c - sz) 0 0 L) ?_;rintro _ _ ⟨rfl,rfl⟩;rw[jb rfl];refine Q.r ?_;have hs:=h.fromA (l:=sz) hsz hc;rw[jX,←List.map_drop] at hs;refine N.t rfl (kZ _) ⟨rfl,Qw a c sz 1,c - sz,?_,?_,?_⟩
   ·dsimp only
    rw[jE];exact hs
   ·dsimp only
    rw[jE];omega
   ·dsimp only
    rw[jE]
  ·rw[jb he,jb he]
   refine S.cr rfl (zu r a none bs.length c 0 0 0 e L) ?_;rintro _ _ ⟨rfl,rfl⟩;rw[ja he,jb rfl];refine Q.r ?_;exact N.t rfl (kZ _) ⟨rfl,a,c,h,hc,rfl⟩
 ·rw[jb hd]
  refine Q.r ?_;exact N.t rfl (kZ _) ⟨rfl,a,c,h,hc,rfl⟩
theorem lT (r:Nat)(a:OA)(m c:Nat)(bad:Int)(L:HL):
  qh kY 147 [.pointer (some ⟨r,0,none⟩)] (dH r a m c bad::L) (λv L'=>v=.int .i64 m∧L'=dH r a m c bad::L):=by
 refine qg Tryz.func147 rfl rfl rfl ?_;refine Q.r ?_;exact N.t rfl (kZ _) ⟨rfl,rfl⟩
def Yj (bs:List UInt8)(bad:Int):Int:=if bad≠0 then bad else if bs.length=0 then 0 else 4
theorem Zy (r:Nat)(a:OA)(c:Nat)(bs:List UInt8)(bad:Int)(L:HL):
  qh kY 86 [.pointer (some ⟨r,0,none⟩)] (dH r a bs.length c bad::L) (λv L'=>v=.int .i64 (Yj bs bad)∧L'=dH r a bs.length c bad::L):=by
 refine qg Tryz.func86 rfl rfl rfl ?_;unfold Yj
 by_cases hd:bad=0
 ·rw[ja (by simpa using hd)]
  by_cases hl:bs.length=0
  ·rw[jb hl]
   refine Q.r ?_;exact N.t rfl (kZ _) ⟨rfl,rfl⟩
  ·rw[ja hl]
   refine Q.r ?_;exact N.t rfl (kZ _) ⟨rfl,rfl⟩
 ·rw[jb hd]
  refine Q.r ?_;exact N.t rfl (kZ _) ⟨rfl,rfl⟩
theorem Zx (a:OA)(c:Nat)(bs:List UInt8)(M:OM)(L L0:HL)[hP:xb L M L0](h:qW L a bs.length 1 (bs.map B))(hb:bs.length≤10000000):
  qh kY 84 [.slice a bs.length c] L (λv L'=>∃r a' M',v=.pointer (some ⟨r,0,none⟩)∧qU M M'∧qH M' a' bs.length 1 (bs.map B)∧L'=dH r a' bs.length bs.length 0::qo M'::L0):=by
 refine qg Tryz.func84 rfl rfl rfl ?_;refine Q.r ?_;refine S.mks (m:=bs.length) rfl rfl zr zo zo zo (λb1=> ?_);refine Q.r ?_;have hput:vG (QL bs.length [.int .u8 0]) 0 (bs.map B)=bs.map B:=by
  have hl:(QL bs.length [Value.int .u8 0]).length=bs.length:=by rw[xK];simp
  unfold vG;rw[kB,kO,kR,List.drop_eq_nil_of_le (by rw[hl,jf];exact jz _),jG]
 rcases h.2 with h0|⟨b2,o2,rfl,hr⟩
 ·have hn:bs=[]:=jO h0
  subst hn;refine S.cpy0 rfl rfl ?_;refine qm (ve (sz:=1) (m:=0) rfl) ?_;refine zY (λM' hl hs=> ?_);refine Q.r ?_;(repeat (intro b1;refine Q.r ?_));exact N.t rfl (kZ _) ⟨b1,_,M',rfl,hl,hs,rfl⟩
 ·refine S.cpy (l':=bs.map B) rfl rfl hr.sub (by simp) (by rw[xK];simp) (zM _) hput ?_
  refine qm (ve (sz:=1) (m:=bs.length) (by simp)) ?_;refine zY (λM' hl hs=> ?_);refine Q.r ?_;(repeat (intro b1;refine Q.r ?_));exact N.t rfl (kZ _) ⟨b1,_,M',rfl,hl,hs,rfl⟩
end Go.Proofs.YtlnfjhiphlfkjaaGreatDoor
namespace Go.SX
open Go
section
variable {P : Program} {n : Nat} {ops rest : List Oper} {Q : vk} {f : vF} {A L : HL} {d : Tmp} {ty : TypeId} {pos : String} {af : Array Edge}
theorem Y.sl3n {x hi mx:Operand}{t e:TypeId}{a:OA}{m c sz bts:Nat}{ag:Bool}{zs:List Value}{h mm:Nat}{j k:Int}{kh km:IntKind}[hs:wu P t e][h2:Ty P e ag sz zs bts](hx:ev f x=some (.slice a m c))
  (hh:ev f hi=some (.int kh j)) (hm:ev f mx=some (.int km k)) (eh:j=(h:Int)) (em:k=(mm:Int)) (h3:h≤mm) (h4:mm≤c):
  qk P n ops ⟨some d,.slice t x none (some hi) (some mx),ty,pos,af,none⟩ f A (.slice a h mm):=by
 refine Y.of (λac w s=> ?_);subst eh em;have e1:∀ad:Addr,ad.add 0=ad:=λ_=>rfl
 have e2:(h:Int)≤(mm:Int):=by omega
 have e3:(mm:Int)≤(c:Int):=by omega
 cases a<;>simp[execOp,s.eval hx,s.eval hh,s.eval hm,Instr.sliceAt,hs.und,Instr.slice,Instr.sliceBounds,h2.size,Instr.sliceBound,asIntOf,h3,h4,e1]
theorem S.mnz {g:FuncId}{fn:Func}{x:Operand}{ats:Array TypeId}{ps:Array TypeId}{t e:TypeId}{m:Nat}[h:wu P t e](hf:P.funcs[g]? =some fn)(hname:(fn.name== "runtime.NumGoroutine")=false)
  (hb:fn.body.isNone=true) (hn:Extern.findNext fn=none) (he:Extern.find fn=some (Extern.BytealgMakeNoZero.makeNoZero ps #[t])) (hx:ev f x=some (.int .i64 (m:Int))) (hm:m≤281474976710656)
  (hk:∀b cs,m≤cs.length→qq P n ops rest Q (upd f d (.slice (some ⟨b,0,none⟩) m cs.length)) (pt b (cl cs e)::L)):
  qq P n ops (⟨some d,.call ⟨.value (.func g),#[x],ats⟩,ty,pos,af,none⟩::rest) Q f L:=by
 refine vB (R:=λv L1=>∃b cs,m≤cs.length∧v=.slice (some ⟨b,0,none⟩) m cs.length∧L1=pt b (cl cs e)::L) (λF ac w s t1=> ?_) (by rintro _ _ ⟨b,cs,h1,rfl,rfl⟩;exact hk b cs h1);obtain ⟨cs,hrun,hle,_⟩:=Lib.run_makeNoZero (P:=P) w ps t e h.raw m hm;have hc:(callFunc g #[.int .i64 (m:Int)]).run P w=.ok (.value (.slice (some ⟨w.heap.size,0,none⟩) m cs.size)) (w.drew.drew.alloc (.cells cs e)):=by
  rw[run_callFunc_extern hf hname hb hn he,hrun];rfl
 refine ⟨_,w.drew.drew.alloc (.cells cs e),pt w.heap.size (cl cs.toList e)::L,?_,?_,w.heap.size,cs.toList,by simpa using hle,by simp;rfl,rfl⟩
 ·have hev:ac.eval (.func g)=.func (.func g) #[] #[]:=rfl
  simp[execOp,resolve,Deferred.ofValue,invoke,s.eval hx,hc,hev]
 ·have e1:cl cs.toList e=.cells cs e (0,0):=by simp[cl]
  rw[e1];exact St.pt_new (w:=w.drew.drew) t1 rfl
theorem yx (b:Nat){t:TypeId}{l cs:List Value}{m:Nat}{L0 L1:HL}{M:OM}[h:xe (pt b (cl l t)) L L0][h1:xb L0 M L1](hm:m≤l.length)(he:l.take m=cs)
  (hk:∀M',qU M M'→qH M' (some ⟨b,0,none⟩) m 1 cs→qq P n ops rest Q f (qo M'::L1)):qq P n ops rest Q f L:=by
 refine qm (h.ent.trans (ve (sz:=1) (m:=l.length) (by simp))) ?_;refine qQ (some ⟨b,0,none⟩) (λM' hl hs=>hk M' hl ?_);have:=qH.take hs hm
 rwa [jX,he] at this
theorem jAG (b:Nat){cd:Code}{t:TypeId}{l cs:List Value}{m:Nat}{L0 L1:HL}{M:OM}[h:xe (pt b (cl l t)) L L0][h1:xb L0 M L1](hm:m≤l.length)(he:l.take m=cs)
  (hk:∀M',qU M M'→qH M' (some ⟨b,0,none⟩) m 1 cs→swp P n cd Q f (qo M'::L1)):swp P n cd Q f L:=by
 refine vf (h.ent.trans (ve (sz:=1) (m:=l.length) (by simp))) ?_;refine wm (some ⟨b,0,none⟩) (λM' hl hs=>hk M' hl ?_);have:=qH.take hs hm
 rwa [jX,he] at this
theorem wA (a:OA){t sz m c:Nat}{cs:List Value}{L0 L1:HL}{M:OM}[h:Kq a L t sz m c cs L0][h1:xb L0 M L1]
  (hk:∀M',qU M M'→qH M' a m sz cs→m≤c→qq P n ops rest Q f (qo M'::L1)):qq P n ops rest Q f L:=by
 refine qm (h.ent.trans Xk) (Jx λhc=> ?_);exact zY (λM' hl hs=>hk M' hl hs hc)
end
theorem nT {t sz m c:Nat}{a:OA}{cs:List Value}{L:HL}:qi (slO t sz a m c cs::L) (wv (cs.length=m*sz∧(m=0∨∃b,a=some ⟨b,0,none⟩)∧m≤c)::slO t sz a m c cs::L):=λw F H=>by
 have H0:St w (slO t sz a m c cs::(L++F)):=by simpa using H
 obtain ⟨hl,hq⟩:=St.slO_open H0;have hp:cs.length=m*sz∧(m=0∨∃b,a=some ⟨b,0,none⟩)∧m≤c:=by
  refine ⟨hl,?_⟩
  rcases hq with ⟨_,hm,hc,_⟩|⟨b,_,ha,hm,_⟩
  ·exact ⟨.inl hm,by omega⟩
  ·exact ⟨.inr ⟨b,ha⟩,hm⟩
 exact qi.shut_pure hp w F H
theorem jC4 {P:Program}{n:Nat}{ops rest:List Oper}{Q:vk}{f:vF}{L:HL}(a:OA){t sz m c:Nat}{cs:List Value}{L0:HL}[h:Kq a L t sz m c cs L0]
  (hk:cs.length=m*sz→(m=0∨∃b,a=some ⟨b,0,none⟩)→m≤c→qq P n ops rest Q f (slO t sz a m c cs::L0)):qq P n ops rest Q f L:=
 qm (h.ent.trans nT) (Jx λhp=>hk hp.1 hp.2.1 hp.2.2)
theorem nY (pre rest ys:List Value):vG (pre++rest) pre.length ys=pre++ys++rest.drop ys.length:=by
 unfold vG;rw[List.take_left',kN,Nat.add_sub_cancel_left]
 ·rw[List.drop_eq_nil_of_le zo,kO]
 ·rfl
section
variable {P : Program} {n : Nat} {ops rest : List Oper} {Q : vk} {f : vF} {A L : HL} {d : Tmp} {ty : TypeId} {pos : String} {af : Array Edge}
theorem pB (l:List UInt8)(a b:Nat)(h1:a≤b)(h2:b≤l.length):(⟨l.toArray⟩:ByteArray).extract a b=⟨((l.drop a).take (b - a)).toArray⟩:=by
 apply ByteArray.ext;apply Array.ext';rw[ByteArray.data_extract]
 simp
theorem Y.stF {x lo:Operand}{t:TypeId}{bs:List UInt8}{l:Nat}{i:Int}{kl:IntKind}[hs:VR P t](hx:ev f x=some (str bs))(hl:ev f lo=some (.int kl i))(el:i=(l:Int))(h1:l≤bs.length):
  qk P n ops ⟨some d,.slice t x (some lo) none none,ty,pos,af,none⟩ f A (str (bs.drop l)):=by
 refine Y.of (λac w s=> ?_);subst el;have hx':=s.eval hx;unfold str at hx' ⊢;have e1:(l:Int)≤(bs.length:Int):=by omega
 have es:(⟨bs.toArray⟩:ByteArray).size=bs.length:=by simp[ByteArray.size]
 have e3:(bs.drop l).take (bs.length - l)=bs.drop l:=kK (by rw[jE];exact jz _)
 simp[execOp,hx',s.eval hl,Instr.sliceAt,hs.und,Instr.slice,Instr.sliceBounds,Instr.sliceBound,asIntOf,es,h1,pB bs l bs.length h1 (jz _),e3]
theorem Y.stT {x hi:Operand}{t:TypeId}{bs:List UInt8}{h:Nat}{j:Int}{kh:IntKind}[hs:VR P t](hx:ev f x=some (str bs))(hh:ev f hi=some (.int kh j))(eh:j=(h:Int))(h2:h≤bs.length):
  qk P n ops ⟨some d,.slice t x none (some hi) none,ty,pos,af,none⟩ f A (str (bs.take h)):=by
 refine Y.of (λac w s=> ?_);subst eh;have hx':=s.eval hx;unfold str at hx' ⊢;have e2:(h:Int)≤(bs.length:Int):=by omega
 have es:(⟨bs.toArray⟩:ByteArray).size=bs.length:=by simp[ByteArray.size]
 have e3:=pB bs 0 h (jw _) h2;rw[List.drop_zero,Nat.sub_zero] at e3
 simp[execOp,hx',s.eval hh,Instr.sliceAt,hs.und,Instr.slice,Instr.sliceBounds,Instr.sliceBound,asIntOf,es,h2,e3]
theorem fd {t:TypeId}{ms:Array (String×TypeId)}(m:Nat)(h:P.underlying t=some (.interface ms))(w:World):(Op.equalIn (m+1) t .nilIface .nilIface).run P w=.ok true w:=by
 simp[Op.equalIn,run_underlying h]
theorem Y.eqNN {x:Operand}{t t':TypeId}{ms:Array (String×TypeId)}(hx:ev f x=some .nilIface)(hi:P.underlying t=some (.interface ms)):qk P n ops ⟨some d,.binOp .eql t x (.const .nilIface) t',ty,pos,af,none⟩ f A (.bool true):=by
 refine Y.of (λac w s=> ?_);have e:ac.eval (.const .nilIface)=.nilIface:=rfl;have e2:(Op.equal t .nilIface .nilIface).run P w=.ok true w:=by
  exact fd 9999 hi w
 simp[execOp,s.eval hx,e,eqGuard,binOp,e2]
theorem Y.stA {x y:Operand}{t t':TypeId}{a b:List UInt8}(hx:ev f x=some (str a))(hy:ev f y=some (str b))(hl:a.length+b.length≤1000000):qk P n ops ⟨some d,.binOp .add t x y t',ty,pos,af,none⟩ f A (str (a++b)):=by
 refine Y.of (λac w s=> ?_);have h1:=s.eval hx;have h2:=s.eval hy;unfold str at h1 h2 ⊢;have e:(⟨a.toArray⟩++⟨b.toArray⟩:ByteArray)=⟨(a++b).toArray⟩:=by
  apply ByteArray.ext
  simp[ByteArray.data_append]
 have ea:(⟨a.toArray⟩:ByteArray).size=a.length:=by simp[ByteArray.size]
 have eb:(⟨b.toArray⟩:ByteArray).size=b.length:=by simp[ByteArray.size]
 have hl2:(a.length:Int)+(b.length:Int)≤9223372036854775807:=by omega
 simp[execOp,h1,h2,eqGuard,binOp,Op.stringOp,e,ea,eb,hl2]
theorem Y.stL {x:Operand}{t:TypeId}{bs:List UInt8}[hs:VR P t](hx:ev f x=some (str bs)):qk P n ops ⟨some d,.call ⟨.builtin .len,#[x],#[t]⟩,ty,pos,af,none⟩ f A (.int .i64 bs.length):=by
 refine Y.of (λac w s=> ?_);have h1:=s.eval hx;unfold str at h1;have es:(⟨bs.toArray⟩:ByteArray).size=bs.length:=by simp[ByteArray.size]
 simp[execOp,resolve,invoke,h1,builtin,Builtin.len_,hs.und,goInt,es]
theorem S.rgs {x:Operand}{t:TypeId}{bs:List UInt8}[hs:VR P t](hx:ev f x=some (str bs))
  (hk:∀r,qq P n ops rest Q (upd f d (.pointer (some ⟨r,0,none⟩))) (pt r (.stringIter ⟨bs.toArray⟩ 0)::L)):qq P n ops (⟨some d,.range t x,ty,pos,af,none⟩::rest) Q f L:=by
 refine vB (R:=λv L1=>∃r,v=.pointer (some ⟨r,0,none⟩)∧L1=pt r (.stringIter ⟨bs.toArray⟩ 0)::L) (λF a w s t0=> ?_) (by rintro _ _ ⟨r,rfl,rfl⟩;exact hk r);have h1:=s.eval hx;unfold str at h1;exact ⟨.pointer (some ⟨w.heap.size,0,none⟩),_,_,by simp[execOp,Instr.range,h1,hs.und,newObj,Sem.run],St.new t0,_,rfl,rfl⟩
theorem S.nxs {x:Operand}{r k:Nat}{bs:List UInt8}{L0:HL}[hp:xe (pt r (.stringIter ⟨bs.toArray⟩ k)) L L0](hx:ev f x=some (.pointer (some ⟨r,0,none⟩)))
  (hend:bs.length≤k→qq P n ops rest Q (upd f d (.tuple #[.bool false])) (pt r (.stringIter ⟨bs.toArray⟩ k)::L0))
  (hstep:∀b,bs[k]? =some b→qq P n ops rest Q (upd f d (.tuple #[.bool true,.int .i64 k,.int .i32 b.toNat])) (pt r (.stringIter ⟨bs.toArray⟩ (k+1))::L0)) (hb:∀b∈bs,b.toNat<128):
  qq P n ops (⟨some d,.next x true,ty,pos,af,none⟩::rest) Q f L:=by
 refine qm hp.ent ?_;refine vB (R := fun v L1 => (bs.length ≤ k ∧ v = .tuple #[.bool false] ∧ L1 = pt r (.stringIter ⟨bs.toArray⟩ k) :: L0) ∨ ∃ b,bs[k]? = some b ∧ v = .tuple #[.bool true,.int .i64 k,.int .i32 b.toNat] ∧ L1 = pt r (.stringIter ⟨bs.toArray⟩ (k + 1)) :: L0) (fun F a w s t0 => ?_) (by
  rintro _ _ (⟨h,rfl,rfl⟩|⟨b,h,rfl,rfl⟩)
  ·exact hend h
  ·exact hstep b h)
 have hr:=St.pt_read t0;have es:(⟨bs.toArray⟩:ByteArray).size=bs.length:=by simp[ByteArray.size]
 by_cases h:k<bs.length
 ·obtain ⟨b,hbk⟩:∃b,bs[k]? =some b:=⟨_,jY h⟩
  have hb8:=hb b (jn hbk);have hget:(⟨bs.toArray⟩:ByteArray).get! k=b:=by
   have:bs.toArray[k]! =b:=by
    rw[getElem!_pos bs.toArray k (by simpa using h)];simp only[List.getElem_toArray];exact (jm.1 hbk).2
   exact this
  have hd:Utf8.decode ⟨bs.toArray⟩ k=(b.toNat,1):=by
   unfold Utf8.decode;simp only[Nat.add_zero,hget];rw[jb hb8]
  refine ⟨_,{w with heap:=w.heap.setIfInBounds r (.stringIter ⟨bs.toArray⟩ (k+1))},_,?_,?_,.inr ⟨b,hbk,rfl,rfl⟩⟩
  ·have hlt:r<w.heap.size:=(kj.1 hr).1
   simp[execOp,s.eval hx,Instr.next,getObj,setObj,Sem.run,hr,es,h,hd,goInt]
  ·have hlt:r<w.heap.size:=(kj.1 hr).1
   exact St.pt_write (w':={w with heap:=w.heap.setIfInBounds r (.stringIter ⟨bs.toArray⟩ (k+1))}) t0 (by simp[hlt]) (λj hj=>by simp[Ne.symm hj])
 ·exact ⟨_,w,_,by simp[execOp,s.eval hx,Instr.next,getObj,Sem.run,hr,es,h],t0,.inl ⟨by omega,rfl,rfl⟩⟩
end
theorem St.more {w w':World}{L:HL}(H:St w L)(hb:∀(k:Nat) (o:Obj),w.heap[k]? =some o→w'.heap[k]? =some o)(he:ext w'=ext w):St w' L:=by
 obtain ⟨h0,f,s⟩:=H;exact ⟨h0,λb p o e=>hb _ _ (f b p o e),by rw[he];exact s⟩
theorem qh.intro {P:Program}{g:FuncId}{args:List Value}{L:HL}{R:Value→HL→Prop}(h:∀F w,St w (L++F)→Calls P g args.toArray w λe w'=>∃v L',e=.returned v∧St w' (L'++F)∧R v L'):qh P g args L R:=h
theorem qh.lift {P:Program}{g:FuncId}{args:List Value}{L:HL}{R:Value→Prop}(h:∀F w,St w (L++F)→Calls P g args.toArray w λe w'=>∃v,e=.returned v∧R v∧(∀(k:Nat) (o:Obj),w.heap[k]? =some o→w'.heap[k]? =some o)∧ext w'=ext w):qh P g args L (λr L'=>R r∧L'=L):=by
 intro F w H;refine (h F w H).mono ?_;rintro e w' ⟨v,rfl,hv,hb,he⟩;exact ⟨v,L,rfl,St.more H hb he,hv,rfl⟩
end Go.SX
namespace Go.Proofs
open Go.Shelf
def Tryz.lays172_ren :Go.Shelf.Ren:=⟨fun|172=>189|244=>231|245=>232|247=>260|279=>261|280=>262|281=>263|282=>264|287=>286|316=>287|171=>138|205=>288|321=>299|322=>300|243=>190|246=>233|283=>265|284=>266|285=>267|286=>268|129=>219|317=>289|318=>290|319=>291|320=>292|337=>301|338=>302|n=>n,fun|9=>9|3=>3|75=>276|76=>277|4=>4|5=>5|167=>340|37=>34|0=>0|85=>341|2=>2|168=>343|53=>31|175=>365|46=>88|210=>369|127=>378|145=>381|143=>379|21=>21|171=>346|173=>348|212=>373|51=>199|20=>20|213=>374|232=>384|233=>385|80=>386|n=>n,fun|15=>3|16=>4|17=>5|18=>6|19=>7|n=>n⟩
theorem Tryz.lays172 :Go.Proofs.Lays.n172 kY Tryz.lays172_ren:={
 mixed:=by kernel_rfl
 f129:=Tryz.func219.trans (jj some zk)
 f171:=Tryz.func138.trans (jj some zk)
 f172:=Tryz.func189.trans (jj some zk)
 f205:=Tryz.func288.trans (jj some zk)
 f243:=Tryz.func190.trans (jj some zk)
 f244:=Tryz.func231.trans (jj some zk)
 f245:=Tryz.func232.trans (jj some zk)
 f246:=Tryz.func233.trans (jj some zk)
 f247:=Tryz.func260.trans (jj some zk)
 f279:=Tryz.func261.trans (jj some zk)
 f280:=Tryz.func262.trans (jj some zk)
 f281:=Tryz.func263.trans (jj some zk)
 f282:=Tryz.func264.trans (jj some zk)
 f283:=Tryz.func265.trans (jj some zk)
 f284:=Tryz.func266.trans (jj some zk)
 f285:=Tryz.func267.trans (jj some zk)
 f286:=Tryz.func268.trans (jj some zk)
 f287:=Tryz.func286.trans (jj some zk)
 f316:=Tryz.func287.trans (jj some zk)
 f317:=Tryz.func289.trans (jj some zk)
 f318:=Tryz.func290.trans (jj some zk)
 f319:=Tryz.func291.trans (jj some zk)
 f320:=Tryz.func292.trans (jj some zk)
 f321:=Tryz.func299.trans (jj some zk)
 f322:=Tryz.func300.trans (jj some zk)
 f337:=Tryz.func301.trans (jj some zk)
 f338:=Tryz.func302.trans (jj some zk)
 t0:=Tryz.underlying0
 a0:=Tryz.isAgg0
 z0:=Tryz.sizeOf0
 v0:=Tryz.zeroValue0
 t2:=Tryz.underlying2
 a2:=Tryz.isAgg2
 z2:=Tryz.sizeOf2
 v2:=Tryz.zeroValue2
 t3:=Tryz.underlying3
 a3:=Tryz.isAgg3
 z3:=Tryz.sizeOf3
 v3:=Tryz.zeroValue3
 t4:=Tryz.underlying4
 a4:=Tryz.isAgg4
 z4:=Tryz.sizeOf4
 v4:=Tryz.zeroValue4
 t5:=Tryz.underlying5
 a5:=Tryz.isAgg5
 z5:=Tryz.sizeOf5
 v5:=Tryz.zeroValue5
 t9:=Tryz.underlying9
 a9:=Tryz.isAgg9
 z9:=Tryz.sizeOf9
 v9:=Tryz.zeroValue9
 t20:=Tryz.underlying20
 a20:=Tryz.isAgg20
 z20:=Tryz.sizeOf20
 v20:=Tryz.zeroValue20
 t21:=Tryz.underlying21
 a21:=Tryz.isAgg21
 z21:=Tryz.sizeOf21
 v21:=Tryz.zeroValue21
 t37:=Tryz.underlying34
 a37:=Tryz.isAgg34
 z37:=Tryz.sizeOf34
 v37:=Tryz.zeroValue34
 t46:=Tryz.underlying88
 a46:=Tryz.isAgg88
 z46:=Tryz.sizeOf88
 v46:=Tryz.zeroValue88
 t51:=Tryz.underlying199
 a51:=Tryz.isAgg199
 z51:=Tryz.sizeOf199
 v51:=Tryz.zeroValue199
 t53:=Tryz.underlying31
 a53:=Tryz.isAgg31
 z53:=Tryz.sizeOf31
 v53:=Tryz.zeroValue31
 t75:=Tryz.underlying276
 a75:=Tryz.isAgg276
 z75:=Tryz.sizeOf276
 v75:=Tryz.zeroValue276
 t76:=Tryz.underlying277
 a76:=Tryz.isAgg277
 z76:=Tryz.sizeOf277
 v76:=Tryz.zeroValue277
 t85:=Tryz.underlying341
 a85:=Tryz.isAgg341
 z85:=Tryz.sizeOf341
 v85:=Tryz.zeroValue341
 t127:=Tryz.underlying378
 a127:=Tryz.isAgg378
 z127:=Tryz.sizeOf378
 v127:=Tryz.zeroValue378
 t143:=Tryz.underlying379
 a143:=Tryz.isAgg379
 z143:=Tryz.sizeOf379
 v143:=Tryz.zeroValue379
 t145:=Tryz.underlying381
 a145:=Tryz.isAgg381
 z145:=Tryz.sizeOf381
 v145:=Tryz.zeroValue381
 t167:=Tryz.underlying340
 a167:=Tryz.isAgg340
 z167:=Tryz.sizeOf340
 v167:=Tryz.zeroValue340
 t168:=Tryz.underlying343
 a168:=Tryz.isAgg343
 z168:=Tryz.sizeOf343
 v168:=Tryz.zeroValue343
 t171:=Tryz.underlying346
 a171:=Tryz.isAgg346
 z171:=Tryz.sizeOf346
 v171:=Tryz.zeroValue346
 t173:=Tryz.underlying348
 a173:=Tryz.isAgg348
 z173:=Tryz.sizeOf348
 v173:=Tryz.zeroValue348
 t175:=Tryz.underlying365
 a175:=Tryz.isAgg365
 z175:=Tryz.sizeOf365
 v175:=Tryz.zeroValue365
 t210:=Tryz.underlying369
 a210:=Tryz.isAgg369
 z210:=Tryz.sizeOf369
 v210:=Tryz.zeroValue369
 t212:=Tryz.underlying373
 a212:=Tryz.isAgg373
 z212:=Tryz.sizeOf373
 v212:=Tryz.zeroValue373
 t213:=Tryz.underlying374
 a213:=Tryz.isAgg374
 z213:=Tryz.sizeOf374
 t232:=Tryz.underlying384
 a232:=Tryz.isAgg384
 z232:=Tryz.sizeOf384
 v232:=Tryz.zeroValue384
 t233:=Tryz.underlying385
 a233:=Tryz.isAgg385
 z233:=Tryz.sizeOf385
 v233:=Tryz.zeroValue385
 g15:=by kernel_rfl
 g16:=by kernel_rfl
 g17:=by kernel_rfl
 g18:=by kernel_rfl
 g19:=by kernel_rfl}
open Go.RowKit in
theorem Tryz.strconv_Atoi (s:ByteArray)(n:Int)(hl:s.size≤18)(h:Lib.atoi s.data.toList=some n)(w:World):
  Calls kY 189 #[.string s] w λe w'=>e=.returned (.tuple #[.int .i64 n,.nilIface])∧∃t,w'=Lib.bytesWorld w 5 t:=Any.strconv_Atoi Tryz.lays172 s n hl h w
def Tryz.lays171_ren :Go.Shelf.Ren:=⟨fun|171=>138|243=>190|246=>233|283=>265|284=>266|285=>267|286=>268|129=>219|317=>289|318=>290|319=>291|320=>292|337=>301|338=>302|n=>n,fun|3=>3|9=>9|2=>2|4=>4|171=>346|0=>0|53=>31|37=>34|5=>5|173=>348|212=>373|51=>199|20=>20|213=>374|46=>88|232=>384|233=>385|n=>n,fun|17=>5|18=>6|19=>7|n=>n⟩
theorem Tryz.lays171 :Go.Proofs.Lays.n171 kY Tryz.lays171_ren:={
 mixed:=by kernel_rfl
 f129:=Tryz.func219.trans (jj some zk)
 f171:=Tryz.func138.trans (jj some zk)
 f243:=Tryz.func190.trans (jj some zk)
 f246:=Tryz.func233.trans (jj some zk)
 f283:=Tryz.func265.trans (jj some zk)
 f284:=Tryz.func266.trans (jj some zk)
 f285:=Tryz.func267.trans (jj some zk)
 f286:=Tryz.func268.trans (jj some zk)
 f317:=Tryz.func289.trans (jj some zk)
 f318:=Tryz.func290.trans (jj some zk)
 f319:=Tryz.func291.trans (jj some zk)
 f320:=Tryz.func292.trans (jj some zk)
 f337:=Tryz.func301.trans (jj some zk)
 f338:=Tryz.func302.trans (jj some zk)
 t0:=Tryz.underlying0
 a0:=Tryz.isAgg0
 z0:=Tryz.sizeOf0
 v0:=Tryz.zeroValue0
 t2:=Tryz.underlying2
 a2:=Tryz.isAgg2
 z2:=Tryz.sizeOf2
 v2:=Tryz.zeroValue2
 t3:=Tryz.underlying3
 a3:=Tryz.isAgg3
 z3:=Tryz.sizeOf3
 v3:=Tryz.zeroValue3
 t4:=Tryz.underlying4
 a4:=Tryz.isAgg4
 z4:=Tryz.sizeOf4
 v4:=Tryz.zeroValue4
 t5:=Tryz.underlying5
 a5:=Tryz.isAgg5
 z5:=Tryz.sizeOf5
 v5:=Tryz.zeroValue5
 t9:=Tryz.underlying9
 a9:=Tryz.isAgg9
 z9:=Tryz.sizeOf9
 v9:=Tryz.zeroValue9
 t20:=Tryz.underlying20
 a20:=Tryz.isAgg20
 z20:=Tryz.sizeOf20
 v20:=Tryz.zeroValue20
 t37:=Tryz.underlying34
 a37:=Tryz.isAgg34
 z37:=Tryz.sizeOf34
 v37:=Tryz.zeroValue34
 t46:=Tryz.underlying88
 a46:=Tryz.isAgg88
 z46:=Tryz.sizeOf88
 v46:=Tryz.zeroValue88
 t51:=Tryz.underlying199
 a51:=Tryz.isAgg199
 z51:=Tryz.sizeOf199
 v51:=Tryz.zeroValue199
 t53:=Tryz.underlying31
 a53:=Tryz.isAgg31
 z53:=Tryz.sizeOf31
 v53:=Tryz.zeroValue31
 t171:=Tryz.underlying346
 a171:=Tryz.isAgg346
 z171:=Tryz.sizeOf346
 v171:=Tryz.zeroValue346
 t173:=Tryz.underlying348
 a173:=Tryz.isAgg348
 z173:=Tryz.sizeOf348
 v173:=Tryz.zeroValue348
 t212:=Tryz.underlying373
 a212:=Tryz.isAgg373
 z212:=Tryz.sizeOf373
 v212:=Tryz.zeroValue373
 t213:=Tryz.underlying374
 a213:=Tryz.isAgg374
 z213:=Tryz.sizeOf374
 t232:=Tryz.underlying384
 a232:=Tryz.isAgg384
 z232:=Tryz.sizeOf384
 v232:=Tryz.zeroValue384
 t233:=Tryz.underlying385
 a233:=Tryz.isAgg385
 z233:=Tryz.sizeOf385
 v233:=Tryz.zeroValue385
 g17:=by kernel_rfl
 g18:=by kernel_rfl
 g19:=by kernel_rfl}
open Go.RowKit Go.Sort Go.Lib in
theorem Tryz.strconv_Itoa_small (i:Nat)(hi:i<100)(w:World):
  Calls kY 138 #[.int .i64 i] w λe w'=>e=.returned (.string ⟨(Lib.decDigits i).toArray⟩)∧w'=w:=Any.strconv_Itoa_small Tryz.lays171 i hi w
def Tryz.laysC172_ren :Go.Shelf.Ren:=⟨fun|172=>189|244=>231|245=>232|247=>260|279=>261|280=>262|281=>263|282=>264|287=>286|316=>287|171=>138|205=>288|321=>299|322=>300|243=>190|246=>233|283=>265|284=>266|285=>267|286=>268|129=>219|317=>289|318=>290|319=>291|320=>292|337=>301|338=>302|n=>n,fun|9=>9|3=>3|75=>276|76=>277|4=>4|5=>5|167=>340|37=>34|0=>0|85=>341|2=>2|168=>343|53=>31|175=>365|46=>88|210=>369|127=>378|145=>381|143=>379|21=>21|171=>346|173=>348|212=>373|51=>199|20=>20|213=>374|232=>384|233=>385|80=>386|n=>n,fun|15=>3|16=>4|17=>5|18=>6|19=>7|n=>n⟩
theorem Tryz.laysC172 :Go.Proofs.LaysC.n172 kY Tryz.laysC172_ren:={
 mixed:=by kernel_rfl
 f129:=Tryz.func219.trans (jj some zk)
 f171:=Tryz.func138.trans (jj some zk)
 f172:=Tryz.func189.trans (jj some zk)
 f205:=Tryz.func288.trans (jj some zk)
 f243:=Tryz.func190.trans (jj some zk)
 f244:=Tryz.func231.trans (jj some zk)
 f245:=Tryz.func232.trans (jj some zk)
 f246:=Tryz.func233.trans (jj some zk)
 f247:=Tryz.func260.trans (jj some zk)
 f279:=Tryz.func261.trans (jj some zk)
 f280:=Tryz.func262.trans (jj some zk)
 f281:=Tryz.func263.trans (jj some zk)
 f282:=Tryz.func264.trans (jj some zk)
 f283:=Tryz.func265.trans (jj some zk)
 f284:=Tryz.func266.trans (jj some zk)
 f285:=Tryz.func267.trans (jj some zk)
 f286:=Tryz.func268.trans (jj some zk)
 f287:=Tryz.func286.trans (jj some zk)
 f316:=Tryz.func287.trans (jj some zk)
 f317:=Tryz.func289.trans (jj some zk)
 f318:=Tryz.func290.trans (jj some zk)
 f319:=Tryz.func291.trans (jj some zk)
 f320:=Tryz.func292.trans (jj some zk)
 f321:=Tryz.func299.trans (jj some zk)
 f322:=Tryz.func300.trans (jj some zk)
 f337:=Tryz.func301.trans (jj some zk)
 f338:=Tryz.func302.trans (jj some zk)
 t0:=Tryz.underlying0
 a0:=Tryz.isAgg0
 z0:=Tryz.sizeOf0
 v0:=Tryz.zeroValue0
 t2:=Tryz.underlying2
 a2:=Tryz.isAgg2
 z2:=Tryz.sizeOf2
 v2:=Tryz.zeroValue2
 t3:=Tryz.underlying3
 a3:=Tryz.isAgg3
 z3:=Tryz.sizeOf3
 v3:=Tryz.zeroValue3
 t4:=Tryz.underlying4
 a4:=Tryz.isAgg4
 z4:=Tryz.sizeOf4
 v4:=Tryz.zeroValue4
 t5:=Tryz.underlying5
 a5:=Tryz.isAgg5
 z5:=Tryz.sizeOf5
 v5:=Tryz.zeroValue5
 t9:=Tryz.underlying9
 a9:=Tryz.isAgg9
 z9:=Tryz.sizeOf9
 v9:=Tryz.zeroValue9
 t20:=Tryz.underlying20
 a20:=Tryz.isAgg20
 z20:=Tryz.sizeOf20
 v20:=Tryz.zeroValue20
 t21:=Tryz.underlying21
 a21:=Tryz.isAgg21
 z21:=Tryz.sizeOf21
 v21:=Tryz.zeroValue21
 t37:=Tryz.underlying34
 a37:=Tryz.isAgg34
 z37:=Tryz.sizeOf34
 v37:=Tryz.zeroValue34
 t46:=Tryz.underlying88
 a46:=Tryz.isAgg88
 z46:=Tryz.sizeOf88
 v46:=Tryz.zeroValue88
 t51:=Tryz.underlying199
 a51:=Tryz.isAgg199
 z51:=Tryz.sizeOf199
 v51:=Tryz.zeroValue199
 t53:=Tryz.underlying31
 a53:=Tryz.isAgg31
 z53:=Tryz.sizeOf31
 v53:=Tryz.zeroValue31
 t75:=Tryz.underlying276
 a75:=Tryz.isAgg276
 z75:=Tryz.sizeOf276
 v75:=Tryz.zeroValue276
 t76:=Tryz.underlying277
 a76:=Tryz.isAgg277
 z76:=Tryz.sizeOf277
 v76:=Tryz.zeroValue277
 t85:=Tryz.underlying341
 a85:=Tryz.isAgg341
 z85:=Tryz.sizeOf341
 v85:=Tryz.zeroValue341
 t127:=Tryz.underlying378
 a127:=Tryz.isAgg378
 z127:=Tryz.sizeOf378
 v127:=Tryz.zeroValue378
 t143:=Tryz.underlying379
 a143:=Tryz.isAgg379
 z143:=Tryz.sizeOf379
 v143:=Tryz.zeroValue379
 t145:=Tryz.underlying381
 a145:=Tryz.isAgg381
 z145:=Tryz.sizeOf381
 v145:=Tryz.zeroValue381
 t167:=Tryz.underlying340
 a167:=Tryz.isAgg340
 z167:=Tryz.sizeOf340
 v167:=Tryz.zeroValue340
 t168:=Tryz.underlying343
 a168:=Tryz.isAgg343
 z168:=Tryz.sizeOf343
 v168:=Tryz.zeroValue343
 t171:=Tryz.underlying346
 a171:=Tryz.isAgg346
 z171:=Tryz.sizeOf346
 v171:=Tryz.zeroValue346
 t173:=Tryz.underlying348
 a173:=Tryz.isAgg348
 z173:=Tryz.sizeOf348
 v173:=Tryz.zeroValue348
 t175:=Tryz.underlying365
 a175:=Tryz.isAgg365
 z175:=Tryz.sizeOf365
 v175:=Tryz.zeroValue365
 t210:=Tryz.underlying369
 a210:=Tryz.isAgg369
 z210:=Tryz.sizeOf369
 v210:=Tryz.zeroValue369
 t212:=Tryz.underlying373
 a212:=Tryz.isAgg373
 z212:=Tryz.sizeOf373
 v212:=Tryz.zeroValue373
 t213:=Tryz.underlying374
 a213:=Tryz.isAgg374
 z213:=Tryz.sizeOf374
 t232:=Tryz.underlying384
 a232:=Tryz.isAgg384
 z232:=Tryz.sizeOf384
 v232:=Tryz.zeroValue384
 t233:=Tryz.underlying385
 a233:=Tryz.isAgg385
 z233:=Tryz.sizeOf385
 v233:=Tryz.zeroValue385
 g15:=by kernel_rfl
 g16:=by kernel_rfl
 g17:=by kernel_rfl
 g18:=by kernel_rfl
 g19:=by kernel_rfl
 t80:=Tryz.underlying386
 a80:=Tryz.isAgg386
 z80:=Tryz.sizeOf386
 v80:=Tryz.zeroValue386
 i0:=by kernel_rfl
 i2:=by kernel_rfl
 i3:=by kernel_rfl
 i4:=by kernel_rfl
 i5:=by kernel_rfl
 i9:=by kernel_rfl
 i20:=by kernel_rfl
 i21:=by kernel_rfl
 i37:=by kernel_rfl
 i46:=by kernel_rfl
 i51:=by kernel_rfl
 i53:=by kernel_rfl
 i75:=by kernel_rfl
 i76:=by kernel_rfl
 i80:=by kernel_rfl
 i85:=by kernel_rfl
 i127:=by kernel_rfl
 i143:=by kernel_rfl
 i145:=by kernel_rfl
 i167:=by kernel_rfl
 i168:=by kernel_rfl
 i171:=by kernel_rfl
 i173:=by kernel_rfl
 i175:=by kernel_rfl
 i210:=by kernel_rfl
 i212:=by kernel_rfl
 i232:=by kernel_rfl
 i233:=by kernel_rfl
 m15:=by kernel_rfl
 m16:=by kernel_rfl
 m17:=by kernel_rfl
 m18:=by kernel_rfl
 m19:=by kernel_rfl
 c0:=by kernel_rfl
 c2:=by kernel_rfl
 c3:=by kernel_rfl
 c4:=by kernel_rfl
 c5:=by kernel_rfl
 c9:=by kernel_rfl
 c20:=by kernel_rfl
 c21:=by kernel_rfl
 c37:=by kernel_rfl
 c46:=by kernel_rfl
 c51:=by kernel_rfl
 c53:=by kernel_rfl
 c75:=by kernel_rfl
 c76:=by kernel_rfl
 c80:=by kernel_rfl
 c85:=by kernel_rfl
 c127:=by kernel_rfl
 c143:=by kernel_rfl
 c145:=by kernel_rfl
 c167:=by kernel_rfl
 c168:=by kernel_rfl
 c171:=by kernel_rfl
 c173:=by kernel_rfl
 c175:=by kernel_rfl
 c210:=by kernel_rfl
 c212:=by kernel_rfl
 c213:=by kernel_rfl
 c232:=by kernel_rfl
 c233:=by kernel_rfl}
open Go.RowKit in
theorem Tryz.strconv_Atoi_syntax (s:ByteArray)(hlim:s.size≤281474976710656)(h:Lib.atoiAll s.data.toList=.«syntax»)(ev:Value)(w:World)(hv:w.cell? ⟨3,0,none⟩=some ev)(hev:ev=.nilIface∨∃te pe,ev=.iface te pe):
  Calls kY 189 #[.string s] w λe w'=>∃N,e=.returned (.tuple #[.int .i64 (0),.iface 343 (.pointer (some ⟨N,0,none⟩))])∧w.heap.size≤N∧w'.heap[N]? =some (.cells #[.string ⟨#[65,116,111,105]⟩,.string s,ev] 369 (0,0))∧Below w.heap.size w w':=Any.strconv_Atoi_syntax Tryz.laysC172 s hlim h ev w hv hev
def Tryz.lays190_ren :Go.Shelf.Ren:=⟨fun|190=>125|125=>181|258=>180|128=>218|129=>219|302=>209|303=>210|304=>211|305=>212|306=>213|307=>214|308=>215|309=>216|310=>217|333=>249|329=>250|330=>251|334=>252|335=>253|336=>254|344=>284|n=>n,fun|31=>68|9=>9|3=>3|46=>88|0=>0|51=>199|53=>31|4=>4|183=>301|182=>300|131=>221|5=>5|218=>333|222=>336|228=>361|229=>362|n=>n,fun|n=>n⟩
theorem Tryz.lays190 :Go.Proofs.Lays.n190 kY Tryz.lays190_ren:={
 mixed:=by kernel_rfl
 f125:=Tryz.func181.trans (jj some zk)
 f128:=Tryz.func218.trans (jj some zk)
 f129:=Tryz.func219.trans (jj some zk)
 f190:=Tryz.func125.trans (jj some zk)
 f258:=Tryz.func180.trans (jj some zk)
 f302:=Tryz.func209.trans (jj some zk)
 f303:=Tryz.func210.trans (jj some zk)
 f304:=Tryz.func211.trans (jj some zk)
 f305:=Tryz.func212.trans (jj some zk)
 f306:=Tryz.func213.trans (jj some zk)
 f307:=Tryz.func214.trans (jj some zk)
 f308:=Tryz.func215.trans (jj some zk)
 f309:=Tryz.func216.trans (jj some zk)
 f310:=Tryz.func217.trans (jj some zk)
 f329:=Tryz.func250.trans (jj some zk)
 f330:=Tryz.func251.trans (jj some zk)
 f333:=Tryz.func249.trans (jj some zk)
 f334:=Tryz.func252.trans (jj some zk)
 f335:=Tryz.func253.trans (jj some zk)
 f336:=Tryz.func254.trans (jj some zk)
 f344:=Tryz.func284.trans (jj some zk)
 t0:=Tryz.underlying0
 a0:=Tryz.isAgg0
 z0:=Tryz.sizeOf0
 v0:=Tryz.zeroValue0
 t3:=Tryz.underlying3
 a3:=Tryz.isAgg3
 z3:=Tryz.sizeOf3
 v3:=Tryz.zeroValue3
 t4:=Tryz.underlying4
 a4:=Tryz.isAgg4
 z4:=Tryz.sizeOf4
 v4:=Tryz.zeroValue4
 t5:=Tryz.underlying5
 a5:=Tryz.isAgg5
 z5:=Tryz.sizeOf5
 v5:=Tryz.zeroValue5
 t9:=Tryz.underlying9
 a9:=Tryz.isAgg9
 z9:=Tryz.sizeOf9
 v9:=Tryz.zeroValue9
 t31:=Tryz.underlying68
 a31:=Tryz.isAgg68
 z31:=Tryz.sizeOf68
 v31:=Tryz.zeroValue68
 t46:=Tryz.underlying88
 a46:=Tryz.isAgg88
 z46:=Tryz.sizeOf88
 v46:=Tryz.zeroValue88
 t51:=Tryz.underlying199
 a51:=Tryz.isAgg199
 z51:=Tryz.sizeOf199
 v51:=Tryz.zeroValue199
 t53:=Tryz.underlying31
 a53:=Tryz.isAgg31
 z53:=Tryz.sizeOf31
 v53:=Tryz.zeroValue31
 t131:=Tryz.underlying221
 a131:=Tryz.isAgg221
 z131:=Tryz.sizeOf221
 v131:=Tryz.zeroValue221
 t182:=Tryz.underlying300
 a182:=Tryz.isAgg300
 z182:=Tryz.sizeOf300
 v182:=Tryz.zeroValue300
 t183:=Tryz.underlying301
 a183:=Tryz.isAgg301
 z183:=Tryz.sizeOf301
 v183:=Tryz.zeroValue301
 t218:=Tryz.underlying333
 a218:=Tryz.isAgg333
 z218:=Tryz.sizeOf333
 v218:=Tryz.zeroValue333
 t222:=Tryz.underlying336
 a222:=Tryz.isAgg336
 z222:=Tryz.sizeOf336
 v222:=Tryz.zeroValue336
 t228:=Tryz.underlying361
 a228:=Tryz.isAgg361
 z228:=Tryz.sizeOf361
 v228:=Tryz.zeroValue361
 t229:=Tryz.underlying362
 a229:=Tryz.isAgg362
 z229:=Tryz.sizeOf362
 v229:=Tryz.zeroValue362}
open Go.Sort Go.RowKit in
theorem Tryz.slices_Sort_string (blk off cap:Nat)(ss:List (List UInt8))(w:World)(hH:Holds encStr w blk off ss.toArray)(hblk:blk<w.heap.size)(hsz:ss.length<4611686018427387904):
  Calls kY 125 #[.slice (some ⟨blk,off,none⟩) ss.length cap] w λe w'=>
   e=.returned (.tuple #[])∧∃n os,w'=grow (putRow encStr (Sort.ahead w n) blk off (ss.mergeSort λx y=>decide (x≤y)).toArray) os:=Any.slices_Sort_string Tryz.lays190 blk off cap ss w hH hblk hsz
open Go.RowKit Go.Sort in
theorem Tryz.slices_Sort_string_none (p:OA)(cap:Nat)(w:World):
  Calls kY 125 #[.slice p 0 cap] w λe w'=>e=.returned (.tuple #[])∧w'=w:=Any.slices_Sort_string_none Tryz.lays190 p cap w
end Go.Proofs
namespace Go.Proofs.YtlnfjhiphlfkjaaGreatDoor
open Go Go.SX
attribute [local irreducible] swp qq qM qL vX qh St qi qk vu qG
def Vm (M:OM):Prop:=∃te pe,qH M (some ⟨3,0,none⟩) 1 1 [.iface te pe]
def jFI (M:OM):Prop:=xg M∧Vm M
theorem Vm.mono {M M':OM}(h:Vm M)(hl:qU M M'):Vm M':=by
 obtain ⟨te,pe,h⟩:=h;exact ⟨te,pe,qH.mono h hl⟩
theorem jFI.mono {M M':OM}(h:jFI M)(hl:qU M M'):jFI M':=⟨h.1.mono hl,h.2.mono hl⟩
abbrev KZ (n:Nat):List UInt8:=Lib.decDigits n
theorem bf (n:Nat)(hn:n<100)(L:HL):qh kY 138 [.int .i64 n] L (λr L'=>r=str (KZ n)∧L'=L):=
 qh.lift λF w H=>(Tryz.strconv_Itoa_small n hn w).mono λe w' ⟨he,hw⟩=>⟨_,he,rfl,λk o h=>by rw[hw];exact h,by rw[hw]⟩
theorem Xx {n:Nat}(h:n<10):KZ n=[UInt8.ofNat (48+n)]:=by
 show Lib.decDigits n=_
 rw[Lib.decDigits,dif_pos h]
theorem cW {n:Nat}(h:10≤n)(h2:n<100):KZ n=[UInt8.ofNat (48+n / 10),UInt8.ofNat (48+n % 10)]:=by
 show Lib.decDigits n=_
 rw[Lib.decDigits,dif_neg zo];have:=Xx (n:=n / 10) zo;rw[show Lib.decDigits (n / 10)=_ from this];rfl
theorem JL {n:Nat}(h:n<100):1≤(KZ n).length∧(KZ n).length≤2:=by
 by_cases h1:n<10
 ·rw[Xx h1];simp
 ·rw[cW zo h];simp
theorem Yx {n:Nat}(h:n<100):Lib.atoi (KZ n)=some (n:Int):=by
 by_cases h1:n<10
 ·rw[Xx h1]
  revert n;decide
 ·have e:∀k,k<10→∀j,j<10→Lib.atoi [UInt8.ofNat (48+k),UInt8.ofNat (48+j)]=some ((k*10+j:Nat):Int):=by decide
  rw[cW zo h,e _ zo _ zo]
  congr 2;omega
theorem jDC {a b:Nat}(ha:a<100)(hb:b<100)(h:KZ a=KZ b):a=b:=by
 have h1:=Yx ha;rw[h,Yx hb] at h1;have:=Option.some.inj h1;omega
theorem jD2 (n:Nat)(hn:n<100)(L:HL):qh kY 189 [str (KZ n)] L (λr L'=>r=.tuple #[.int .i64 n,.nilIface]∧L'=L):=
 qh.lift λF w H=>(Tryz.strconv_Atoi ⟨(KZ n).toArray⟩ n (by have:=JL hn;simp[ByteArray.size];omega) (Yx hn) w).mono λe w' ⟨he,t,hw⟩=>⟨_,he,rfl,λk o h=>by
  subst hw;rw[Lib.bytesWorld_at_old _ _ _ _ (kj.1 h).1];exact h,by subst hw;rfl⟩
theorem jD3 (b:UInt8)(bs:List UInt8)(hb:97≤b.toNat)(hl:bs.length≤20)(M:OM)(L:HL)[hP:wY M L](hE:Vm M):qh kY 189 [str (b::bs)] L (λr L'=>(∃v,r=.tuple #[.int .i64 0,v])∧L'=L):=by
 obtain ⟨te,pe,hE⟩:=hE;refine qh.lift λF w H=> ?_
 have hr:qW L (some ⟨3,0,none⟩) 1 1 [.iface te pe]:=qH.rd hE;obtain ⟨b',o',e,hr⟩:=hr.2.resolve_left zd
 cases e
 have hv:=hr w F H 0 _ rfl;have hs:Lib.atoiAll (b::bs)=.syntax:=by
  have h1:¬b.toNat=43:=by omega
  have h2:¬b.toNat=45:=by omega
  unfold Lib.atoiAll;dsimp only;rw[ja zo];have:Lib.parseMag (b::bs)=.syntax:=by
   unfold Lib.parseMag;rw[ja (by simp)]
   show (if 48≤b.toNat∧b.toNat≤57 then _ else Lib.NumEnd.syntax)=_
   rw[ja zo]
  rw[this]
 refine (Tryz.strconv_Atoi_syntax ⟨(b::bs).toArray⟩ (by simp[ByteArray.size];omega) hs (.iface te pe) w hv (.inr ⟨te,pe,rfl⟩)).mono ?_;rintro e w' ⟨N,rfl,hN,hcell,hB⟩;refine ⟨_,rfl,⟨_,rfl⟩,λk o h=> ?_,?_⟩
 ·have hlt:k<w.heap.size:=(kj.1 h).1
  rw[hB.block k hlt];exact h
 ·show (w'.os,w'.output)=(w.os,w.output)
  rw[hB.os,hB.output]
def nm (x:UInt8)(n:Nat):List UInt8:=x::KZ n
theorem yz (x:UInt8)(n:Nat)(hn:n<100)(L:HL):qh kY 73 [str [x],.int .i64 n] L (λr L'=>r=str (nm x n)∧L'=L):=by
 have hl:=JL hn;refine qg Tryz.func73 rfl rfl rfl ?_;refine Q.r ?_;refine S.cr rfl (bf n hn L) ?_;rintro _ _ ⟨rfl,rfl⟩;refine Q.r ?_;refine S.y (Y.stA rfl rfl (by simp;omega)) ?_;refine Q.r ?_;exact N.t rfl (kZ _) ⟨rfl,rfl⟩
theorem YJ (bs:List UInt8)(x:UInt8)(L:HL)(hl:bs.length≤1000):qh kY 259 [str bs,str [x]] L (λr L'=>r=.bool (decide (bs.take 1=[x]))∧L'=L):=by
 refine qg Tryz.func259 rfl rfl rfl ?_;refine Q.r ?_;refine S.y (Y.stL rfl) ?_;refine Q.r ?_;refine S.y (Y.stL rfl) ?_
 cases bs with
 |nil=>
  refine Q.r ?_;exact N.t rfl (kZ _) ⟨rfl,rfl⟩
 |cons b bs=>
  have h1:([x].length:Int)≤((b::bs).length:Int):=by simp only[jC,j7];omega
  refine Q.r ?_;refine S.y (Y.stL rfl) ?_;refine Q.r ?_;refine S.y (Y.stT (h:=1) rfl rfl rfl (by simp)) ?_;refine Q.r ?_;exact N.t rfl (kZ _) ⟨rfl,rfl⟩
theorem YO (bs:List UInt8)(x:UInt8)(L:HL)(hl:bs.length≤1000):qh kY 230 [str bs,str [x]] L (λr L'=>r=.tuple #[str (if bs.take 1=[x] then bs.drop 1 else bs),.bool (decide (bs.take 1=[x]))]∧L'=L):=by
 refine qg Tryz.func230 rfl rfl rfl ?_;refine Q.r ?_;refine S.cr rfl (YJ bs x L hl) ?_;rintro _ _ ⟨rfl,rfl⟩
 by_cases h:bs.take 1=[x]
 ·have h1:1≤bs.length:=by
   cases bs with
   |nil=>cases h
   |cons b bs=>simp
  rw[jo h,jb h];refine Q.r ?_;refine S.y (Y.stL rfl) ?_;refine S.y (Y.stF (l:=1) rfl rfl rfl h1) ?_;refine Q.r ?_;exact N.u rfl rfl (kZ _) ⟨rfl,rfl⟩
 ·rw[jv h,ja h]
  refine Q.r ?_;exact N.u rfl rfl (kZ _) ⟨rfl,rfl⟩
theorem Ko (bs:List UInt8)(x:UInt8)(L:HL)(hl:bs.length≤1000):qh kY 188 [str bs,str [x]] L (λr L'=>r=.tuple #[str (if bs.take 1=[x] then bs.drop 1 else bs),.bool (decide (bs.take 1=[x]))]∧L'=L):=by
 refine qg Tryz.func188 rfl rfl rfl ?_;refine Q.r ?_;refine S.cr rfl (YO bs x L hl) ?_;rintro _ _ ⟨rfl,rfl⟩;refine Q.r ?_;exact N.u rfl rfl (kZ _) ⟨rfl,rfl⟩
theorem lZ (x:UInt8)(n:Nat)(hn:n<100)(L:HL):qh kY 137 [str [x],str (nm x n)] L (λr L'=>r=.tuple #[.int .i64 n,.bool true]∧L'=L):=by
 have hl:=JL hn;refine qg Tryz.func137 rfl rfl rfl ?_;refine Q.r ?_;refine S.cr rfl (Ko (nm x n) x L (by unfold nm;rw[jC];omega)) ?_;rintro _ _ ⟨rfl,rfl⟩;have e:(nm x n).take 1=[x]:=rfl;rw[jb e,jo e,show (nm x n).drop 1=KZ n from rfl];refine Q.r ?_;refine S.cr rfl (jD2 n hn _) ?_;rintro _ _ ⟨rfl,rfl⟩;have hdl:((KZ n).length:Int)≤7:=by omega
 refine Q.r ?_;refine S.y (Y.eqNN rfl Tryz.underlying276) ?_;refine Q.r ?_;refine S.y (Y.stL rfl) ?_;refine Q.r ?_;refine S.cr rfl (bf n hn _) ?_;rintro _ _ ⟨rfl,rfl⟩;refine Q.r ?_;refine N.u rfl rfl (kZ _) ⟨?_,rfl⟩;rw[jo rfl]
theorem fA (x b:UInt8)(bs:List UInt8)(hb:97≤b.toNat)(hx:b≠x)(hl:bs.length≤20)(M:OM)(L:HL)[hP:wY M L](hE:Vm M):qh kY 137 [str [x],str (b::bs)] L (λr L'=>r=.tuple #[.int .i64 0,.bool false]∧L'=L):=by
 refine qg Tryz.func137 rfl rfl rfl ?_;refine Q.r ?_;refine S.cr rfl (Ko (b::bs) x L (by rw[jC];omega)) ?_;rintro _ _ ⟨rfl,rfl⟩;have hne:¬((b::bs).take 1=[x]):=by intro h;cases h;exact hx rfl
 rw[ja hne,jv hne];refine Q.r ?_;refine S.cr rfl (jD3 b bs hb hl M _ hE) ?_;rintro _ _ ⟨⟨v,rfl⟩,rfl⟩;refine Q.r ?_;exact N.u rfl rfl (kZ _) ⟨rfl,rfl⟩
end Go.Proofs.YtlnfjhiphlfkjaaGreatDoor
namespace Go.Proofs.YtlnfjhiphlfkjaaGreatDoor
open Go Go.SX Go.ChangeShapes Go.WideShapes Go.ChangeAt Go.RowKit
abbrev zD :List (String×DataW Unit):=[("math/bits.deBruijn32tab",Rows.laid_math_bits_deBruijn32tab),("math/bits.deBruijn64tab",Rows.laid_math_bits_deBruijn64tab),("internal/strconv.uint64pow10",Rows.laid_internal_strconv_uint64pow10),("strconv.ErrRange",Rows.laid_strconv_ErrRange),("strconv.ErrSyntax",Rows.laid_strconv_ErrSyntax),("armillary/seal.nibble",Rows.laid_armillary_seal_nibble),("armillary/note.sorts",Rows.laid_armillary_note_sorts)]
theorem jEn :Tryz.prog.globalNamed "armillary/seal.nibble" =some 2:=by kernel_rfl
theorem jE9 :(Tryz.prog.globals[2]?).map (·.type)=some 317:=by kernel_rfl
theorem jEo :Tryz.prog.globalNamed "strconv.ErrSyntax" =some 3:=by kernel_rfl
theorem jFa :(Tryz.prog.globals[3]?).map (·.type)=some 276:=by kernel_rfl
theorem jAJ : "*" ++ "errors.errorString" = "*errors.errorString" :=by decide
theorem jGb (u:TypeId)(h:Tryz.prog.typeName? 3 u=some "*errors.errorString"):u=379:=
 typeName_ptr_named (nm:= "errors.errorString") (by rw[jAJ];kernel_rfl) zk zd u (by rw[jAJ];exact h)
theorem jDa :(Rows.laid_armillary_seal_nibble:DataW Unit)=Lib.tabData .u32 (jE0.map λz:Nat=>(z:Int)):=by kernel_rfl
theorem ZR {W:World}{n:String}{g:Nat}{cs:Array Value}(hg:Tryz.prog.globalNamed n=some g)(h:W.var? kY n=some cs):∃t fz,W.heap[g]? =some (.cells cs t fz):=by
 unfold World.var? at h;rw[hg] at h;simp only[Option.bind_some] at h
 cases hb:W.heap[g]? with
 |none=>rw[hb] at h;cases h
 |some o=>
  rw[hb] at h
  cases o with
  |cells l t fz=>dsimp only at h;cases h;exact ⟨t,fz,rfl⟩
  |_=>cases h
theorem cA {W:World}(h:laidMet kY zD W):xg (yS W):=by
 have h1:=h.tail.tail.tail.tail.tail;rw[jDa] at h1;have h2:=Lib.tabIs_of_head jEn jE9 Tryz.underlying317 Tryz.underlying199 zk zk h1;obtain ⟨t,fz,h3⟩:=ZR jEn h2;refine ⟨by decide,.inr ⟨2,0,_,t,fz,rfl,h3,λj v hv=> ?_⟩⟩;rw[kR]
 simpa[nibC,kE] using hv
theorem cR {W:World}(h:laidMet kY zD W):Vm (yS W):=by
 have h1:=h.tail.tail.tail.tail;obtain ⟨a,s,h2,_⟩:=laid_sentinel h1 jEo jFa Tryz.underlying276 jGb Tryz.underlying379 Tryz.underlying381 rfl rfl Tryz.underlying9 zk zk;obtain ⟨t,fz,h3⟩:=ZR jEo h2;refine ⟨379,.pointer (some a),rfl,.inr ⟨3,0,_,t,fz,rfl,h3,λj v hv=> ?_⟩⟩;rw[kR]
 simpa using hv
theorem bL {W:World}(h:laidMet kY zD W):yE (yS W):=dY h.tail.tail.tail.tail.tail.tail
theorem mj (os:Os):(World.holding kY os ⟨#[],#[],[]⟩).layFits kY zD []=true:=by kernel_rfl
theorem cK (os:Os):(World.holding kY os ⟨#[],#[],[]⟩).layIfaces kY zD (World.laidAll kY os zD)=true:=by kernel_rfl
theorem sj (os:Os)(args:Array Value):laidMet kY zD ((World.laidAll kY os zD).forCall (λ_ _=>0) ⟨#[],args,[]⟩).memory:=laidMet_laidAll args (mj os) (cK os)
theorem mI :(Rows.courtNilRow.inPlace==Tryz.pinned.checked.prog.inPlace 4)=true:=by kernel_rfl
theorem mH :(Rows.courtNilRow.unfollowed==Tryz.pinned.checked.prog.unfollowed 4)=true:=by kernel_rfl
theorem mG :(Rows.courtNilRow.recurses==Tryz.pinned.checked.prog.recurses 4)=true:=by kernel_rfl
theorem mF :(Rows.courtNilRow.named==Tryz.pinned.checked.prog.varsNamed 4)=true:=by kernel_rfl
theorem mE :laidOutB Tryz.pinned.checked.prog=true:=by kernel_rfl
theorem mD :mapsRowed Tryz.pinned.checked.prog=true:=by kernel_rfl
theorem Y9 :joinedFacts Tryz.pinned.checked.prog 4 Tryz.f4 (OpenSpec.ofChange Rows.courtNilSpec).bare Rows.courtNilRow=true:=by
 unfold joinedFacts;rw[mI,mH,mG,mF,mE,mD]
 kernel_rfl
attribute [local irreducible] swp qq qM qL vX qh St qi qk vu qG
set_option maxRecDepth 100000 in
theorem f6 (a a2:OA)(c c2:Nat)(xs ys:List UInt8)(M:OM)(L:HL)(h1:qH M a xs.length 1 (xs.map B))(h2:qH M a2 ys.length 1 (ys.map B))(hb0:ys.length≤1000000000000):
  qh kY 148 [.slice a xs.length c,.slice a2 ys.length c2] (qo M::L) (λv L'=>v=.bool (decide (xs=ys))∧L'=qo M::L):=by
 refine qg Tryz.func148 rfl rfl rfl ?_
 by_cases hl:xs.length=ys.length
 ·have hb:xs.length≤1000000000000:=by omega
  refine Q.r ?_;refine qx (σ:=Unit) (λ_=> []) (λ_=>qo M::L) (λ_=>xs=ys) ?_ ?_
  ·refine ql (σ:=Nat) (λk=> [(0,.slice a xs.length c),(1,.slice a2 ys.length c2),(12,.int .i64 xs.length),(13,.int .i64 k)]) (λ_=>qo M::L)
    (λk=>k≤xs.length∧xs.take k=ys.take k) (λk=>xs.length - k) 0 zt (kZ _) ⟨by omega,rfl⟩ ?_
   rintro k ⟨hk,ht⟩
   by_cases hlt:k<xs.length
   ·obtain ⟨x,hx⟩:=qw hlt
    obtain ⟨y,hy⟩:=qw (l:=ys) (k:=k) zo;obtain ⟨b,o,hia,cr1⟩:=qH.cm1 (g:=B) h1 hx rfl;obtain ⟨b',o',hia2,cr2⟩:=qH.cm1 (g:=B) h2 hy rfl;have hr:=cr1.rd (L:=qo M::L);have hr':=cr2.rd (L:=qo M::L);have hrA:=cr1.rd (L:=[qo M]);have hrA':=cr2.rd (L:=[qo M]);rw[hia,hia2]
    by_cases he:x=y
    ·subst he
     refine Q.r ?_;refine Q.dgo [true] [] [] [0,1,2,3,4,5,6,7,8] ?_;refine Q.rd ?_;refine Q.r ?_;exact ⟨k+1,zt,kZ _,⟨by omega,by rw[qz hx,qz hy,ht]⟩,by omega⟩
    ·have hne:¬x.toNat=y.toNat:=λe=>he (UInt8.toNat_inj.1 e)
     refine Q.r ?_;refine Q.dgo [true] [] [] [0,1,2,3,4,5,6,7,8] ?_;refine Q.rd ?_;refine Q.r ?_;refine N.t rfl (kZ _) ⟨?_,rfl⟩;rw[jv];intro e;subst e;rw[hx] at hy;exact he (Option.some.inj hy)
   ·have hke:k=xs.length:=by omega
    subst hke;rw[jI,hl,jI] at ht;refine Q.r ?_;exact ⟨(),trivial,kZ _,ht⟩
  ·rintro _ he
   refine Q.r ?_;exact N.t rfl (kZ _) ⟨by rw[jo he],rfl⟩
 ·refine Q.r ?_
  exact N.t rfl (kZ _) ⟨by rw[jv (λe=>hl (by rw[e]))],rfl⟩
theorem lV :∀(m:Nat) (i n:Nat) (rest:List UInt8),i≤9→m*2^(7*i)<18446744073709551616→(0<i→0<m)→vN (JC m++rest) i n=(n+m*2^(7*i),i+(JC m).length,0):=by
 intro m
 induction m using Nat.strongRecOn with
 |ind m ih=>
  intro i n rest hi hm hp
  by_cases hl:m<128
  ·rw[Ql hl]
   show vN (UInt8.ofNat m::rest) i n=_
   have e:(UInt8.ofNat m).toNat=m:=by rw[UInt8.toNat_ofNat'];omega
   have h9:¬(i=9∧1<m):=by
    rintro ⟨rfl,h1⟩;have e2:(2:Nat)^(7*9)=9223372036854775808:=by decide
    rw[e2] at hm;omega
   rw[xL,e,ja h9,jb hl,ja zo,Nat.mod_eq_of_lt hl];rfl
  ·rw[Xm hl]
   show vN (UInt8.ofNat (m % 128+128)::(JC (m / 128)++rest)) i n=_
   have e:(UInt8.ofNat (m % 128+128)).toNat=m % 128+128:=by rw[UInt8.toNat_ofNat'];omega
   have hp2:2^(7*(i+1))=128*2^(7*i):=by rw[Nat.mul_add,Nat.pow_add,Nat.mul_comm]
   have hi9:i<9:=by
    by_cases h:i=9
    ·subst h
     have e2:(2:Nat)^(7*9)=9223372036854775808:=by decide
     rw[e2] at hm;omega
    ·omega
   have hdm:m=128*(m / 128)+m % 128:=(Nat.div_add_mod m 128).symm;have hmul:m / 128*2^(7*(i+1))+m % 128*2^(7*i)=m*2^(7*i):=by
    rw[hp2]
    conv=>rhs;rw[hdm,Nat.add_mul]
    rw[Nat.mul_left_comm,Nat.mul_assoc]
   rw[xL,e,ja zo,ja zo,ih (m / 128) zo (i+1) _ rest zo zo zo,jC];have e4:(m % 128+128) % 128=m % 128:=by omega
   rw[e4,Nat.add_assoc,Nat.add_comm (m % 128*2^(7*i)),hmul]
   congr 2
   omega
theorem Zs {m most:Nat}(rest:List UInt8)(hm:m<18446744073709551616)(h:m≤most):qA (JC m++rest) most=(m,(JC m).length,0):=by
 unfold qA;rw[lV m 0 0 rest zo (by simpa using hm) zo,ja (by simp),ja (by simpa using h)]
 simp
theorem jBg {m most:Nat}(rest:List UInt8)(hm:m<18446744073709551616)(h:m≤most):JA most (JC m++rest) 0=(m,rest,0):=by
 unfold JA;rw[Zs rest hm h,ja (by simp),ja (by simp),kF]
theorem rZ {z:Int}{most:Nat}(rest:List UInt8)(h0:0≤z)(hm:z≤18446744073709551615)(h:z≤most):JA most (numI z++rest) 0=(z.toNat,rest,0):=by
 unfold numI;rw[ja zo];exact jBg rest zo zo
theorem jD0 (bs:List UInt8)(k:Nat):(bs.map B).take (k*1)=(bs.take k).map B:=by rw[jX,List.map_take]
theorem tk (a:OA)(c:Nat)(bs:List UInt8)(n:Nat)(L:HL)(h:qW L a bs.length 1 (bs.map B))(hc:bs.length≤c)(hn:n≤1000000):
  qh kY 13 [.slice a bs.length c,.int .i64 n] L (λv L'=>∃a' c',v=.slice a' (bs.take n).length c'∧L'=slO 5 1 a' (bs.take n).length c' ((bs.take n).map B)::L):=by
 refine qg Tryz.func13 rfl rfl rfl ?_
 repeat (first|(refine GQ.y ?_;refine Q.y ?_)|refine Q.go ?_|(refine GQ.g ?_;refine Q.gq ?_)|(refine GQ.s ?_;refine Q.st ?_))
 refine S.bs rfl rfl rfl rfl rfl (λb=> ?_);refine qm (ve (sz:=1) (m:=0) rfl) ?_
 repeat (first|(refine GQ.y ?_;refine Q.y ?_)|refine Q.go ?_|(refine GQ.g ?_;refine Q.gq ?_)|(refine GQ.s ?_;refine Q.st ?_))
 have hl:(bs.take n).length=min bs.length n:=by rw[jP,Nat.min_comm]
 refine S.y (Y.slT (h:=(bs.take n).length) rfl rfl (by rw[hl];omega) zo) ?_
 repeat (first|(refine GQ.y ?_;refine Q.y ?_)|refine Q.go ?_|(refine GQ.g ?_;refine Q.gq ?_)|(refine GQ.s ?_;refine Q.st ?_))
 have ht:=h.take (k:=(bs.take n).length) zo;rw[jD0,show bs.take (bs.take n).length=bs.take n by rw[jP];simp] at ht;refine S.app0 rfl rfl rfl (vA.rd ht.sub (zM _)) zr zo zo (λa' c'=> ?_)
 repeat (first|(refine GQ.y ?_;refine Q.y ?_)|refine Q.go ?_|(refine GQ.g ?_;refine Q.gq ?_)|(refine GQ.s ?_;refine Q.st ?_))
 refine N.t rfl ?_ ⟨a',c',rfl,rfl⟩;exact eG
end Go.Proofs.YtlnfjhiphlfkjaaGreatDoor
namespace Go.SX
open Go
def sG (ds:List Deferred)(a:Act):Act:={a with defers:=a.defers++ds}
theorem cT (ds:List Deferred)(a:Act)(d:Option Tmp)(v:Value):sG ds (a.put d v)=(sG ds a).put d v:=by cases d<;>rfl
theorem Yl (ds:List Deferred)(a:Act):(sG ds a).eval=a.eval:=by funext x;cases x<;>rfl
theorem Wt {F:Fence}{n:Nat}{P:Program}{ops:Array Oper}{Q Q':Exit→Act→World→Prop}(ds:List Deferred)(hq:∀a w,Q' .normal a w→Q .normal (sG ds a) w)(hn:∀e a w,Q' e a w→e=.normal):
  ∀(rest:List Oper) (a:Act) (w:World),wpListIn F n P ops Q' rest a w→wpListIn F n P ops Q rest (sG ds a) w
 | [],a,w,h=>hq a w h
 |o::rest,a,w,h=>by
  have ih:∀a w,wpListIn F n P ops Q' rest a w→wpListIn F n P ops Q rest (sG ds a) w:=Wt ds hq hn rest;simp only[wpListIn] at h ⊢;have e1:(sG ds a).tmps=a.tmps:=rfl;rw[e1,Yl]
  split
  ·next hw=>
   rw[jb hw] at h;refine ⟨by rw[Yl];exact h.1,?_⟩;have h2:=h.2;rw[Yl];have put:∀d v w',wpListIn F n P ops Q' rest (a.put d v) w'→wpListIn F n P ops Q rest ((sG ds a).put d v) w':=λd v w' q=>by rw[←cT];exact ih _ _ q
   generalize (o.semAt F.round a.eval).run P w=res at*
   cases res with
   |ok m w'=>
    cases m with
    |value v=>exact put _ _ _ h2
    |skip=>exact put _ _ _ h2
    |defer d=>
     have:=ih _ _ h2;rw[cT] at this;exact this
    |enter f args=>
     refine ⟨h2.1,CallsIn.mono h2.2 λe w'' q=> ?_⟩
     cases e with
     |returned v=>exact put _ _ _ q
     |panicked c=>exact absurd (hn _ _ _ q) (by simp)
     |outgrown=>obtain ⟨_,_,q⟩:=q;exact absurd (hn _ _ _ q) (by simp)
    |row row args=>exact ⟨h2.1,RowsIn.mono h2.2 λv w'' q=>put _ _ _ q⟩
    |round l f tmps assign body=>
     refine ⟨h2.1,RoundIn.mono h2.2 λe w'' q=> ?_⟩
     cases e with
     |returned v=>exact put _ _ _ q
     |panicked c=>exact absurd (hn _ _ _ q) (by simp)
     |outgrown=>obtain ⟨_,_,q⟩:=q;exact absurd (hn _ _ _ q) (by simp)
    |_=>exact h2
   |halt x w'=>
    cases x with
    |panic v=>exact absurd (hn _ _ _ h2) (by simp)
    |_=>exact h2
  ·next hw=>
   rw[ja hw] at h;exact ⟨h.1,by rw[←cT];exact ih _ _ h.2⟩
theorem Zl {P:Program}{n m:Nat}{f:vF}{L F:HL}{id:Nat}{l:List Oper}{y:Code}{K:vF→HL→Prop}{Q:Exit→Act→World→Prop}{a:Act}{w:World}(ds:List Deferred)(h:zc P n none l l (qM K (λ_ _ _=>False)) f L)(ok:wj n l=true)(s:Ki n a f)(t:St w (L++F))
  (hk:∀f L a w,K f L→Ki n a f→St w (L++F)→y.wpIn Fence.wide m P Q {a with defers:=ds} w):(Code.seq (.region id l.toArray false) y).wpIn Fence.wide m P Q {a with defers:=ds} w:=by
 have h1:=h ok F a w s t;have hd:({a with defers:=ds}:Act)=sG ds a:=by unfold sG;rw[s.defers];rfl
 refine wpIn_seq ?_;rw[hd];have h2:(Code.region id l.toArray false).wpIn (WF none) 0 P (λe a w=>e.then (λa w=>y.wpIn Fence.wide m P Q a w) Q a w) (sG ds a) w:=by
  refine wpIn_region_lit (Wt ds (λa w q=> ?_) (λe a w q=> ?_) l a w h1)
  ·obtain ⟨f,L,s,t,q⟩:=q
   have:({a with defers:=ds}:Act)=sG ds a:=by unfold sG;rw[s.defers];rfl
   simp only[Exit.then];rw[←this];exact hk f L a w q s t
  ·obtain ⟨f,L,s,t,q⟩:=q
   cases e<;>first|rfl|exact q.elim
 exact wpIn_wide.2 (wpIn_wide.1 h2)
end Go.SX
