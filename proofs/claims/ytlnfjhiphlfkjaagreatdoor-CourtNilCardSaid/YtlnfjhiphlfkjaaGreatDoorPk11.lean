/- Walks of functions, and plain laws, that the last text rests on. No condition. -/
import Derived.Test.YtlnfjhiphlfkjaaGreatDoorPk10
set_option linter.unusedVariables false
set_option linter.unusedSimpArgs false
set_option linter.unusedSectionVars false
set_option maxHeartbeats 16000000
namespace Go.Proofs.YtlnfjhiphlfkjaaGreatDoor
open Go Go.SX
attribute [local irreducible] swp qq qM qL vX qh St qi qk vu qG
theorem Y.fldN {P:Program}{n:Nat}{ops:List Oper}{f:vF}{A:HL}{d:Tmp}{ty:TypeId}{pos:String}{af:Array Edge}{x:Operand}{t:TypeId}{k off sz:Nat}{fs:List (Nat×Nat×Bool)}{vs:Array Value}{v:Value}[h:zf P t fs](hx:ev f x=some (.agg vs))(hf:fs[k]? =some (off,sz,false))(hk:vs.toList[off]? =some v):qk P n ops ⟨some d,.field t x k,ty,pos,af,none⟩ f A v:=by
 obtain ⟨fields,hu,_,hfs⟩:=h.und;obtain ⟨fld,h1,h2,h3,h4⟩:=hfs k off sz false hf;refine Y.of (λa w s=> ?_);have hv':vs[off]? =some v:=by simpa using hk
 simp[execOp,s.eval hx,Instr.field,asAgg,part,hv',hu,h1,h2,h4]
section
variable {P : Program} {n : Nat} {ops rest : List Oper} {Q : vk} {f : vF} {L L0 L1 L2 : HL} {d : Tmp} {ty : TypeId} {pos : String} {af : Array Edge} {A B C : HP}
theorem S.c3F {x:Operand}{g:FuncId}{xs:Array Operand}{ats:Array TypeId}{fs args cs:List Value}{R:Value→HL→Prop}[he:qj P g](hv:ev f x=some (.func (.func g) fs.toArray cs.toArray))
  (hx:xv f xs.toList=some args) (hc:qh P g (fs++args++cs) (A::B::C::L2) R) [h1:xe A L L0] [h2:xe B L0 L1] [h3:xe C L1 L2] (hk:∀v L',R v L'→qq P n ops rest Q (upd f d v) L'):
  qq P n ops (⟨some d,.call ⟨.value x,xs,ats⟩,ty,pos,af,none⟩::rest) Q f L:=
 qm (h1.ent.trans (h2.ent.trans h3.ent.cons).cons) (S.crF hv hx hc hk)
end
theorem wZ (b:Bool)(m:Nat)(s:RS):0≤(xo b 0 (xd m) s).1∧(xo b 0 (xd m) s).1≤m:=by
 cases b with
 |false=>exact ⟨ki _,by show (0:Int)≤m;omega⟩
 |true=>
  have:=(vT m s).1
  show 0≤((vt m s).1:Int)∧((vt m s).1:Int)≤m
  omega
theorem cb {α:Type}(b:Bool)(m:Nat)(d:RS→α×RS)(s s':RS)(x:Int)(e:xo b 0 (xd m) s=(x,s')):xo b [] (cV m d) s=((wU d x.toNat (s',[])).2,(wU d x.toNat (s',[])).1):=by
 cases b with
 |false=>
  have h:=Prod.mk.inj e;rw[←h.1,←h.2];rfl
 |true=>
  have h:=Prod.mk.inj e;rw[←h.1,←h.2];rfl
def jHm (r:Nat)(M:OM)(L0:HL)(s:RS)(v:Value)(L':HL):Prop:=∃n:NV,∃a' c' M',v=n.val∧n.abs=(Xa s).1∧xt M' n∧RK M' a' c' (Xa s).2∧qU M M'∧L'=rdS r a' c' (Xa s).2::qo M'::L0
set_option maxRecDepth 100000 in
theorem mW (r:Nat)(a:OA)(c:Nat)(s:RS)(M:OM)(L0:HL)(h:RK M a c s)(hT:yE M):
  qh kY 85 [.pointer (some ⟨r,0,none⟩)] (rdS r a c s::qo M::L0) (jHm r M L0 s):=by
 refine qg Tryz.func85 rfl rfl rfl ?_;refine Q.r ?_;(repeat (intro b1;refine Q.r ?_));rename_i b2;refine S.c1 (A:=rdS r a c s) rfl (wg r a c s 255 M _ h) ?_;rintro _ _ ⟨rfl,a1,c1,hk1,rfl⟩;have hdc:Xa s=(mkN (vt 255 s).1 (WK (vt 255 s).1 (vt 255 s).2).1,(WK (vt 255 s).1 (vt 255 s).2).2):=rfl;have hkb:=(vT 255 s).1;generalize vt 255 s=x at*;obtain ⟨k,s1⟩:=x;dsimp only at*;revert b1;intro b0;refine Q.r ?_;refine S.y (Y.cvi rfl) ?_;have hw8:IntKind.u8.wrap (k:Int)=k:=by rw[IntKind.wrap_u8];omega
 rw[hw8];refine Q.r ?_;(repeat (intro b1;refine Q.r ?_));revert b1;intro b3;refine S.cr rfl (Wx k _ hT.rd zo) ?_;rintro _ _ ⟨rfl,rfl⟩;refine S.y (Y.fldN rfl rfl rfl) ?_;rw[XM];refine Q.r ?_;(repeat (intro b1;refine Q.r ?_));revert b1;intro b4;refine S.y (Y.mf rfl rfl) ?_;refine Q.r ?_;obtain ⟨x1,s2,e1⟩:∃x s',xo (qB k 0) 0 (xd 18446744073709551615) s1=(x,s'):=⟨_,_,rfl⟩;have hx1:=wZ (qB k 0) 18446744073709551615 s1;rw[e1] at hx1;refine S.c3F (A:=rdS r a1 c1 s1) (B:=zF b4 k) (C:=JV b2 r) rfl rfl (vY b2 b4 r k 0 18446744073709551615 1 a1 c1 s1 M _ hk1 zd rfl) ?_;rintro _ _ ⟨rfl,a2,c2,hk2,rfl⟩;rw[e1] at hk2 ⊢;dsimp only at hk2 hx1 ⊢;refine Q.r ?_;obtain ⟨x2,s3,e2⟩:∃x s',xo (qB k 1) 0 (xd 18446744073709551615) s2=(x,s'):=⟨_,_,rfl⟩;have hx2:=wZ (qB k 1) 18446744073709551615 s2;rw[e2] at hx2;refine S.c3F (A:=rdS r a2 c2 s2) (B:=zF b4 k) (C:=JV b2 r) rfl rfl (vY b2 b4 r k 1 18446744073709551615 2 a2 c2 s2 M _ hk2 zd rfl) ?_;rintro _ _ ⟨rfl,a3,c3,hk3,rfl⟩;rw[e2] at hk3 ⊢;dsimp only at hk3 hx2 ⊢;refine Q.r ?_;obtain ⟨x3,s4,e3⟩:∃x s',xo (qB k 2) 0 (xd 1099511627776) s3=(x,s'):=⟨_,_,rfl⟩;have hx3:=wZ (qB k 2) 1099511627776 s3;rw[e3] at hx3;refine S.c3F (A:=rdS r a3 c3 s3) (B:=zF b4 k) (C:=JV b2 r) rfl rfl (vY b2 b4 r k 2 1099511627776 4 a3 c3 s3 M _ hk3 zd rfl) ?_;rintro _ _ ⟨rfl,a4,c4,hk4,rfl⟩;rw[e3] at hk4 ⊢;dsimp only at hk4 hx3 ⊢;refine Q.r ?_;obtain ⟨x4,s5,e4⟩:∃x s',xo (qB k 3) 0 (xd 1099511627776) s4=(x,s'):=⟨_,_,rfl⟩;have hx4:=wZ (qB k 3) 1099511627776 s4;rw[e4] at hx4;refine S.c3F (A:=rdS r a4 c4 s4) (B:=zF b4 k) (C:=JV b2 r) rfl rfl (vY b2 b4 r k 3 1099511627776 8 a4 c4 s4 M _ hk4 zd rfl) ?_;rintro _ _ ⟨rfl,a5,c5,hk5,rfl⟩;rw[e4] at hk5 ⊢;dsimp only at hk5 hx4 ⊢;refine Q.r ?_;obtain ⟨x5,s6,e5⟩:∃x s',xo (qB k 4) 0 (xd 1099511627776) s5=(x,s'):=⟨_,_,rfl⟩;have hx5:=wZ (qB k 4) 1099511627776 s5
 rw[e5] at hx5;refine S.c3F (A:=rdS r a5 c5 s5) (B:=zF b4 k) (C:=JV b2 r) rfl rfl (vY b2 b4 r k 4 1099511627776 16 a5 c5 s5 M _ hk5 zd rfl) ?_;rintro _ _ ⟨rfl,a6,c6,hk6,rfl⟩;rw[e5] at hk6 ⊢;dsimp only at hk6 hx5 ⊢;refine Q.r ?_;obtain ⟨x6,s7,e6⟩:∃x s',xo (qB k 5) 0 (xd 18446744073709551615) s6=(x,s'):=⟨_,_,rfl⟩;have hx6:=wZ (qB k 5) 18446744073709551615 s6;rw[e6] at hx6;refine S.c3F (A:=rdS r a6 c6 s6) (B:=zF b4 k) (C:=JV b2 r) rfl rfl (vY b2 b4 r k 5 18446744073709551615 32 a6 c6 s6 M _ hk6 zd rfl) ?_;rintro _ _ ⟨rfl,a7,c7,hk7,rfl⟩;rw[e6] at hk7 ⊢;dsimp only at hk7 hx6 ⊢;refine Q.r ?_;obtain ⟨x7,s8,e7⟩:∃x s',xo (qB k 6) 0 (xd 1099511627776) s7=(x,s'):=⟨_,_,rfl⟩;have hx7:=wZ (qB k 6) 1099511627776 s7;rw[e7] at hx7;refine S.c3F (A:=rdS r a7 c7 s7) (B:=zF b4 k) (C:=JV b2 r) rfl rfl (vY b2 b4 r k 6 1099511627776 64 a7 c7 s7 M _ hk7 zd rfl) ?_;rintro _ _ ⟨rfl,a8,c8,hk8,rfl⟩;rw[e7] at hk8 ⊢;dsimp only at hk8 hx7 ⊢;refine Q.r ?_;obtain ⟨x8,s9,e8⟩:∃x s',xo (qB k 7) 0 (xd 16) s8=(x,s'):=⟨_,_,rfl⟩;have hx8:=wZ (qB k 7) 16 s8;rw[e8] at hx8;refine S.c3F (A:=rdS r a8 c8 s8) (B:=zF b4 k) (C:=JV b2 r) rfl rfl (vY b2 b4 r k 7 16 128 a8 c8 s8 M _ hk8 zd rfl) ?_;rintro _ _ ⟨rfl,a9,c9,hk9,rfl⟩;rw[e8] at hk9 ⊢;dsimp only at hk9 hx8 ⊢;refine Q.r ?_;refine S.y (Y.cvi rfl) ?_;rw[vl (a:=x8) zo zo];refine Q.r ?_;obtain ⟨x9,s10,e9⟩:∃x s',xo (qB k 8) 0 (xd 256) s9=(x,s'):=⟨_,_,rfl⟩;have hx9:=wZ (qB k 8) 256 s9;rw[e9] at hx9;refine S.c3F (A:=rdS r a9 c9 s9) (B:=zF b4 k) (C:=JV b2 r) rfl rfl (vY b2 b4 r k 8 256 256 a9 c9 s9 M _ hk9 zd rfl) ?_;rintro _ _ ⟨rfl,a10,c10,hk10,rfl⟩;rw[e9] at hk10 ⊢;dsimp only at hk10 hx9 ⊢;refine Q.r ?_;refine S.y (Y.cvi rfl) ?_;rw[vl (a:=x9) zo zo];refine Q.r ?_;obtain ⟨x10,s11,e10⟩:∃x s',xo (qB k 9) 0 (xd 13) s10=(x,s'):=⟨_,_,rfl⟩;have hx10:=wZ (qB k 9) 13 s10
 rw[e10] at hx10;refine S.c3F (A:=rdS r a10 c10 s10) (B:=zF b4 k) (C:=JV b2 r) rfl rfl (vY b2 b4 r k 9 13 512 a10 c10 s10 M _ hk10 zd rfl) ?_;rintro _ _ ⟨rfl,a11,c11,hk11,rfl⟩;rw[e10] at hk11 ⊢;dsimp only at hk11 hx10 ⊢;refine Q.r ?_;refine S.y (Y.cvi rfl) ?_;rw[vl (a:=x10) zo zo];refine Q.r ?_;obtain ⟨x11,s12,e11⟩:∃x s',xo (qB k 10) 0 (xd 16) s11=(x,s'):=⟨_,_,rfl⟩;have hx11:=wZ (qB k 10) 16 s11;rw[e11] at hx11;refine S.c3F (A:=rdS r a11 c11 s11) (B:=zF b4 k) (C:=JV b2 r) rfl rfl (vY b2 b4 r k 10 16 1024 a11 c11 s11 M _ hk11 zd rfl) ?_;rintro _ _ ⟨rfl,a12,c12,hk12,rfl⟩;rw[e11] at hk12 ⊢;dsimp only at hk12 hx11 ⊢;refine Q.r ?_;refine S.y (Y.cvi rfl) ?_;rw[vl (a:=x11) zo zo];refine Q.r ?_;obtain ⟨x12,s13,e12⟩:∃x s',xo (qB k 11) 0 (xd 4) s12=(x,s'):=⟨_,_,rfl⟩;have hx12:=wZ (qB k 11) 4 s12;rw[e12] at hx12;refine S.c3F (A:=rdS r a12 c12 s12) (B:=zF b4 k) (C:=JV b2 r) rfl rfl (vY b2 b4 r k 11 4 2048 a12 c12 s12 M _ hk12 zd rfl) ?_;rintro _ _ ⟨rfl,a13,c13,hk13,rfl⟩;rw[e12] at hk13 ⊢;dsimp only at hk13 hx12 ⊢;obtain ⟨np,hnp⟩:∃np:Nat,x12=(np:Int):=⟨x12.toNat,by omega⟩;subst hnp;have hP:=cb (qB k 11) 4 (xd 16) s12 s13 _ e12;rw[kz] at hP;refine Q.r ?_;generalize hF:wU (xd 16) np (s13,[])=F at hP;refine qx (σ:=OA×Nat×OA×Nat×Unit) (λ_=> [(1,.pointer (some ⟨b2,0,none⟩)),(2,.pointer (some ⟨b0,0,none⟩)),(3,.pointer (some ⟨b3,0,none⟩)),(4,.pointer (some ⟨b4,0,none⟩)),(5,.func (.func 160) #[] #[.pointer (some ⟨b4,0,none⟩),.pointer (some ⟨b2,0,none⟩)])]) (λs=>pt b3 (cl [.int .u8 (k:Int),.int .u64 x1,.int .u64 x2,.int .u64 x3,.int .u64 x4,.int .u64 x5,.int .u64 x6,.int .u64 x7,.int .i64 x8,.int .i64 x9,.int .i64 x10,.int .i64 x11,.slice s.1 F.2.length s.2.1,.slice none 0 0,.slice none 0 0,.slice none 0 0] 82)::slO 3 1 s.1 F.2.length s.2.1 (F.2.map I64)::rdS r s.2.2.1 s.2.2.2.1 F.1::zF b4 k::JV b2 r::pt b0 (cl [.int .u8 0,.int .u64 0,.int .u64 0,.int .u64 0,.int .u64 0,.int .u64 0,.int .u64 0,.int .u64 0,.int .i64 0,.int .i64 0,.int .i64 0,.int .i64 0,.slice none 0 0,.slice none 0 0,.slice none 0 0,.slice none 0 0] 82)::qo M::L0) (λs=>RK M s.2.2.1 s.2.2.2.1 F.1) ?_ ?_
 ·refine ql (σ:=OA×Nat×OA×Nat×Nat×(RS×List Int)) (λs=> [(1,.pointer (some ⟨b2,0,none⟩)),(2,.pointer (some ⟨b0,0,none⟩)),(3,.pointer (some ⟨b3,0,none⟩)),(4,.pointer (some ⟨b4,0,none⟩)),(5,.func (.func 160) #[] #[.pointer (some ⟨b4,0,none⟩),.pointer (some ⟨b2,0,none⟩)]),(53,.int .u64 np),(54,.int .u64 s.2.2.2.2.1)])
   (λs=>pt b3 (cl [.int .u8 (k:Int),.int .u64 x1,.int .u64 x2,.int .u64 x3,.int .u64 x4,.int .u64 x5,.int .u64 x6,.int .u64 x7,.int .i64 x8,.int .i64 x9,.int .i64 x10,.int .i64 x11,.slice s.1 s.2.2.2.2.2.2.length s.2.1,.slice none 0 0,.slice none 0 0,.slice none 0 0] 82)::slO 3 1 s.1 s.2.2.2.2.2.2.length s.2.1 (s.2.2.2.2.2.2.map I64)::rdS r s.2.2.1 s.2.2.2.1 s.2.2.2.2.2.1::zF b4 k::JV b2 r::pt b0 (cl [.int .u8 0,.int .u64 0,.int .u64 0,.int .u64 0,.int .u64 0,.int .u64 0,.int .u64 0,.int .u64 0,.int .i64 0,.int .i64 0,.int .i64 0,.int .i64 0,.slice none 0 0,.slice none 0 0,.slice none 0 0,.slice none 0 0] 82)::qo M::L0)
   (λs=>s.2.2.2.2.1≤np∧s.2.2.2.2.2.2.length=s.2.2.2.2.1∧RK M s.2.2.1 s.2.2.2.1 s.2.2.2.2.2.1∧wU (xd 16) (np - s.2.2.2.2.1) s.2.2.2.2.2=F) (λs=>np - s.2.2.2.2.1) (none,0,a13,c13,0,(s13,[])) zt eG ⟨jw _,rfl,hk13,hF⟩ ?_
  rintro ⟨pa,pc,ra,rc,i,z,l⟩ ⟨hi,hl,hkz,hz⟩;dsimp only at hi hl hkz hz ⊢
  by_cases hlt:i<np
  ·have hlt':(i:Int)<np:=by omega
   refine Q.r ?_;have en2:np - i=(np - (i+1))+1:=by omega
   rw[en2,xN] at hz;refine Q.dgo [true,false,false,false,true,false,false] [3,5,6,8] [8] [0,1,2,3,4,5,6,7,8] ?_;refine Q.rd2 ?_;refine D.e rfl rfl rfl ?_;refine S.c1 (A:=rdS r ra rc z) rfl (wg r ra rc z 16 M _ hkz) ?_;rintro _ _ ⟨rfl,a14,c14,hk14,rfl⟩;have hv4:=(vT 16 z).1;have hz:wU (xd 16) (np - (i+1)) ((vt 16 z).2,l++[((vt 16 z).1:Int)])=F:=hz;generalize vt 16 z=x14 at*;obtain ⟨v,z14⟩:=x14;dsimp only at*;refine Q.r ?_;refine Q.rd2 ?_;refine D.y rfl rfl rfl zk (Y.cvi rfl) ?_;rw[vl zo zo];refine Q.rd2 ?_;refine D.e rfl rfl rfl ?_;refine Q.r ?_;(repeat (intro b1;refine Q.r ?_));refine Q.rd2 ?_;refine D.e rfl rfl rfl ?_;refine S.app rfl rfl (vA.sl vg.row zr zr) zr zo zo (λa7 c7=> ?_);refine Q.r ?_;refine Q.rd2 ?_;refine Q.dc rfl rfl rfl rfl ?_;refine Q.r ?_;refine Q.rd2 ?_;refine Q.r ?_;refine S.y (Y.add rfl rfl) ?_;rw[wrap_u64 zo zo];refine Q.r ?_;refine ⟨(a7,c7,a14,c14,i+1,z14,l++[(v:Int)]),⟨rfl,rfl,rfl,rfl,rfl,rfl,jj some (by simp[jU]),trivial⟩,?_,⟨hlt,by dsimp only;rw[qF,hl],hk14,hz⟩,jr np i hlt⟩;dsimp only;rw[qF,jq,jL,kC];exact eG
  ·have hie:i=np:=by omega
   have hlt':¬(i:Int)<np:=by omega
   rw[hie,Nat.sub_self] at hz;have hz:(z,l)=F:=hz;subst hz;refine Q.r ?_;exact ⟨(pa,pc,ra,rc,()),zt,by exact eG,hkz⟩
 ·rintro ⟨pa,pc,ra,rc,_⟩ hkz
  dsimp only at hkz ⊢;refine wm pa (λM1 hl1 hsp=> ?_);obtain ⟨x13,s14,e13⟩:∃x s',xo (qB k 12) 0 (xd 16) F.1=(x,s'):=⟨_,_,rfl⟩;have hx13:=wZ (qB k 12) 16 F.1;rw[e13] at hx13;refine Q.r ?_;refine S.c3F (A:=rdS r ra rc F.1) (B:=zF b4 k) (C:=JV b2 r) rfl rfl (vY b2 b4 r k 12 16 4096 ra rc F.1 M1 _ (hkz.mono hl1) zd rfl) ?_;rintro _ _ ⟨rfl,a15,c15,hk15,rfl⟩;rw[e13] at hk15 ⊢;dsimp only at hk15 hx13 ⊢;obtain ⟨no,hno⟩:∃no:Nat,x13=(no:Int):=⟨x13.toNat,by omega⟩;subst hno;have hO:=cb (qB k 12) 16 rU F.1 s14 _ e13;rw[kz] at hO;refine Q.r ?_;generalize hG:wU rU no (s14,[])=G at hO;refine qx (σ:=OA×Nat×OA×Nat×(OM)×List OV) (λ_=> [(1,.pointer (some ⟨b2,0,none⟩)),(2,.pointer (some ⟨b0,0,none⟩)),(3,.pointer (some ⟨b3,0,none⟩)),(4,.pointer (some ⟨b4,0,none⟩)),(5,.func (.func 160) #[] #[.pointer (some ⟨b4,0,none⟩),.pointer (some ⟨b2,0,none⟩)])]) (λs=>pt b3 (cl [.int .u8 (k:Int),.int .u64 x1,.int .u64 x2,.int .u64 x3,.int .u64 x4,.int .u64 x5,.int .u64 x6,.int .u64 x7,.int .i64 x8,.int .i64 x9,.int .i64 x10,.int .i64 x11,.slice pa F.2.length pc,.slice s.1 (s.2.2.2.2.2).length s.2.1,.slice none 0 0,.slice none 0 0] 82)::slO 38 2 s.1 (s.2.2.2.2.2).length s.2.1 ((s.2.2.2.2.2).flatMap OV.cells)::rdS r s.2.2.1 s.2.2.2.1 G.1::zF b4 k::JV b2 r::pt b0 (cl [.int .u8 0,.int .u64 0,.int .u64 0,.int .u64 0,.int .u64 0,.int .u64 0,.int .u64 0,.int .u64 0,.int .i64 0,.int .i64 0,.int .i64 0,.int .i64 0,.slice none 0 0,.slice none 0 0,.slice none 0 0,.slice none 0 0] 82)::qo s.2.2.2.2.1::L0) (λs=>RK s.2.2.2.2.1 s.2.2.1 s.2.2.2.1 G.1∧qU M1 s.2.2.2.2.1∧okR s.2.2.2.2.1 s.2.2.2.2.2∧s.2.2.2.2.2.map OV.abs=G.2) ?_ ?_
  ·refine ql (σ:=OA×Nat×OA×Nat×(OM)×List OV×Nat×RS) (λs=> [(1,.pointer (some ⟨b2,0,none⟩)),(2,.pointer (some ⟨b0,0,none⟩)),(3,.pointer (some ⟨b3,0,none⟩)),(4,.pointer (some ⟨b4,0,none⟩)),(5,.func (.func 160) #[] #[.pointer (some ⟨b4,0,none⟩),.pointer (some ⟨b2,0,none⟩)]),(66,.int .u64 no),(67,.int .u64 s.2.2.2.2.2.2.1)])
    (λs=>pt b3 (cl [.int .u8 (k:Int),.int .u64 x1,.int .u64 x2,.int .u64 x3,.int .u64 x4,.int .u64 x5,.int .u64 x6,.int .u64 x7,.int .i64 x8,.int .i64 x9,.int .i64 x10,.int .i64 x11,.slice pa F.2.length pc,.slice s.1 (s.2.2.2.2.2.1).length s.2.1,.slice none 0 0,.slice none 0 0] 82)::slO 38 2 s.1 (s.2.2.2.2.2.1).length s.2.1 ((s.2.2.2.2.2.1).flatMap OV.cells)::rdS r s.2.2.1 s.2.2.2.1 s.2.2.2.2.2.2.2::zF b4 k::JV b2 r::pt b0 (cl [.int .u8 0,.int .u64 0,.int .u64 0,.int .u64 0,.int .u64 0,.int .u64 0,.int .u64 0,.int .u64 0,.int .i64 0,.int .i64 0,.int .i64 0,.int .i64 0,.slice none 0 0,.slice none 0 0,.slice none 0 0,.slice none 0 0] 82)::qo s.2.2.2.2.1::L0)
    (λs=>s.2.2.2.2.2.2.1≤no∧s.2.2.2.2.2.1.length=s.2.2.2.2.2.2.1∧RK s.2.2.2.2.1 s.2.2.1 s.2.2.2.1 s.2.2.2.2.2.2.2∧qU M1 s.2.2.2.2.1∧okR s.2.2.2.2.1 s.2.2.2.2.2.1∧wU rU (no - s.2.2.2.2.2.2.1) (s.2.2.2.2.2.2.2,s.2.2.2.2.2.1.map OV.abs)=G) (λs=>no - s.2.2.2.2.2.2.1) (none,0,a15,c15,M1,[],0,s14) zt eG ⟨jw _,rfl,hk15,qU.refl _,(λ_ h=>by cases h),hG⟩ ?_
   rintro ⟨oa,oc,ra2,rc2,M2,os,i,z⟩ ⟨hi,hl,hkz2,hl2,hos,hz⟩;dsimp only at hi hl hkz2 hl2 hos hz ⊢
   by_cases hlt:i<no
   ·have hlt':(i:Int)<no:=by omega
    refine Q.r ?_;have en2:no - i=(no - (i+1))+1:=by omega
    rw[en2,xN] at hz;refine Q.dgo [true,false,false,false,true,false,false] [3,5,7,8,10] [10] [0,1,2,4,3,5,6,7,8,9,10] ?_;refine Q.rd2 ?_;refine D.e rfl rfl rfl ?_;refine S.c1 (A:=rdS r ra2 rc2 z) rfl (wg r ra2 rc2 z 1099511627776 M2 _ hkz2) ?_;rintro _ _ ⟨rfl,a16,c16,hk16,rfl⟩;have hz:wU rU (no - (i+1)) ((xw 8 (vt 1099511627776 z).2).2,os.map OV.abs++[(((vt 1099511627776 z).1:Int),(xw 8 (vt 1099511627776 z).2).1)])=G:=hz;generalize vt 1099511627776 z=x16 at*;obtain ⟨v,z16⟩:=x16;dsimp only at*;refine Q.r ?_;refine Q.rd2 ?_;refine D.e rfl rfl rfl ?_;refine S.c1 (A:=rdS r a16 c16 z16) rfl (V5 r a16 c16 z16 M2 _ hk16) ?_;rintro _ _ ⟨va,vc,a17,c17,rfl,hk17,rfl⟩;generalize xw 8 z16=y16 at*;obtain ⟨vv,z17⟩:=y16;dsimp only at*;refine qQ va (λM3 hl3 hsv=> ?_);refine Q.r ?_;refine Q.rd2 ?_;refine D.e rfl rfl rfl ?_;refine Q.r ?_;(repeat (intro b1;refine Q.r ?_));refine Q.rd2 ?_;refine D.e rfl rfl rfl ?_;refine S.app rfl rfl (vA.sl vg.row zr zr) zr zo zo (λa7 c7=> ?_);refine Q.r ?_;refine Q.rd2 ?_;refine Q.dc rfl rfl rfl rfl ?_;refine Q.r ?_;refine Q.rd2 ?_;refine Q.r ?_;refine S.y (Y.add rfl rfl) ?_;rw[wrap_u64 zo zo];refine Q.r ?_;refine ⟨(a7,c7,a17,c17,M3,os++[⟨v,va,vc,vv⟩],i+1,z17),⟨rfl,rfl,rfl,rfl,rfl,rfl,jj some (by simp[jU]),trivial⟩,?_,⟨hlt,by dsimp only;rw[qF,hl],hk17.mono hl3,hl2.trans hl3,λo ho=> ?_,by dsimp only;rw[jq];exact hz⟩,jr no i hlt⟩
    ·dsimp only
     rw[qF,vE];exact eG
    ·rcases jy.1 ho with ho|ho
     ·exact (hos o ho).mono hl3
     ·rw[ji.1 ho];exact hsv
   ·have hie:i=no:=by omega
    have hlt':¬(i:Int)<no:=by omega
    rw[hie,Nat.sub_self] at hz;have hz:(z,os.map OV.abs)=G:=hz;subst hz;refine Q.r ?_;exact ⟨(oa,oc,ra2,rc2,M2,os),zt,by exact eG,hkz2,hl2,hos,rfl⟩
  ·rintro ⟨oa,oc,ra2,rc2,M2,os⟩ ⟨hkz2,hl2,hos,hoG⟩
   dsimp only at hkz2 hl2 hos hoG ⊢;refine wm oa (λM3 hl3 hso=> ?_);obtain ⟨V,hV⟩:∃V,xo (qB k 13) [] (xw 8) G.1=V:=⟨_,rfl⟩;have hb13:=py k 13 zd;rw[show ((2^13:Nat):Int)=8192 from rfl] at hb13;refine wl ?_;refine vn (σ:=OA×Nat×OA×Nat×(OM)) (λ_=> [(1,.pointer (some ⟨b2,0,none⟩)),(2,.pointer (some ⟨b0,0,none⟩)),(3,.pointer (some ⟨b3,0,none⟩)),(4,.pointer (some ⟨b4,0,none⟩)),(5,.func (.func 160) #[] #[.pointer (some ⟨b4,0,none⟩),.pointer (some ⟨b2,0,none⟩)])]) (λs=>pt b3 (cl [.int .u8 (k:Int),.int .u64 x1,.int .u64 x2,.int .u64 x3,.int .u64 x4,.int .u64 x5,.int .u64 x6,.int .u64 x7,.int .i64 x8,.int .i64 x9,.int .i64 x10,.int .i64 x11,.slice pa F.2.length pc,.slice oa os.length oc,.slice s.1 V.1.length s.2.1,.slice none 0 0] 82)::rdS r s.2.2.1 s.2.2.2.1 V.2::zF b4 k::JV b2 r::pt b0 (cl [.int .u8 0,.int .u64 0,.int .u64 0,.int .u64 0,.int .u64 0,.int .u64 0,.int .u64 0,.int .u64 0,.int .i64 0,.int .i64 0,.int .i64 0,.int .i64 0,.slice none 0 0,.slice none 0 0,.slice none 0 0,.slice none 0 0] 82)::qo s.2.2.2.2::L0) (λs=>RK s.2.2.2.2 s.2.2.1 s.2.2.2.1 V.2∧qU M3 s.2.2.2.2∧qH s.2.2.2.2 s.1 V.1.length 1 (V.1.map yT)) ?_ ?_
   ·refine Q.r ?_
    refine S.y (Y.and rfl rfl) ?_
    cases hk13b:qB k 13 with
    |false=>
     rw[hk13b] at hb13 hV;have h0:IntKind.i64.wrap (((BitVec.ofInt IntKind.i64.bits ((fldN k:Nat):Int))&&&(BitVec.ofInt IntKind.i64.bits 8192)).toNat:Int)=0:=kv.1 (of_decide_eq_false hb13);rw[h0];have hV:(([]:List Int),G.1)=V:=hV;subst hV;refine Q.r ?_;refine ⟨(none,0,ra2,rc2,M3),zt,?_,hkz2.mono hl3,qU.refl _,qH.nil0⟩;dsimp only[List.length_nil];exact eG
    |true=>
     rw[hk13b] at hb13 hV;have h0:=kV hb13;generalize IntKind.i64.wrap (((BitVec.ofInt IntKind.i64.bits ((fldN k:Nat):Int))&&&(BitVec.ofInt IntKind.i64.bits 8192)).toNat:Int)=w at h0;refine Q.r ?_;refine S.c1 (A:=rdS r ra2 rc2 G.1) rfl (V5 r ra2 rc2 G.1 M3 _ (hkz2.mono hl3)) ?_;rintro _ _ ⟨va,vc,a17,c17,rfl,hk17,rfl⟩;have hV:xw 8 G.1=V:=hV;rw[hV] at hk17 ⊢;refine qQ va (λM4 hl4 hsv=> ?_);refine Q.r ?_;exact ⟨(va,vc,a17,c17,M4),zt,by exact eG,hk17.mono hl4,hl4,hsv⟩
   ·rintro ⟨va,vc,ra3,rc3,M4⟩ ⟨hkz3,hl4,hsv⟩
    dsimp only at hkz3 hl4 hsv ⊢;obtain ⟨x14,s15,e14⟩:∃x s',xo (qB k 14) 0 (xd 16) V.2=(x,s'):=⟨_,_,rfl⟩;have hx14:=wZ (qB k 14) 16 V.2;rw[e14] at hx14;refine Q.r ?_;refine S.c3F (A:=rdS r ra3 rc3 V.2) (B:=zF b4 k) (C:=JV b2 r) rfl rfl (vY b2 b4 r k 14 16 16384 ra3 rc3 V.2 M4 _ hkz3 zd rfl) ?_;rintro _ _ ⟨rfl,a15,c15,hk15,rfl⟩;rw[e14] at hk15 ⊢;dsimp only at hk15 hx14 ⊢;obtain ⟨nh,hnh⟩:∃nh:Nat,x14=(nh:Int):=⟨x14.toNat,by omega⟩;subst hnh;have hH:=cb (qB k 14) 16 so V.2 s15 _ e14;rw[kz] at hH;refine Q.r ?_;generalize hW:wU so nh (s15,[])=W at hH;refine qx (σ:=OA×Nat×OA×Nat×(OM)×List HV) (λ_=> [(2,.pointer (some ⟨b0,0,none⟩)),(3,.pointer (some ⟨b3,0,none⟩))]) (λs=>pt b3 (cl [.int .u8 (k:Int),.int .u64 x1,.int .u64 x2,.int .u64 x3,.int .u64 x4,.int .u64 x5,.int .u64 x6,.int .u64 x7,.int .i64 x8,.int .i64 x9,.int .i64 x10,.int .i64 x11,.slice pa F.2.length pc,.slice oa os.length oc,.slice va V.1.length vc,.slice s.1 (s.2.2.2.2.2).length s.2.1] 82)::slO 113 3 s.1 (s.2.2.2.2.2).length s.2.1 ((s.2.2.2.2.2).flatMap HV.cells)::rdS r s.2.2.1 s.2.2.2.1 W.1::zF b4 k::JV b2 r::pt b0 (cl [.int .u8 0,.int .u64 0,.int .u64 0,.int .u64 0,.int .u64 0,.int .u64 0,.int .u64 0,.int .u64 0,.int .i64 0,.int .i64 0,.int .i64 0,.int .i64 0,.slice none 0 0,.slice none 0 0,.slice none 0 0,.slice none 0 0] 82)::qo s.2.2.2.2.1::L0) (λs=>RK s.2.2.2.2.1 s.2.2.1 s.2.2.2.1 W.1∧qU M4 s.2.2.2.2.1∧(∀h∈s.2.2.2.2.2,qH s.2.2.2.2.1 h.a h.vec.length 1 (h.vec.map yT))∧s.2.2.2.2.2.map HV.abs=W.2) ?_ ?_
    ·refine ql (σ:=OA×Nat×OA×Nat×(OM)×List HV×Nat×RS) (λs=> [(1,.pointer (some ⟨b2,0,none⟩)),(2,.pointer (some ⟨b0,0,none⟩)),(3,.pointer (some ⟨b3,0,none⟩)),(87,.int .u64 nh),(88,.int .u64 s.2.2.2.2.2.2.1)])
      (λs=>pt b3 (cl [.int .u8 (k:Int),.int .u64 x1,.int .u64 x2,.int .u64 x3,.int .u64 x4,.int .u64 x5,.int .u64 x6,.int .u64 x7,.int .i64 x8,.int .i64 x9,.int .i64 x10,.int .i64 x11,.slice pa F.2.length pc,.slice oa os.length oc,.slice va V.1.length vc,.slice s.1 (s.2.2.2.2.2.1).length s.2.1] 82)::slO 113 3 s.1 (s.2.2.2.2.2.1).length s.2.1 ((s.2.2.2.2.2.1).flatMap HV.cells)::rdS r s.2.2.1 s.2.2.2.1 s.2.2.2.2.2.2.2::zF b4 k::JV b2 r::pt b0 (cl [.int .u8 0,.int .u64 0,.int .u64 0,.int .u64 0,.int .u64 0,.int .u64 0,.int .u64 0,.int .u64 0,.int .i64 0,.int .i64 0,.int .i64 0,.int .i64 0,.slice none 0 0,.slice none 0 0,.slice none 0 0,.slice none 0 0] 82)::qo s.2.2.2.2.1::L0)
      (λs=>s.2.2.2.2.2.2.1≤nh∧s.2.2.2.2.2.1.length=s.2.2.2.2.2.2.1∧RK s.2.2.2.2.1 s.2.2.1 s.2.2.2.1 s.2.2.2.2.2.2.2∧qU M4 s.2.2.2.2.1∧(∀h∈s.2.2.2.2.2.1,qH s.2.2.2.2.1 h.a h.vec.length 1 (h.vec.map yT))∧wU so (nh - s.2.2.2.2.2.2.1) (s.2.2.2.2.2.2.2,s.2.2.2.2.2.1.map HV.abs)=W) (λs=>nh - s.2.2.2.2.2.2.1) (none,0,a15,c15,M4,[],0,s15) zt eG ⟨jw _,rfl,hk15,qU.refl _,(λ_ h=>by cases h),hW⟩ ?_
     rintro ⟨ha,hc,ra2,rc2,M2,hs,i,z⟩ ⟨hi,hl,hkz2,hl2,hos,hz⟩;dsimp only at hi hl hkz2 hl2 hos hz ⊢
     by_cases hlt:i<nh
     ·have hlt':(i:Int)<nh:=by omega
      refine Q.r ?_;have en2:nh - i=(nh - (i+1))+1:=by omega
      rw[en2,xN] at hz;refine Q.dgo [true,false,false,false,true,false,false] [3,5,7,9,10,12] [12] [0,1,2,4,6,3,5,7,8,9,10,11,12] ?_;refine Q.rd2 ?_;refine D.e rfl rfl rfl ?_;refine S.c1 (A:=rdS r ra2 rc2 z) rfl (wg r ra2 rc2 z 1099511627776 M2 _ hkz2) ?_;rintro _ _ ⟨rfl,a16,c16,hk16,rfl⟩;have hz:wU so (nh - (i+1)) ((xw 8 (vt 18446744073709551615 (vt 1099511627776 z).2).2).2,hs.map HV.abs++[(((vt 1099511627776 z).1:Int),((vt 18446744073709551615 (vt 1099511627776 z).2).1:Int),(xw 8 (vt 18446744073709551615 (vt 1099511627776 z).2).2).1)])=W:=hz;generalize vt 1099511627776 z=x16 at*;obtain ⟨v,z16⟩:=x16;dsimp only at*;refine Q.r ?_;refine Q.rd2 ?_;refine D.e rfl rfl rfl ?_;refine S.c1 (A:=rdS r a16 c16 z16) rfl (wg r a16 c16 z16 18446744073709551615 M2 _ hk16) ?_;rintro _ _ ⟨rfl,a18,c18,hk18,rfl⟩;generalize vt 18446744073709551615 z16=x18 at*;obtain ⟨ds,z18⟩:=x18;dsimp only at*;refine Q.r ?_;refine Q.rd2 ?_;refine D.e rfl rfl rfl ?_;refine S.c1 (A:=rdS r a18 c18 z18) rfl (V5 r a18 c18 z18 M2 _ hk18) ?_;rintro _ _ ⟨ua,uc,a17,c17,rfl,hk17,rfl⟩;generalize xw 8 z18=y16 at*;obtain ⟨vv,z17⟩:=y16;dsimp only at*;refine qQ ua (λM7 hl7 hsu=> ?_);refine Q.r ?_;refine Q.rd2 ?_;refine D.e rfl rfl rfl ?_;refine Q.r ?_;(repeat (intro b1;refine Q.r ?_));refine Q.rd2 ?_;refine D.e rfl rfl rfl ?_;refine S.app rfl rfl (vA.sl vg.row zr zr) zr zo zo (λa7 c7=> ?_);refine Q.r ?_;refine Q.rd2 ?_;refine Q.dc rfl rfl rfl rfl ?_;refine Q.r ?_;refine Q.rd2 ?_;refine Q.r ?_;refine S.y (Y.add rfl rfl) ?_;rw[wrap_u64 zo zo];refine Q.r ?_;refine ⟨(a7,c7,a17,c17,M7,hs++[⟨v,ds,ua,uc,vv⟩],i+1,z17),⟨rfl,rfl,rfl,rfl,jj some (by simp[jU]),trivial⟩,?_,⟨hlt,by dsimp only;rw[qF,hl],hk17.mono hl7,hl2.trans hl7,λo ho=> ?_,by dsimp only;rw[jq];exact hz⟩,jr nh i hlt⟩
      ·dsimp only
       rw[qF,vE];exact eG
      ·rcases jy.1 ho with ho|ho
       ·exact (hos o ho).mono hl7
       ·rw[ji.1 ho];exact hsu
     ·have hie:i=nh:=by omega
      have hlt':¬(i:Int)<nh:=by omega
      rw[hie,Nat.sub_self] at hz;have hz:(z,hs.map HV.abs)=W:=hz;subst hz;refine Q.r ?_;exact ⟨(ha,hc,ra2,rc2,M2,hs),zt,by exact eG,hkz2,hl2,hos,rfl⟩
    ·rintro ⟨ha,hc,ra4,rc4,M5,hs⟩ ⟨hkz4,hl5,hhs,hhW⟩
     dsimp only at hkz4 hl5 hhs hhW ⊢;refine wm ha (λM6 hl6 hsh=> ?_);refine Q.r ?_;have hnn:ZG (yY k) s1=([x1,x2,x3,x4,x5,x6,x7,x8,x9,x10,x11],s12):=by
      simp only[yY,mostK,List.zipIdx_cons,List.zipIdx_nil,jL,kC,ZG,kR,Nat.reduceAdd,e1,e2,e3,e4,e5,e6,e7,e8,e9,e10,e11]
     have hB:WK k s1=(([x1,x2,x3,x4,x5,x6,x7,x8,x9,x10,x11],F.2,os.map OV.abs,V.1,hs.map HV.abs),W.1):=by
      unfold WK;simp only[KG,hnn,hP,hO,hV,hH,hoG,hhW]
     rw[hB] at hdc;refine N.r1 RV.c ?_ ⟨⟨(k:Int),x1,x2,x3,x4,x5,x6,x7,x8,x9,x10,x11,pa,pc,F.2,oa,oc,os,va,vc,V.1,ha,hc,hs⟩,ra4,rc4,M6,rfl,by rw[hdc];rfl,⟨hsp.mono (hl2.trans (hl3.trans (hl4.trans (hl5.trans hl6)))),⟨hso.mono (hl4.trans (hl5.trans hl6)),λo ho=>(hos o ho).mono (hl3.trans (hl4.trans (hl5.trans hl6)))⟩,hsv.mono (hl5.trans hl6),hsh,λh hh=>(hhs h hh).mono hl6⟩,by rw[hdc];exact hkz4.mono hl6,hl1.trans (hl2.trans (hl3.trans (hl4.trans (hl5.trans hl6)))),by rw[hdc]⟩;exact eG
theorem dR :∀(k:Nat) (bs:List UInt8) (acc:List Int),(WS k bs acc).1.length≤acc.length+k:=by
 intro k
 induction k with
 |zero=>exact λbs acc=>jz _
 |succ k ih=>
  intro bs acc;rw[Jn]
  split
  ·simp
  ·split
   ·simp
   ·have:=ih (bs.drop (qA bs 18446744073709551615).2.1) (acc++[Xh (qA bs 18446744073709551615).1])
    rw[qF] at this;omega
theorem ZI {α:Type}(d:RS→α×RS):∀(k:Nat) (s:RS×List α),(wU d k s).2.length=s.2.length+k
 |0,s=>rfl
 |k+1,s=>by rw[xN,ZI d k];simp;omega
theorem ZM {α:Type}{d:RS→α×RS}{p:α→Prop}(h:∀s,p (d s).1):∀(k:Nat) (s:RS×List α),(∀x∈s.2,p x)→∀x∈(wU d k s).2,p x
 |0,s,hs=>hs
 |k+1,s,hs=>by
  rw[xN];refine ZM h k _ λx hx=> ?_
  rcases jy.1 hx with hx|hx
  ·exact hs x hx
  ·rw[ji.1 hx];exact h _
theorem bZ {α:Type}(b:Bool)(m:Nat){d:RS→α×RS}{p:α→Prop}(h:∀s,p (d s).1)(s:RS):(xo b [] (cV m d) s).1.length≤m∧∀x∈(xo b [] (cV m d) s).1,p x:=by
 cases b with
 |false=>exact ⟨jw _,λ_ hx=>by cases hx⟩
 |true=>
  refine ⟨?_,ZM h _ _ λ_ hx=>by cases hx⟩
  show (wU d (vt m s).1 ((vt m s).2,[])).2.length≤m
  rw[ZI];have:=(vT m s).1
  simpa using this
theorem jFk (s:RS):(0≤(Xa s).1.kind∧(Xa s).1.kind≤255)∧(Xa s).1.parts.length≤4∧((Xa s).1.ops.length≤16∧∀o∈(Xa s).1.ops,o.2.length≤8)∧(Xa s).1.vec.length≤8∧(Xa s).1.hits.length≤16∧∀h∈(Xa s).1.hits,h.2.2.length≤8:=by
 have hv:∀s,(xw 8 s).1.length≤8:=λs=>by
  unfold xw
  split
  ·exact jw _
  ·split
   ·exact jw _
   ·next h3=>
    have h8:=(yt (Decidable.not_not.1 h3)).2;have:=dR (qA s.bs 8).1 (s.bs.drop (qA s.bs 8).2.1) [];dsimp only
    split
    ·exact jw _
    ·exact ke this (by rw[j7];omega)
 have hk:=(vT 255 s).1;have hO:=bZ (qB (vt 255 s).1 12) 16 (d:=rU) (p:=λo=>o.2.length≤8) (λs=>hv _);have hH:=bZ (qB (vt 255 s).1 14) 16 (d:=so) (p:=λo=>o.2.2.length≤8) (λs=>hv _);refine ⟨⟨kQ _,by show ((vt 255 s).1:Int)≤255;omega⟩,(bZ (qB (vt 255 s).1 11) 4 (d:=xd 16) (p:=λ_=>True) (λ_=>trivial) _).1,hO _,?_,(hH _).1,(hH _).2⟩
 show (xo (qB (vt 255 s).1 13) [] (xw 8) _).1.length≤8
 cases qB (vt 255 s).1 13 with
 |false=>exact jw _
 |true=>exact hv _
theorem OkN.dc {n:NV}{s:RS}(h:n.abs=(Xa s).1):OkN n∧0≤n.kind∧n.kind≤255:=by
 obtain ⟨h1,h2,⟨h3,h4⟩,h5,h6,h7⟩:=jFk s;rw[←h] at h1 h2 h3 h4 h5 h6 h7;have h3:(n.ops.map OV.abs).length≤16:=h3;have h6:(n.hits.map HV.abs).length≤16:=h6;rw[jf] at h3 h6;have h2:n.parts.length≤4:=h2;have h5:n.vec.length≤8:=h5;refine ⟨⟨by omega,by omega,λo ho=> ?_,by omega,by omega,λo ho=> ?_⟩,h1⟩
 ·have:o.vec.length≤8:=h4 o.abs (jA ho)
  omega
 ·have:o.vec.length≤8:=h7 o.abs (jA (f:=HV.abs) ho)
  omega
def rf (p:List UInt8):Int:=if hU p≠0 then hU p else if YY p=none then 4 else 0
def jHl (M:OM)(L0:HL)(bs:List UInt8)(v:Value)(L':HL):Prop:=∃n:NV,∃M',v=.tuple #[n.val,.int .i64 (rf bs)]∧n.abs=(YY bs).getD NA.zero∧xt M' n∧OkN n∧qU M M'∧L'=qo M'::L0
theorem ly {p:List UInt8}:hU p=0↔zZ p=0∧Y4 p=[]:=by
 unfold hU
 by_cases h:zZ p=0
 ·rw[ja (by simp[h])]
  by_cases hr:Y4 p=[]
  ·rw[jb hr];simp[h,hr]
  ·rw[ja hr];simp[h,hr]
 ·rw[jb h];simp[h]
theorem jBd (p:List UInt8):(VC p).length≤p.length:=by
 unfold VC;rw[jP,jE];omega
theorem ZF :∀(cs:List (Bool×Nat)) (xs:List Int),VD cs xs→∀(i:Nat) (c:Bool×Nat),cs[i]? =some c→0≤xs.getD i 0∧xs.getD i 0≤c.2
 | [],_,_,i,c,h=>by cases h
 |c::cs,[],hk,i,d,h=>hk.elim
 |c::cs,x::xs,hk,0,d,h=>by
  have e:c=d:=by simpa using h
  subst e;have h1:=hk.1
  show 0≤x∧x≤c.2
  split at h1
  ·exact h1
  ·omega
 |c::cs,x::xs,hk,i+1,d,h=>ZF cs xs hk.2 i d h
theorem ifL {α:Type}{b:Bool}{l:List α}{p:Prop}{q:α→Prop}(h:if b=true then p∧∀x∈l,q x else l=[]):∀x∈l,q x:=by
 split at h
 ·exact h.2
 ·rw[h];exact λ_ hx=>by cases hx
theorem jD6 {p:List UInt8}{n:NA}(h:YY p=some n):qu n=true∧xf n:=by
 unfold YY at h
 split at h
 case isFalse=>cases h
 rename_i hc;obtain ⟨_,_,hb,_,hr⟩:=hc;have e:=Option.some.inj h;subst e;refine ⟨hr,?_⟩;generalize (⟨VC p,0,true⟩:RS)=s at*;have hk:=(vT 255 s).1;unfold Xa at hb ⊢;dsimp only at hb ⊢;generalize vt 255 s=x at*;obtain ⟨k,s1⟩:=x;dsimp only at*;obtain ⟨_,_,hB⟩:=(Yt k).inv s1 hb;generalize (WK k s1).1=t at*;obtain ⟨ns,ps,os,v,hs⟩:=t;obtain ⟨b1,b2,b3,b4,b5⟩:=hB;dsimp only at b1 b2 b3 b4 b5;have g:=λi m (h:(yY k)[i]? =some (qB k i,m))=>ZF _ _ b1 i _ h
 have g0:=g 0 _ rfl;have g1:=g 1 _ rfl;have g2:=g 2 _ rfl;have g3:=g 3 _ rfl;have g4:=g 4 _ rfl;have g5:=g 5 _ rfl;have g6:=g 6 _ rfl;have g7:=g 7 _ rfl;have g8:=g 8 _ rfl;have g9:=g 9 _ rfl;have g10:=g 10 _ rfl;dsimp only at g0 g1 g2 g3 g4 g5 g6 g7 g8 g9 g10;unfold mkN;dsimp only;refine ⟨⟨?_,?_,?_,?_,?_,?_,?_,?_,?_,?_,?_,?_⟩,λo ho=>(ifL (q:=X0) b3 o ho).1.1,λo ho=> ?_⟩
 ·dsimp only;omega
 all_goals first|(dsimp only;omega)|skip
 have:=ifL (q:=KR) b5 o ho;exact ⟨this.1.1,this.2.1.1,by have:=this.2.1.2;omega⟩
theorem Kj (a:OA)(c:Nat)(bs:List UInt8)(M:OM)(L0:HL)(h:qH M a bs.length 1 (bs.map B))(hc:bs.length≤c)(hT:yE M)(hB:xg M)(hb:bs.length≤10000000):
  qh kY 33 [.slice a bs.length c] (qo M::L0) (jHl M L0 bs):=by
 refine qg Tryz.func33 rfl rfl rfl ?_;refine Q.r ?_;(repeat (intro b1;refine Q.r ?_));refine S.cq (A:=qo M) rfl (mU a c bs M _ h hc hB zo) ?_;rintro _ _ ⟨v,M1,rfl,hv,hvo,hvc,hl1,rfl⟩
 by_cases h0:hU bs=0
 case neg=>
  have hn:YY bs=none:=by
   unfold YY;refine ja λh=>h0 (ly.2 ⟨h.1,h.2.1⟩)
  have hu:rf bs=hU bs:=jb h0;generalize hU bs=E at*;refine Q.r ?_;refine N.r2 (by apply RV.cellN;rfl;exact vg.row;rfl;exact RV.tmp rfl RV.nil) (L':=qo M1::L0) eG ⟨NA.zero.nv,M1,by rw[hu];rfl,by rw[hn];rfl,xt.nv _,OkN.nv _,hl1,rfl⟩
 rw[jb h0] at hv;have hvl:v.bs.length≤bs.length:=hv▸jBd bs;rw[h0];refine Q.r ?_;refine S.cr rfl (Zx v.a v.c v.bs M1 _ _ hvo.rd zo) ?_;rintro _ _ ⟨r,a',M2,rfl,hl2,hs2,rfl⟩;have hT2:=hT.mono (hl1.trans hl2);refine Q.r ?_;refine S.cr rfl (mW r a' v.bs.length ⟨v.bs,0,true⟩ M2 _ ⟨hs2,jz _,by show v.bs.length≤_;omega⟩ hT2) ?_;rintro _ _ ⟨n,a3,c3,M3,rfl,hn,hno,hk3,hl3,rfl⟩;obtain ⟨hON,hnk⟩:=OkN.dc hn;have hun:YY bs=if (Xa ⟨v.bs,0,true⟩).2.bad=0∧(Xa ⟨v.bs,0,true⟩).2.bs=[]∧qu (Xa ⟨v.bs,0,true⟩).1=true then some (Xa ⟨v.bs,0,true⟩).1 else none:=by
  rw[hv];unfold YY;have:=ly.1 h0;simp only[this.1,this.2,true_and]
 generalize Xa ⟨v.bs,0,true⟩=x at*;obtain ⟨xa,z⟩:=x;dsimp only at hn hk3 hun ⊢;subst hn;have hC0:rf bs=if YY bs=none then 4 else 0:=by unfold rf;rw[ja (by simp[h0])]
 refine Q.r ?_;(repeat (intro b1;refine Q.r ?_));refine S.c1 (A:=rdS r a3 c3 z) rfl (Zy r a3 c3 z.bs z.bad _) ?_;rintro _ _ ⟨rfl,rfl⟩;have hl13:=hl1.trans (hl2.trans hl3)
 by_cases he:Yj z.bs z.bad=0
 ·have hz:z.bad=0∧z.bs=[]:=by
   unfold Yj at he
   by_cases hb0:z.bad=0
   ·rw[ja (by simp[hb0])] at he
    refine ⟨hb0,?_⟩
    by_cases hl0:z.bs.length=0
    ·exact jO hl0
    ·rw[ja hl0] at he;cases he
   ·rw[jb hb0] at he;exact absurd he hb0
  rw[he];refine Q.r ?_;refine S.cr rfl (Je n _ hno.rd hON (hT.mono hl13).rd hnk) ?_;rintro _ _ ⟨rfl,rfl⟩
  cases hr:qu n.abs with
  |true=>
   have hu:YY bs=some n.abs:=by rw[hun,jb ⟨hz.1,hz.2,hr⟩]
   have hc:rf bs=0:=by rw[hC0,ja (by rw[hu];simp)]
   refine Q.r ?_;refine N.r2 (by apply RV.cellN;rfl;exact vg.row;rfl;exact RV.tmp rfl RV.nil) (L':=qo M3::L0) eG ⟨n,M3,by rw[hc],by rw[hu];rfl,hno,hON,hl13,rfl⟩
  |false=>
   have hu:YY bs=none:=by rw[hun,ja (by simp[hr])]
   have hc:rf bs=4:=by rw[hC0,jb hu]
   refine Q.r ?_;refine N.r2 (by apply RV.cellN;rfl;exact vg.row;rfl;exact RV.tmp rfl RV.nil) (L':=qo M3::L0) eG ⟨NA.zero.nv,M3,by rw[hc];rfl,by rw[hu];rfl,xt.nv _,OkN.nv _,hl13,rfl⟩
 ·have hu:YY bs=none:=by
   rw[hun,ja];rintro ⟨q1,q2,_⟩;exact he (by unfold Yj;rw[q1,q2];rfl)
  have hc:rf bs=4:=by rw[hC0,jb hu]
  have he':decide (¬Yj z.bs z.bad=0)=true:=jo he;generalize Yj z.bs z.bad=E at*;refine Q.r ?_;refine N.r2 (by apply RV.cellN;rfl;exact vg.row;rfl;exact RV.tmp rfl RV.nil) (L':=qo M3::L0) eG ⟨NA.zero.nv,M3,by rw[hc];rfl,by rw[hu];rfl,xt.nv _,OkN.nv _,hl13,rfl⟩
abbrev Ks (c:Nat):Value:=.pointer (some ⟨c,0,none⟩)
abbrev wR (c pj:Nat)(gv:Value)(q:Nat)(dn:Bool):HP:=pt c (cl [vI pj,gv,qK q,.bool dn] 81)
theorem jGe (T:JZ)(rs:List (List UInt8)):(fj T rs).n=T.n:=by
 unfold fj
 split
 ·rfl
 ·split
  ·rfl
  ·split<;>rfl
theorem dq (c pj:Nat)(gv:Value)(q:Nat)(dn:Bool)(L:HL):qh kY 18 [Ks c] (wR c pj gv q dn::L) (λr L'=>r=.bool (!dn)∧L'=wR c pj gv q dn::L):=by
 refine qg Tryz.func18 rfl rfl rfl ?_;refine Q.r ?_;exact N.t rfl (kZ _) ⟨rfl,rfl⟩
theorem dr (L:HL):qh kY 18 [wD] L (λr L'=>r=.bool false∧L'=L):=by
 refine qg Tryz.func18 rfl rfl rfl ?_;refine Q.r ?_;exact N.t rfl (kZ _) ⟨rfl,rfl⟩
theorem WQ (c pj:Nat)(gv:Value)(q p:Nat)(dn:Bool)(T:JZ)(a:OA)(cc:Nat)(vs:List YB)(M:OM)(L:HL)(hF:jDZ T)(h:qH M a vs.length 1 (vs.flatMap YB.cells))(hok:Jj M vs)(hB:xg M)(hvl:vs.length≤1000)(hb:∀v∈vs,v.bs.length≤100000):
  qh kY 80 [Ks c,.slice a vs.length cc] (yW p q T M (wR c pj gv q dn::L)) (λr L'=>r=.int .i64 (zO T (vs.map YB.bs))∧∃M',qU M M'∧L'=yW p q (ye T (vs.map YB.bs)) M' (wR c pj gv q dn::L)):=by
 refine qg Tryz.func80 rfl rfl rfl ?_;refine Q.r ?_;refine S.cr rfl (tC p q T a cc vs M _ hF.n hF.k hF.f h hok hB hvl hb) ?_;rintro _ _ ⟨rfl,M1,hl1,rfl⟩;have hn:=jGe T (vs.map YB.bs);unfold zO ye
 by_cases h0:gZ T (vs.map YB.bs)=0
 ·rw[ja (by simp[h0]),ja (by simp[h0]),h0]
  generalize fj T (vs.map YB.bs)=T1 at*;refine Q.r ?_;refine S.cr rfl (nt p q T1 M1 _ (by have:=hF.n;omega)) ?_;rintro _ _ ⟨rfl,M2,hl2,rfl⟩;refine Q.r ?_;exact N.t rfl (kZ _) ⟨rfl,M2,hl1.trans hl2,rfl⟩
 ·rw[jb h0,jb h0]
  generalize fj T (vs.map YB.bs)=T1 at*;have h0':decide (¬gZ T (vs.map YB.bs)=0)=true:=jo h0;generalize gZ T (vs.map YB.bs)=E at*;refine Q.r ?_;exact N.t rfl (kZ _) ⟨rfl,M1,hl1,rfl⟩
theorem xT (c pj:Nat)(gv:Value)(q:Nat)(dn:Bool)(j:JG)(a:OA)(cc:Nat)(ns:List NV)(M:OM)(L:HL)(h:yK M a ns)(hu:∀n∈ns,yF n.abs∧OkN n)(hw:WN j)(hT:yE M)(hnl:ns.length≤1000000):
  qh kY 31 [Ks c,.slice a ns.length cc] (wR c pj gv q dn::qE M pj j::qo M::L)
   (λr L'=>∃M',qU M M'∧L'=wR c pj gv q dn::qE M' pj (xB j (ns.map NV.abs))::qo M'::L):=by
 refine qg Tryz.func31 rfl rfl rfl ?_;refine Q.r ?_;refine ql (σ:=Nat×(OM)) (λs=> [(0,Ks c),(6,.slice a ns.length cc),(7,.int .i64 ns.length),(8,.int .i64 s.1)])
  (λs=>wR c pj gv q dn::qE s.2 pj (xB j ((ns.take s.1).map NV.abs))::qo s.2::L)
  (λs=>s.1≤ns.length∧qU M s.2) (λs=>ns.length - s.1) (0,M) zt (kZ _) ⟨jw _,qU.refl M⟩ ?_
 rintro ⟨k,M1⟩ ⟨hk,hl1⟩;dsimp only at hk hl1 ⊢
 by_cases hlt:k<ns.length
 ·obtain ⟨n,hq⟩:=qw hlt
  have hm:=jn hq;obtain ⟨b,oo,hia,cr⟩:=qH.cm (g:=NV.cells) (λ_=>rfl) (h.1.mono hl1) hq rfl;have hok:=Xz (j:=j) (l:=(ns.take k).map NV.abs) hw (λr hr=>by obtain ⟨w,hw,rfl⟩:=jM.1 hr;exact (hu w (List.mem_of_mem_take hw)).1);have hnx:xB j ((ns.take (k+1)).map NV.abs)=vC (xB j ((ns.take k).map NV.abs)) n.abs:=by
   rw[qz hq,jq];unfold xB;rw[List.foldl_append];rfl
  generalize xB j ((ns.take k).map NV.abs)=j1 at hok hnx ⊢;obtain ⟨ho1,ho2,ho3,_⟩:=hok;have hua:=(hu n hm).1;rw[hia];refine Q.r ?_;(repeat (intro b1;refine Q.r ?_));refine Q.dgo [true,true,false,false] [5] [] [0,1,2,3,4,5] ?_;refine Q.rd ?_;refine D.e rfl rfl rfl ?_;refine S.cg pj (args:=[vI pj,n.val]) rfl (Jg n M1 pj j1 _ ho1.g ((h.2 n hm).mono hl1) (hu n hm).2 (hT.mono hl1) hua.nv (by have:=hua.txn.2;show n.abs.txn<_;omega)) ?_;rintro _ _ ⟨M2,rfl,hl2,rfl⟩;refine Q.r ?_;refine Q.rd ?_;refine Q.r ?_;rw[←hia];refine ⟨(k+1,M2),zt,?_,⟨by dsimp only;omega,hl1.trans hl2⟩,by dsimp only;omega⟩;dsimp only;rw[hnx];exact eG
 ·have hke:k=ns.length:=by omega
  subst hke;rw[jI];refine Q.r ?_;refine N.n0 RV.nil (kZ _) ?_;exact ⟨M1,hl1,rfl⟩
def vU (l:List NA):List (List UInt8):=l.map qC
theorem Ju {n:NA}(h:qu n=true)(u:xf n):0<(qC n).length∧(qC n).length≤4102:=by
 have h1:=zG (xn h u) u;have h2:(frB (xF n)).length=6+(xF n).length:=yf _;unfold qC;omega
def jFP (c pj:Nat)(gv:Value)(q p:Nat)(dn:Bool)(T:JZ)(j:JG)(ps:List (List UInt8))(M:OM)(L:HL)(r:Value)(L':HL):Prop:=
 r=.int .i64 (VP T (qt j) ps)∧∃M',qU M M'∧L'=yW p q (Kd T (qt j) ps) M' (wR c pj gv q (dn||(Kd T (qt j) ps).br)::qE M' pj j::L)
theorem Qa (c pj:Nat)(gv:Value)(q p:Nat)(dn:Bool)(T:JZ)(j:JG)(a:OA)(cc:Nat)(ns:List NV)(M:OM)(L:HL)(h:yK M a ns)(hu:∀n∈ns,qu n.abs=true∧xf n.abs)(hT:yE M)(hB:xg M)(hW:jDU T (qt j) (vU (ns.map NV.abs)))(hpb:PB j)(htl:j.tr.length≤100000)(hdl:j.done.length≤100000)(hpl:(qt j).length≤1048575)(hnl:ns.length≤1000):
  qh kY 30 [Ks c,.slice a ns.length cc] (yW p q T M (wR c pj gv q dn::qE M pj j::L)) (jFP c pj gv q p dn T j (vU (ns.map NV.abs)) M L):=by
 refine qg Tryz.func30 rfl rfl rfl ?_;refine Q.r ?_;refine qx (σ:=OA×Nat×List YB×(OM)) (λs=> [(0,Ks c),(5,.slice s.1 s.2.2.1.length s.2.1)])
  (λs=>slO 34 1 s.1 s.2.2.1.length s.2.1 (s.2.2.1.flatMap YB.cells)::yW p q T s.2.2.2 (wR c pj gv q dn::qE M pj j::L)) (λs=>s.2.2.1.map YB.bs=vU (ns.map NV.abs)∧Jj s.2.2.2 s.2.2.1∧qU M s.2.2.2) ?_ ?_
 ·refine ql (σ:=Nat×OA×Nat×List YB×(OM)) (λs=> [(0,Ks c),(11,.slice a ns.length cc),(12,.int .i64 ns.length),(5,.slice s.2.1 s.2.2.2.1.length s.2.2.1),(13,.int .i64 s.1)])
   (λs=>slO 34 1 s.2.1 s.2.2.2.1.length s.2.2.1 (s.2.2.2.1.flatMap YB.cells)::yW p q T s.2.2.2.2 (wR c pj gv q dn::qE M pj j::L)) (λs=>s.1≤ns.length∧s.2.2.2.1.map YB.bs=vU ((ns.take s.1).map NV.abs)∧Jj s.2.2.2.2 s.2.2.2.1∧qU M s.2.2.2.2) (λs=>ns.length - s.1) (0,none,0,[],M) zt vh ⟨jw _,by simp[vU],(λv hv=>by cases hv),qU.refl _⟩ ?_
  rintro ⟨k,a1,c1,vs,M1⟩ ⟨hk,hvs,hok,hl1⟩;dsimp only at hk hvs hok hl1 ⊢;have hvl:vs.length=k:=by
   have:=jj List.length hvs;unfold vU at this;rw[jf,jf,jf,jP] at this;omega
  by_cases hlt:k<ns.length
  ·obtain ⟨n,hq⟩:=qw hlt
   have hm:=jn hq;obtain ⟨b,oo,hia,cr⟩:=qH.cm (g:=NV.cells) (λ_=>rfl) (h.1.mono hl1) hq rfl;obtain ⟨hR,hX⟩:=hu n hm;rw[hia];refine Q.r ?_;(repeat (intro b1;refine Q.r ?_));refine S.cq (A:=qo M1) (args:=[n.val]) rfl (YF n M1 _ ((h.2 n hm).mono hl1) (OkN.right hR) (hT.mono hl1) (hB.mono hl1) hX) ?_;rintro _ _ ⟨v,M2,rfl,hv,hvo,hvc,hl2,rfl⟩;rw[jb hR] at hv;rw[jb hR];refine Q.r ?_;(repeat (intro b1;refine Q.r ?_));refine S.app rfl rfl (vA.sl vg.row zr zr) zr zo zo (λa7 c7=> ?_);refine Q.r ?_;rw[←hia];refine ⟨(k+1,a7,c7,vs++[v],M2),⟨rfl,rfl,rfl,jj some (by simp[jU]),rfl,trivial⟩,?_,⟨hlt,?_,λw hw=> ?_,hl1.trans hl2⟩,jr ns.length k hlt⟩
   ·dsimp only
    rw[qF,vE];exact eG
   ·dsimp only
    rw[qz hq,jq,jq,hvs];unfold vU;rw[jq]
    show _++[v.bs]=_
    rw[hv];rfl
   ·rcases jy.1 hw with hw|hw
    ·exact ⟨(hok w hw).1.mono hl2,(hok w hw).2⟩
    ·rw[ji.1 hw];exact ⟨hvo,hvc⟩
  ·have hke:k=ns.length:=by omega
   subst hke;rw[jI] at hvs;refine Q.r ?_;exact ⟨(a1,c1,vs,M1),zt,by exact eG,hvs,hok,hl1⟩
 rintro ⟨a1,c1,vs,M1⟩ ⟨hvs,hok,hl1⟩;dsimp only at hvs hok hl1 ⊢;refine wm a1 (λM3 hl3 hs3=> ?_);have hvl:vs.length=ns.length:=by
  have:=jj List.length hvs;unfold vU at this;rw[jf,jf,jf] at this;exact this
 have hvb:∀v∈vs,v.bs.length≤100000:=λv hv=>by
  have:v.bs∈vU (ns.map NV.abs):=by rw[←hvs];exact jA hv
  unfold vU at this;obtain ⟨n,hn,e⟩:=jM.1 this;obtain ⟨w,hw,rfl⟩:=jM.1 hn;have:=(Ju (hu w hw).1 (hu w hw).2).2;rw[←e];omega
 refine lD pj (hl1.trans hl3) ?_;rw[←hvs] at hW ⊢;unfold jFP;refine Q.r ?_;refine qm (L':=yW p q T M3 (wR c pj gv q dn::qE M3 pj j::L)) eG ?_;refine S.cr rfl (WQ c pj gv q p dn T a1 c1 vs M3 _ hW.a hs3 (λv hv=>⟨(hok v hv).1.mono hl3,(hok v hv).2⟩) (hB.mono (hl1.trans hl3)) zo hvb) ?_;rintro _ _ ⟨rfl,M4,hl4,rfl⟩;refine vP pj hl4 ?_;have hl04:=hl1.trans (hl3.trans hl4);generalize hps:List.map YB.bs vs=ps at hW ⊢
 by_cases h8:zO T ps=8
 case neg=>
  obtain ⟨w1,w2⟩:=jEt (s:=qt j) h8;rw[w1,w2];have h8':decide (zO T ps=8)=false:=jv h8;generalize ye T ps=T1 at*;generalize zO T ps=E at*
  cases dn with
  |true=>
   refine Q.r ?_;exact N.t rfl (L':=yW p q (T1) M4 (wR c pj gv q true::qE M4 pj j::L)) eG ⟨rfl,M4,hl04,rfl⟩
  |false=>
   refine Q.r ?_;refine S.c1 (A:=yH q p (T1).n (T1).k (T1).br) rfl (yV q p _ _ _ _) ?_;rintro _ _ ⟨rfl,rfl⟩;refine Q.r ?_;exact N.t rfl (L':=yW p q (T1) M4 (wR c pj gv q (T1).br::qE M4 pj j::L)) eG ⟨rfl,M4,hl04,rfl⟩
 have hSv:=hW.b h8;have hFc:=hW.c h8;have hcno:=jGC (T:=T) (s:=qt j) h8;have hcok:=jGD (T:=T) (s:=qt j) h8;rw[h8];generalize ye T ps=T1 at*;refine Q.r ?_;refine Q.dgo [false,false,false,false,true] [8,9] [] [0,1,2,3,4,5,6,7,8,9,10] ?_;refine Q.rd ?_;refine D.e rfl rfl rfl ?_;refine S.cg pj rfl (yU M4 pj j _ hpb htl hdl) ?_;rintro _ _ ⟨a8,c8,M5,rfl,hl5,rfl⟩;refine yJ a8 (λhc8=> ?_);refine qQ a8 (λM6 hl6 hs6=> ?_);refine vP pj hl6 ?_;refine Q.r ?_;refine Q.rd ?_;refine D.e rfl rfl rfl ?_;refine qm (L':=yW p q T1 M6 (qE M6 pj j::L)) eG ?_;refine S.cr rfl (Wn p q T1 a8 c8 (qt j) M6 _ hSv.n hSv.key hSv.f hs6 (hB.mono (hl04.trans (hl5.trans hl6))) hc8 hpl hSv.no hSv.old) ?_;rintro _ _ ⟨rfl,M7,hl7,rfl⟩;refine vP pj hl7 ?_;have hl07:=hl04.trans (hl5.trans (hl6.trans hl7));refine Q.r ?_;refine Q.rd ?_
 by_cases hse:Jr T1 (qt j)=0
 case neg=>
  obtain ⟨w1,w2⟩:=hcno hse;rw[w1,w2];have hse':decide (Jr T1 (qt j)=0)=false:=jv hse;generalize yv T1 (qt j)=T2 at*;generalize Jr T1 (qt j)=E at*
  cases dn with
  |true=>
   refine Q.r ?_;exact N.t rfl (L':=yW p q (T2) M7 (wR c pj gv q true::qE M7 pj j::L)) eG ⟨rfl,M7,hl07,rfl⟩
  |false=>
   refine Q.r ?_;refine S.c1 (A:=yH q p (T2).n (T2).k (T2).br) rfl (yV q p _ _ _ _) ?_;rintro _ _ ⟨rfl,rfl⟩;refine Q.r ?_;exact N.t rfl (L':=yW p q (T2) M7 (wR c pj gv q (T2).br::qE M7 pj j::L)) eG ⟨rfl,M7,hl07,rfl⟩
 obtain ⟨w1,w2⟩:=hcok hse;rw[w1,w2];have hF2:=hFc hse;rw[hse];generalize yv T1 (qt j)=T2 at*;refine Q.r ?_;refine qm (L':=yW p q T2 M7 (wR c pj gv q dn::qE M7 pj j::L)) eG ?_;rw[←hps];refine S.cr rfl (WQ c pj gv q p dn T2 a1 c1 vs M7 _ hF2 (hs3.mono (hl4.trans (hl5.trans (hl6.trans hl7)))) (λv hv=>⟨(hok v hv).1.mono (hl3.trans (hl4.trans (hl5.trans (hl6.trans hl7)))),(hok v hv).2⟩) (hB.mono hl07) zo hvb) ?_;rintro _ _ ⟨rfl,M8,hl8,rfl⟩;refine vP pj hl8 ?_;have hl08:=hl07.trans hl8;generalize ye T2 (List.map YB.bs vs)=T3 at*;generalize zO T2 (List.map YB.bs vs)=E at*
 cases dn with
 |true=>
  refine Q.r ?_;exact N.t rfl (L':=yW p q (T3) M8 (wR c pj gv q true::qE M8 pj j::L)) eG ⟨rfl,M8,hl08,rfl⟩
 |false=>
  refine Q.r ?_;refine S.c1 (A:=yH q p (T3).n (T3).k (T3).br) rfl (yV q p _ _ _ _) ?_;rintro _ _ ⟨rfl,rfl⟩;refine Q.r ?_;exact N.t rfl (L':=yW p q (T3) M8 (wR c pj gv q (T3).br::qE M8 pj j::L)) eG ⟨rfl,M8,hl08,rfl⟩
structure tB where
 to:Int
 y:YB
abbrev tB.cells (l:tB):List Value:=[.int .i64 0,.int .i64 l.to,.slice l.y.a l.y.bs.length l.y.c]
def Qz (ms:List (Int×NA)):List (Int×List UInt8):=(ms.filter λm=>qu m.2).map λm=>(m.1,qC m.2)
def jEX (M:OM)(a:OA)(ls:List tB):Prop:=qH M a ls.length 3 (ls.flatMap tB.cells)∧∀l∈ls,wc M l.y∧l.y.bs.length≤l.y.c
abbrev jBv (l:tB):Int×List UInt8:=(l.to,l.y.bs)
def jHo (c pj:Nat)(gv:Value)(q:Nat)(dn:Bool)(ms:List (Int×NA))(M:OM)(L:HL)(r:Value)(L':HL):Prop:=
 ∃(a:OA) (cc:Nat) (ls:List tB) (M':OM),r=.slice a ls.length cc∧ls.map jBv=(if dn=true then [] else Qz ms)∧jEX M' a ls∧qU M M'∧L'=wR c pj gv q dn::qo M'::L
abbrev Km (m:Int×NV):Int×NA:=(m.1,m.2.abs)
theorem se (ms:List (Int×NA))(m:Int×NA):Qz (ms++[m])=Qz ms++(if qu m.2=true then [(m.1,qC m.2)] else []):=by
 unfold Qz;rw[jU,jq]
 cases h:qu m.2<;>simp[h]
theorem jBs (ms:List (Int×NA)):(Qz ms).length≤ms.length:=by
 unfold Qz;rw[jf];exact kw _ _
theorem QS (c pj:Nat)(gv:Value)(q:Nat)(dn:Bool)(a:OA)(cc:Nat)(ms:List (Int×NV))(M:OM)(L:HL)(h:J9 M a ms)(hu:∀m∈ms,OkN m.2∧xf m.2.abs)(hT:yE M)(hB:xg M)(hnl:ms.length≤1000000):
  qh kY 34 [Ks c,.slice a ms.length cc] (wR c pj gv q dn::qo M::L) (jHo c pj gv q dn (ms.map Km) M L):=by
 refine qg Tryz.func34 rfl rfl rfl ?_;refine Q.r ?_;refine S.c1 (A:=wR c pj gv q dn) rfl (dq c pj gv q dn _) ?_;rintro _ _ ⟨rfl,rfl⟩
 cases dn with
 |true=>
  refine Q.r ?_;exact N.t rfl (L':=wR c pj gv q true::qo M::L) eG ⟨none,0,[],M,rfl,rfl,⟨qH.nil,λ_ h=>by cases h⟩,qU.refl _,rfl⟩
 |false=>
  refine Q.r ?_;refine qx (σ:=OA×Nat×List tB×(OM)) (λs=> [(5,.slice s.1 s.2.2.1.length s.2.1)])
   (λs=>slO 47 3 s.1 s.2.2.1.length s.2.1 (s.2.2.1.flatMap tB.cells)::wR c pj gv q false::qo s.2.2.2::L) (λs=>s.2.2.1.map jBv=Qz (ms.map Km)∧(∀l∈s.2.2.1,wc s.2.2.2 l.y∧l.y.bs.length≤l.y.c)∧qU M s.2.2.2) ?_ ?_
  ·refine ql (σ:=Nat×OA×Nat×List tB×(OM)) (λs=> [(13,.slice a ms.length cc),(14,.int .i64 ms.length),(5,.slice s.2.1 s.2.2.2.1.length s.2.2.1),(15,.int .i64 s.1)])
    (λs=>slO 47 3 s.2.1 s.2.2.2.1.length s.2.2.1 (s.2.2.2.1.flatMap tB.cells)::wR c pj gv q false::qo s.2.2.2.2::L) (λs=>s.1≤ms.length∧s.2.2.2.1.map jBv=Qz ((ms.take s.1).map Km)∧(∀l∈s.2.2.2.1,wc s.2.2.2.2 l.y∧l.y.bs.length≤l.y.c)∧qU M s.2.2.2.2) (λs=>ms.length - s.1) (0,none,0,[],M) zt vh ⟨jw _,by simp[Qz],(λv hv=>by cases hv),qU.refl _⟩ ?_
   rintro ⟨k,a1,c1,ls,M1⟩ ⟨hk,hls,hok,hl1⟩;dsimp only at hk hls hok hl1 ⊢;have hll:ls.length≤1000000:=by
    have h1:=jj List.length hls;have h2:=jBs ((ms.take k).map Km);rw[jf] at h1;rw[jf,jP] at h2;omega
   by_cases hlt:k<ms.length
   ·obtain ⟨m,hq⟩:=qw hlt
    have hm:=jn hq;obtain ⟨b,oo,hia,cr⟩:=qH.cm (g:=vx) (λ_=>rfl) (h.1.mono hl1) hq rfl;obtain ⟨hN,hX⟩:=hu m hm;have hnx:Qz ((ms.take (k+1)).map Km)=Qz ((ms.take k).map Km)++(if qu m.2.abs=true then [(m.1,qC m.2.abs)] else []):=by
     rw[qz hq,jq];exact se _ _
    obtain ⟨to,n⟩:=m;dsimp only at hN hX hnx;rw[hia];refine Q.r ?_;(repeat (intro b1;refine Q.r ?_));refine S.cq (A:=qo M1) (args:=[n.val]) rfl (YF n M1 _ ((h.2 (to,n) hm).mono hl1) hN (hT.mono hl1) (hB.mono hl1) hX) ?_;rintro _ _ ⟨v,M2,rfl,hv,hvo,hvc,hl2,rfl⟩
    cases hR:qu n.abs with
    |true=>
     rw[jb hR] at hv;rw[jb hR] at hnx;rw[jb rfl];refine Q.r ?_;(repeat (intro b1;refine Q.r ?_));refine S.app rfl rfl (vA.sl vg.row zr zr) zr zo zo (λa7 c7=> ?_);refine Q.r ?_;rw[←hia];refine ⟨(k+1,a7,c7,ls++[⟨to,v⟩],M2),⟨rfl,rfl,jj some (by simp[jU]),rfl,trivial⟩,?_,⟨hlt,?_,λw hw=> ?_,hl1.trans hl2⟩,jr ms.length k hlt⟩
     ·dsimp only
      rw[qF,vE];exact eG
     ·dsimp only
      rw[hnx,jq,hls]
      show _++[(to,v.bs)]=_
      rw[hv]
     ·rcases jy.1 hw with hw|hw
      ·exact ⟨(hok w hw).1.mono hl2,(hok w hw).2⟩
      ·rw[ji.1 hw];exact ⟨hvo,hvc⟩
    |false=>
     rw[ja (by rw[hR];decide),jG] at hnx;rw[ja zd];refine Q.r ?_;rw[←hia];exact ⟨(k+1,a1,c1,ls,M2),zt,by exact eG,⟨hlt,by dsimp only;rw[hnx];exact hls,λw hw=>⟨(hok w hw).1.mono hl2,(hok w hw).2⟩,hl1.trans hl2⟩,jr ms.length k hlt⟩
   ·have hke:k=ms.length:=by omega
    subst hke;rw[jI] at hls;refine Q.r ?_;exact ⟨(a1,c1,ls,M1),zt,by exact eG,hls,hok,hl1⟩
  rintro ⟨a1,c1,ls,M1⟩ ⟨hls,hok,hl1⟩;dsimp only at hls hok hl1 ⊢;refine wm a1 (λM3 hl3 hs3=> ?_);refine Q.r ?_;exact N.t rfl (L':=wR c pj gv q false::qo M3::L) eG ⟨a1,c1,ls,M3,rfl,hls,⟨hs3,λl hl=>⟨(hok l hl).1.mono hl3,(hok l hl).2⟩⟩,hl1.trans hl3,rfl⟩
abbrev wG (g:Nat):Value:=.pointer (some ⟨g,0,none⟩)
abbrev Xq (g:Nat)(s d l:Int):HP:=pt g (cl [.int .i64 s,.int .i64 d,.int .u64 l,.slice none 0 0] 169)
theorem YL (s d l:Int)(L:HL)(s1:1≤s)(s2:s≤4)(h1:1≤d)(h2:d≤8):
  qh kY 32 [.int .i64 s,.int .i64 d,.int .u64 l] L (λr L'=>∃g,r=.tuple #[wG g,.int .i64 0]∧L'=Xq g s d l::L):=by
 refine qg Tryz.func32 rfl rfl rfl ?_;refine Q.r ?_;(repeat (intro b1;refine Q.r ?_));exact N.u rfl rfl (kZ _) ⟨_,rfl,rfl⟩
theorem gK (g:Nat)(s d l:Int)(L:HL):
  qh kY 51 [wG g] (Xq g s d l::L) (λr L'=>r=.slice none 0 0∧L'=Xq g s d l::L):=by
 refine qg Tryz.func51 rfl rfl rfl ?_;refine Q.r ?_;refine ql (σ:=Unit) (λ_=> [(11,.slice none 0 0),(12,.int .i64 (0:Nat)),(3,.slice none 0 0),(13,.int .i64 0)]) (λ_=>Xq g s d l::L) (λ_=>True) (λ_=>0) () zt eG trivial ?_;rintro _ _;have h0:¬(0:Int)<(0:Nat):=by omega
 refine Q.r ?_;exact N.t rfl (L':=Xq g s d l::L) eG ⟨rfl,rfl⟩
def doF (T:JZ)(j:JG)(pl:PG):Prop:=pl.rec_≠[]∧VP T (qt j) (vU pl.rec_)≠0
def JK (T:JZ)(j:JG)(pl:PG):JZ:=if pl.rec_=[] then T else Kd T (qt j) (vU pl.rec_)
def Y7 (j:JG)(pl:PG):JG:=xB (xB j pl.rec_) pl.notes
def sF (T:JZ)(j:JG)(dn:Bool)(pl:PG):Bool:=if pl.rec_=[] then dn else dn||(Kd T (qt j) (vU pl.rec_)).br
structure DoK (T:JZ)(j:JG)(pl:PG):Prop where
 w:WN j
 tl:j.tr.length≤1000
 dl:j.done.length≤50000
 nr:∀n∈pl.rec_,qu n=true∧xf n
 nn:∀n∈pl.notes,qu n=true∧xf n
 ni:∀n∈pl.inst,qu n=true∧xf n
 lr:pl.rec_.length≤1000
 ln:pl.notes.length≤1000
 li:pl.inst.length≤1000
 wr:pl.rec_≠[]→jDU T (qt j) (vU pl.rec_)
 k1:(qt j).length≤1048575
 sv:¬doF T j pl→24≤(JK T j pl).k→jFC (JK T j pl)∧(qt (Y7 j pl)).length≤1048575
open Classical in
noncomputable def lh (T:JZ)(j:JG)(pl:PG):JZ:=if doF T j pl then Kd T (qt j) (vU pl.rec_) else if 24≤(JK T j pl).k then yv (JK T j pl) (qt (Y7 j pl)) else JK T j pl
open Classical in
noncomputable def doJ (T:JZ)(j:JG)(pl:PG):JG:=if doF T j pl then xB j pl.inst else Y7 j pl
open Classical in
noncomputable def mA (T:JZ)(j:JG)(dn:Bool)(pl:PG):Bool:=if doF T j pl then dn||(Kd T (qt j) (vU pl.rec_)).br else if 24≤(JK T j pl).k then sF T j dn pl||(yv (JK T j pl) (qt (Y7 j pl))).br else sF T j dn pl
open Classical in
noncomputable def doM (T:JZ)(j:JG)(pl:PG):List (Int×NA):=if doF T j pl then pl.els else pl.mail
def doR (c pj:Nat)(gv:Value)(q p:Nat)(T:JZ)(j:JG)(dn:Bool)(ms:List (Int×NA))(M:OM)(L:HL)(r:Value)(L':HL):Prop:=
 ∃(a:OA) (cc:Nat) (ns:List (Int×NV)) (M':OM),r=.slice a ns.length cc∧ns.map Km=ms∧J9 M' a ns∧qU M M'∧L'=yW p q T M' (wR c pj gv q dn::qE M' pj j::L)
theorem pm {ns:List NV}{l:List NA}(e:ns.map NV.abs=l)(h:∀n∈l,qu n=true∧xf n):∀n∈ns,yF n.abs∧OkN n:=λn hn=>by
 have:=h n.abs (by rw[←e];exact jA hn);exact ⟨this.2.a,OkN.right this.1⟩
theorem Wc {α β:Type}{f:α→β}{ns:List α}{l:List β}(e:ns.map f=l):ns.length=l.length:=by rw[←e,jf]
theorem jCx (c pj:Nat)(gv:Value)(q p:Nat)(dn:Bool)(T:JZ)(j:JG)(pl:PG)(M:OM)(L:HL)
  (a1:OA) (c1:Nat) (rs:List NV) (a2:OA) (c2:Nat) (ns:List NV) (a3:OA) (c3:Nat) (ms:List (Int×NV)) (a4:OA) (c4:Nat) (is:List NV) (a5:OA) (c5:Nat) (es:List (Int×NV))
  (o1:yK M a1 rs) (o2:yK M a2 ns) (o3:J9 M a3 ms) (o4:yK M a4 is) (o5:J9 M a5 es) (e1:rs.map NV.abs=pl.rec_) (e2:ns.map NV.abs=pl.notes) (e3:ms.map Km=pl.mail) (e4:is.map NV.abs=pl.inst) (e5:es.map Km=pl.els)
  (hT:yE M) (hB:xg M) (hK:DoK T j pl):
  qh kY 37 [Ks c,.agg #[.slice a1 rs.length c1,.slice a2 ns.length c2,.slice a3 ms.length c3,.slice a4 is.length c4,.slice a5 es.length c5]] (yW p q T M (wR c pj gv q dn::qE M pj j::L))
   (doR c pj gv q p (lh T j pl) (doJ T j pl) (mA T j dn pl) (doM T j pl) M L):=by
 have l1:=Wc e1;have l2:=Wc e2;have l4:=Wc e4;have hlr:=hK.lr;have hln:=hK.ln;have hli:=hK.li;have htl:=hK.tl;have hdl:=hK.dl;refine qg Tryz.func37 rfl rfl rfl ?_
 by_cases hrec:pl.rec_=[]
 ·have hF:¬doF T j pl:=λh=>h.1 hrec
  have hT1:JK T j pl=T:=jb hrec;have hN1:sF T j dn pl=dn:=jb hrec;have hJ1:Y7 j pl=xB j pl.notes:=by unfold Y7;rw[hrec];rfl
  have hsv:=hK.sv hF;rw[hT1,hJ1] at hsv;have hYM:doM T j pl=pl.mail:=ja hF;have hYJ:doJ T j pl=xB j pl.notes:=by unfold doJ;rw[ja hF,hJ1]
  have hY1:24≤T.k→lh T j pl=yv T (qt (xB j pl.notes)):=λh=>by unfold lh;rw[ja hF,hT1,jb h,hJ1]
  have hY2:24≤T.k→mA T j dn pl=(dn||(yv T (qt (xB j pl.notes))).br):=λh=>by unfold mA;rw[ja hF,hT1,jb h,hJ1,hN1]
  have hY3:¬24≤T.k→lh T j pl=T:=λh=>by unfold lh;rw[ja hF,hT1,ja h]
  have hY4:¬24≤T.k→mA T j dn pl=dn:=λh=>by unfold mA;rw[ja hF,hT1,ja h,hN1]
  rw[hYM,hYJ];have hr0:rs.length=0:=by rw[l1,hrec];rfl
  have hok:WN j∧True:=⟨hK.w,trivial⟩;have hl0:=qU.refl M;refine Q.r ?_;(repeat (intro b1;refine Q.r ?_));revert b1;intro bp;refine qm (L':=wR c pj gv q dn::qE M pj j::qo M::yH q p T.n T.k T.br::qr p T.d::pt bp (cl [.slice a1 rs.length c1,.slice a2 ns.length c2,.slice a3 ms.length c3,.slice a4 is.length c4,.slice a5 es.length c5] 97)::L) eG ?_;refine S.cr rfl (xT c pj gv q dn j a2 c2 ns M _ (o2.mono hl0) (pm e2 hK.nn) hok.1 (hT.mono hl0) zo) ?_;rintro _ _ ⟨M5,hl5,rfl⟩;rw[e2];have hj2:=Xz (j:=j) (l:=pl.notes) hok.1 (λr hr=>(hK.nn r hr).2.a);have hl05:=hl0.trans hl5;generalize hJ2:xB j pl.notes=j2 at*;obtain ⟨h21,h22,h23,_⟩:=hj2;refine Q.r ?_;refine S.c1 (A:=yH q p T.n T.k T.br) rfl (YP q p _ _ _ _) ?_;rintro _ _ ⟨rfl,rfl⟩
  by_cases h24:24≤T.k
  ·obtain ⟨hSv,hp2⟩:=hsv h24
   have h24':(24:Int)≤T.k:=by omega
   refine Q.r ?_;refine vf (L':=wR c pj gv q dn::qE M5 pj j2::qo M5::yH q p T.n T.k T.br::qr p T.d::pt bp (cl [.slice a1 rs.length c1,.slice a2 ns.length c2,.slice a3 ms.length c3,.slice a4 is.length c4,.slice a5 es.length c5] 97)::L) eG ?_;refine Q.dgo [true,false,false,false,false,false] [8,9] [] [0,1,2,3,4,5,6,7,8,9] ?_;refine Q.rd ?_;refine D.e rfl rfl rfl ?_;refine S.cg pj rfl (yU M5 pj j2 _ h21.pb zo zo) ?_;rintro _ _ ⟨a8,c8,M6,rfl,hl6,rfl⟩;refine yJ a8 (λhc8=> ?_);refine qQ a8 (λM7 hl7 hs7=> ?_);refine vP pj hl7 ?_;refine Q.r ?_;refine Q.rd ?_;refine D.e rfl rfl rfl ?_;refine qm (L':=yW p q T M7 (qE M7 pj j2::pt bp (cl [.slice a1 rs.length c1,.slice a2 ns.length c2,.slice a3 ms.length c3,.slice a4 is.length c4,.slice a5 es.length c5] 97)::L)) eG ?_;refine S.cr rfl (Wn p q T a8 c8 (qt j2) M7 _ hSv.n hSv.key hSv.f hs7 (hB.mono (hl05.trans (hl6.trans hl7))) hc8 hp2 hSv.no hSv.old) ?_;rintro _ _ ⟨rfl,M8,hl8,rfl⟩;refine vP pj hl8 ?_;have hl08:=hl05.trans (hl6.trans (hl7.trans hl8));refine Q.r ?_;refine Q.rd ?_;rw[hY1 h24,hY2 h24];generalize yv T (qt j2)=T3 at*
   cases dn with
   |true=>
    refine Q.r ?_;exact N.t rfl (L':=yW p q T3 M8 (wR c pj gv q true::qE M8 pj j2::L)) eG ⟨a3,c3,ms,M8,rfl,e3,o3.mono hl08,hl08,rfl⟩
   |false=>
    refine Q.r ?_;refine S.c1 (A:=yH q p T3.n T3.k T3.br) rfl (yV q p _ _ _ _) ?_;rintro _ _ ⟨rfl,rfl⟩;refine Q.r ?_;exact N.t rfl (L':=yW p q T3 M8 (wR c pj gv q T3.br::qE M8 pj j2::L)) eG ⟨a3,c3,ms,M8,rfl,e3,o3.mono hl08,hl08,by rw[jR]⟩
  ·have h24':¬(24:Int)≤T.k:=by omega
   rw[hY3 h24,hY4 h24];refine Q.r ?_;exact N.t rfl (L':=yW p q T M5 (wR c pj gv q dn::qE M5 pj j2::L)) eG ⟨a3,c3,ms,M5,rfl,e3,o3.mono hl05,hl05,rfl⟩
 ·have hr0:0<rs.length:=by rw[l1];exact kA.2 hrec
  have hW:=hK.wr hrec;have hu1:∀n∈rs,qu n.abs=true∧xf n.abs:=λn hn=>hK.nr n.abs (by rw[←e1];exact jA hn)
  refine Q.r ?_;(repeat (intro b1;refine Q.r ?_));revert b1;intro bp;refine qm (L':=yW p q T M (wR c pj gv q dn::qE M pj j::pt bp (cl [.slice a1 rs.length c1,.slice a2 ns.length c2,.slice a3 ms.length c3,.slice a4 is.length c4,.slice a5 es.length c5] 97)::L)) eG ?_;rw[←e1] at hW;refine S.cr rfl (Qa c pj gv q p dn T j a1 c1 rs M _ o1 hu1 hT hB hW hK.w.pb zo zo hK.k1 zo) ?_;rintro _ _ ⟨rfl,M1,hl1,rfl⟩;rw[e1]
  by_cases hce:VP T (qt j) (vU pl.rec_)=0
  ·have hF:¬doF T j pl:=λh=>h.2 hce
   have hT1:JK T j pl=Kd T (qt j) (vU pl.rec_):=ja hrec;have hN1:sF T j dn pl=(dn||(Kd T (qt j) (vU pl.rec_)).br):=ja hrec;have hsv:=hK.sv hF;have hYM:doM T j pl=pl.mail:=ja hF;have hYJ:doJ T j pl=xB (xB j pl.rec_) pl.notes:=ja hF;have hY1:24≤(JK T j pl).k→lh T j pl=yv (JK T j pl) (qt (Y7 j pl)):=λh=>by unfold lh;rw[ja hF,jb h]
   have hY2:24≤(JK T j pl).k→mA T j dn pl=(sF T j dn pl||(yv (JK T j pl) (qt (Y7 j pl))).br):=λh=>by unfold mA;rw[ja hF,jb h]
   have hY3:¬24≤(JK T j pl).k→lh T j pl=JK T j pl:=λh=>by unfold lh;rw[ja hF,ja h]
   have hY4:¬24≤(JK T j pl).k→mA T j dn pl=sF T j dn pl:=λh=>by unfold mA;rw[ja hF,ja h]
   rw[hYM,hYJ];have hJ1:Y7 j pl=xB (xB j pl.rec_) pl.notes:=rfl;rw[hJ1] at hsv hY1 hY2;rw[hT1] at hsv hY1 hY2 hY3 hY4;rw[hN1] at hY2 hY4;rw[hce];generalize (dn||(Kd T (qt j) (vU pl.rec_)).br)=d1 at*;generalize Kd T (qt j) (vU pl.rec_)=T1 at*;refine Q.r ?_;refine qm (L':=wR c pj gv q d1::qE M1 pj j::qo M1::yH q p T1.n T1.k T1.br::qr p T1.d::pt bp (cl [.slice a1 rs.length c1,.slice a2 ns.length c2,.slice a3 ms.length c3,.slice a4 is.length c4,.slice a5 es.length c5] 97)::L) eG ?_;refine S.cr rfl (xT c pj gv q d1 j a1 c1 rs M1 _ (o1.mono hl1) (pm e1 hK.nr) hK.w (hT.mono hl1) zo) ?_;rintro _ _ ⟨M2,hl2,rfl⟩;rw[e1];have hj1:=Xz (j:=j) (l:=pl.rec_) hK.w (λr hr=>(hK.nr r hr).2.a);have hl02:=hl1.trans hl2;generalize xB j pl.rec_=j1 at*;obtain ⟨h11,h12,h13,_⟩:=hj1;have hok:WN j1∧True:=⟨h11,trivial⟩;refine Q.r ?_;refine qm (L':=wR c pj gv q d1::qE M2 pj j1::qo M2::yH q p T1.n T1.k T1.br::qr p T1.d::pt bp (cl [.slice a1 rs.length c1,.slice a2 ns.length c2,.slice a3 ms.length c3,.slice a4 is.length c4,.slice a5 es.length c5] 97)::L) eG ?_;refine S.cr rfl (xT c pj gv q d1 j1 a2 c2 ns M2 _ (o2.mono hl02) (pm e2 hK.nn) hok.1 (hT.mono hl02) zo) ?_;rintro _ _ ⟨M5,hl5,rfl⟩;rw[e2];have hj2:=Xz (j:=j1) (l:=pl.notes) hok.1 (λr hr=>(hK.nn r hr).2.a);have hl05:=hl02.trans hl5;generalize hJ2:xB j1 pl.notes=j2 at*;obtain ⟨h21,h22,h23,_⟩:=hj2;refine Q.r ?_;refine S.c1 (A:=yH q p T1.n T1.k T1.br) rfl (YP q p _ _ _ _) ?_;rintro _ _ ⟨rfl,rfl⟩
   by_cases h24:24≤T1.k
   ·obtain ⟨hSv,hp2⟩:=hsv h24
    have h24':(24:Int)≤T1.k:=by omega
    refine Q.r ?_;refine vf (L':=wR c pj gv q d1::qE M5 pj j2::qo M5::yH q p T1.n T1.k T1.br::qr p T1.d::pt bp (cl [.slice a1 rs.length c1,.slice a2 ns.length c2,.slice a3 ms.length c3,.slice a4 is.length c4,.slice a5 es.length c5] 97)::L) eG ?_;refine Q.dgo [true,false,false,false,false,false] [8,9] [] [0,1,2,3,4,5,6,7,8,9] ?_;refine Q.rd ?_;refine D.e rfl rfl rfl ?_;refine S.cg pj rfl (yU M5 pj j2 _ h21.pb zo zo) ?_;rintro _ _ ⟨a8,c8,M6,rfl,hl6,rfl⟩;refine yJ a8 (λhc8=> ?_);refine qQ a8 (λM7 hl7 hs7=> ?_);refine vP pj hl7 ?_;refine Q.r ?_;refine Q.rd ?_;refine D.e rfl rfl rfl ?_;refine qm (L':=yW p q T1 M7 (qE M7 pj j2::pt bp (cl [.slice a1 rs.length c1,.slice a2 ns.length c2,.slice a3 ms.length c3,.slice a4 is.length c4,.slice a5 es.length c5] 97)::L)) eG ?_;refine S.cr rfl (Wn p q T1 a8 c8 (qt j2) M7 _ hSv.n hSv.key hSv.f hs7 (hB.mono (hl05.trans (hl6.trans hl7))) hc8 hp2 hSv.no hSv.old) ?_;rintro _ _ ⟨rfl,M8,hl8,rfl⟩;refine vP pj hl8 ?_;have hl08:=hl05.trans (hl6.trans (hl7.trans hl8));refine Q.r ?_;refine Q.rd ?_;rw[hY1 h24,hY2 h24];generalize yv T1 (qt j2)=T3 at*
    cases d1 with
    |true=>
     refine Q.r ?_;exact N.t rfl (L':=yW p q T3 M8 (wR c pj gv q true::qE M8 pj j2::L)) eG ⟨a3,c3,ms,M8,rfl,e3,o3.mono hl08,hl08,rfl⟩
    |false=>
     refine Q.r ?_;refine S.c1 (A:=yH q p T3.n T3.k T3.br) rfl (yV q p _ _ _ _) ?_;rintro _ _ ⟨rfl,rfl⟩;refine Q.r ?_;exact N.t rfl (L':=yW p q T3 M8 (wR c pj gv q T3.br::qE M8 pj j2::L)) eG ⟨a3,c3,ms,M8,rfl,e3,o3.mono hl08,hl08,by rw[jR]⟩
   ·have h24':¬(24:Int)≤T1.k:=by omega
    rw[hY3 h24,hY4 h24];refine Q.r ?_;exact N.t rfl (L':=yW p q T1 M5 (wR c pj gv q d1::qE M5 pj j2::L)) eG ⟨a3,c3,ms,M5,rfl,e3,o3.mono hl05,hl05,rfl⟩
  ·have hF:doF T j pl:=⟨hrec,hce⟩
   have hY1:lh T j pl=Kd T (qt j) (vU pl.rec_):=jb hF;have hY2:doJ T j pl=xB j pl.inst:=jb hF;have hY3:mA T j dn pl=(dn||(Kd T (qt j) (vU pl.rec_)).br):=jb hF;have hY4:doM T j pl=pl.els:=jb hF;rw[hY1,hY2,hY3,hY4];have hce':decide (¬VP T (qt j) (vU pl.rec_)=0)=true:=jo hce;generalize (dn||(Kd T (qt j) (vU pl.rec_)).br)=d1 at*;generalize Kd T (qt j) (vU pl.rec_)=T1 at*;generalize VP T (qt j) (vU pl.rec_)=E at*;refine Q.r ?_;refine qm (L':=wR c pj gv q d1::qE M1 pj j::qo M1::yH q p T1.n T1.k T1.br::qr p T1.d::pt bp (cl [.slice a1 rs.length c1,.slice a2 ns.length c2,.slice a3 ms.length c3,.slice a4 is.length c4,.slice a5 es.length c5] 97)::L) eG ?_;refine S.cr rfl (xT c pj gv q d1 j a4 c4 is M1 _ (o4.mono hl1) (pm e4 hK.ni) hK.w (hT.mono hl1) zo) ?_;rintro _ _ ⟨M2,hl2,rfl⟩;rw[e4];have hl02:=hl1.trans hl2;refine Q.r ?_;exact N.t rfl (L':=yW p q T1 M2 (wR c pj gv q d1::qE M2 pj (xB j pl.inst)::L)) eG ⟨a5,c5,es,M2,rfl,e5,o5.mono hl02,hl02,rfl⟩
def Vq :JG→List (List UInt8)→Option JG
 |j,[]=>some j
 |j,r::rs=>match YY r with
  |none=>none
  |some n=>if (n.kind=16∨n.kind=17∨n.kind=18)∧vm j n=0 then Vq (vC j n) rs else none
open Classical in
noncomputable def VX (j:JG)(s:List UInt8)(rs:List (List UInt8)):Int:=if Zq j s≠0 then 4 else if Vq (WX j s) rs=none then 4 else 0
theorem jEH {p:List UInt8}(h:YY p=none):rf p≠0:=by
 unfold rf
 by_cases h1:hU p≠0
 ·rw[jb h1];exact h1
 ·rw[ja h1,jb h];decide
theorem jAz {p:List UInt8}{n:NA}(h:YY p=some n):rf p=0:=by
 have h1 : hU p = 0 := ly.2 (by
  unfold YY at h
  split at h
  ·next hc=>exact ⟨hc.1,hc.2.1⟩
  ·cases h)
 unfold rf;rw[ja (by simp[h1]),ja (by rw[h];simp)]
theorem Qq (j:JG)(n:NA):(vC j n).shards=j.shards∧(vC j n).dim=j.dim:=by
 unfold vC
 repeat' split
 all_goals exact ⟨rfl,rfl⟩
theorem YS (pj:Nat)(j:JG)(s:YB)(a:OA)(c:Nat)(vs:List YB)(M:OM)(L:HL)(hs:wc M s)(h:qH M a vs.length 1 (vs.flatMap YB.cells))(hok:Jj M vs)(hT:yE M)(hB:xg M)
  (hd1:1≤j.dim) (hd2:j.dim≤8) (hb:s.bs.length≤100000) (htj:j.tr.length≤100000) (hdj:j.done.length≤100000) (hW:Zq j s.bs=0→WN (WX j s.bs)) (hvb:∀v∈vs,v.bs.length≤10000000) (hvl:vs.length≤1000000):
  qh kY 28 [vI pj,.agg #[s.val,.slice a vs.length c]] (qE M pj j::qo M::L) (λr L'=>r=.int .i64 (VX j s.bs (vs.map YB.bs))∧∃M' j',qU M M'∧(VX j s.bs (vs.map YB.bs)=0→Vq (WX j s.bs) (vs.map YB.bs)=some j'∧WN j'∧j'.shards=(WX j s.bs).shards∧j'.dim=(WX j s.bs).dim)∧L'=qE M' pj j'::qo M'::L):=by
 refine qg Tryz.func28 rfl rfl rfl ?_;refine Q.r ?_;(repeat (intro b1;refine Q.r ?_));refine S.cg pj rfl (dz M pj j s.a s.c s.bs _ hs hd1 hd2 hb htj hdj) ?_;rintro _ _ ⟨rfl,M1,hl1,rfl⟩
 by_cases hu0:Zq j s.bs=0
 case neg=>
  have hE:VX j s.bs (vs.map YB.bs)=4:=jb hu0;have hu0':decide (¬Zq j s.bs=0)=true:=jo hu0;generalize Zq j s.bs=E at*;refine Q.r ?_;exact N.t rfl (L':=qE M1 pj (WX j s.bs)::qo M1::L) eG ⟨by rw[hE],M1,_,hl1,λh=>absurd h (by rw[hE];decide),rfl⟩
 have hW1:=hW hu0;rw[hu0];refine Q.r ?_;refine ql (σ:=Nat×(OM)×JG) (λx=> [(0,vI pj),(15,.slice a vs.length c),(16,.int .i64 vs.length),(17,.int .i64 x.1)])
  (λx=>qE x.2.1 pj x.2.2::qo x.2.1::L) (λx=>x.1≤vs.length∧qU M x.2.1∧WN x.2.2∧Vq (WX j s.bs) (vs.map YB.bs)=Vq x.2.2 ((vs.map YB.bs).drop x.1)∧(x.2.2.shards=(WX j s.bs).shards∧x.2.2.dim=(WX j s.bs).dim)) (λx=>vs.length - x.1) (0,M1,WX j s.bs) zt eG ⟨jw _,hl1,hW1,rfl,rfl,rfl⟩ ?_
 rintro ⟨k,M5,j1⟩ ⟨hk,hl05,hw1,hld,hsd⟩;dsimp only at hk hl05 hw1 hld hsd ⊢
 by_cases hlt:k<vs.length
 ·obtain ⟨v,hq⟩:=qw hlt
  have hm:=jn hq;obtain ⟨b,oo,hia,cr⟩:=qH.cm (g:=YB.cells) (λ_=>rfl) (h.mono hl05) hq rfl;have hvo:=hok v hm;obtain ⟨rest,hrest⟩:∃r,r=(vs.map YB.bs).drop (k+1):=⟨_,rfl⟩;have hdr:(vs.map YB.bs).drop k=v.bs::rest:=by
   rw[hrest,List.drop_eq_getElem_cons (by rw[jf];exact hlt)]
   congr 1
   rw[List.getElem_map];exact jj YB.bs (jm.1 hq).2
  rw[hia];refine Q.r ?_;refine S.cq (A:=qo M5) (args:=[v.val]) rfl (Kj v.a v.c v.bs M5 _ (hvo.1.mono hl05) hvo.2 (hT.mono hl05) (hB.mono hl05) (hvb v hm)) ?_;rintro _ _ ⟨nv,M2,rfl,hna,hno,hON,hl52,rfl⟩;refine vP pj hl52 ?_;have hl02:=hl05.trans hl52
  cases hun:YY v.bs with
  |none=>
   have hc:=jEH hun;have hnx:Vq j1 (v.bs::rest)=none:=by rw[Vq,hun]
   have hE:VX j s.bs (vs.map YB.bs)=4:=by unfold VX;rw[ja (by simp[hu0]),hld,hdr,hnx,jb rfl]
   have hc':decide (¬rf v.bs=0)=true:=jo hc;generalize rf v.bs=E at*;refine Q.r ?_;(repeat (intro b1;refine Q.r ?_));exact N.t rfl (L':=qE M2 pj j1::qo M2::L) eG ⟨by rw[hE],M2,_,hl02,λh=>absurd h (by rw[hE];decide),rfl⟩
  |some n=>
   rw[hun] at hna;have hna:nv.abs=n:=hna;subst hna;have hua:=(jD6 hun).2.a;rw[jAz hun]
   by_cases h16:nv.kind=16
   ·have hK:nv.abs.kind=16∨nv.abs.kind=17∨nv.abs.kind=18:=.inl h16
    refine Q.r ?_;(repeat (intro b1;refine Q.r ?_));refine S.cg pj (args:=[vI pj,nv.val]) rfl (Jg nv M2 pj j1 _ hw1.g hno hON (hT.mono hl02) hua.nv (by have:=hua.txn.2;show nv.abs.txn<_;omega)) ?_;rintro _ _ ⟨M3,rfl,hl3,rfl⟩;have hl03:=hl02.trans hl3
    by_cases hA:vm j1 nv.abs=0
    ·rw[hA]
     have hnx:Vq j1 (v.bs::rest)=Vq (vC j1 nv.abs) rest:=by rw[Vq,hun];exact jb ⟨hK,hA⟩
     refine Q.r ?_;rw[←hia];exact ⟨(k+1,M3,vC j1 nv.abs),zt,by exact eG,⟨hlt,hl03,hw1.app hua,hld.trans (by rw[hdr];dsimp only;rw[←hrest];exact hnx),(Qq j1 nv.abs).1.trans hsd.1,(Qq j1 nv.abs).2.trans hsd.2⟩,jr vs.length k hlt⟩
    ·have hA':decide (¬vm j1 nv.abs=0)=true:=jo hA
     have hnx:Vq j1 (v.bs::rest)=none:=by rw[Vq,hun];exact ja λh=>hA h.2
     have hE:VX j s.bs (vs.map YB.bs)=4:=by unfold VX;rw[ja (by simp[hu0]),hld,hdr,hnx,jb rfl]
     generalize vm j1 nv.abs=E at*;refine Q.r ?_;exact N.t rfl (L':=qE M3 pj (vC j1 nv.abs)::qo M3::L) eG ⟨by rw[hE],M3,_,hl03,λh=>absurd h (by rw[hE];decide),rfl⟩
   by_cases h17:nv.kind=17
   ·have hK:nv.abs.kind=16∨nv.abs.kind=17∨nv.abs.kind=18:=.inr (.inl h17)
    refine Q.r ?_;(repeat (intro b1;refine Q.r ?_));refine S.cg pj (args:=[vI pj,nv.val]) rfl (Jg nv M2 pj j1 _ hw1.g hno hON (hT.mono hl02) hua.nv (by have:=hua.txn.2;show nv.abs.txn<_;omega)) ?_;rintro _ _ ⟨M3,rfl,hl3,rfl⟩;have hl03:=hl02.trans hl3
    by_cases hA:vm j1 nv.abs=0
    ·rw[hA]
     have hnx:Vq j1 (v.bs::rest)=Vq (vC j1 nv.abs) rest:=by rw[Vq,hun];exact jb ⟨hK,hA⟩
     refine Q.r ?_;rw[←hia];exact ⟨(k+1,M3,vC j1 nv.abs),zt,by exact eG,⟨hlt,hl03,hw1.app hua,hld.trans (by rw[hdr];dsimp only;rw[←hrest];exact hnx),(Qq j1 nv.abs).1.trans hsd.1,(Qq j1 nv.abs).2.trans hsd.2⟩,jr vs.length k hlt⟩
    ·have hA':decide (¬vm j1 nv.abs=0)=true:=jo hA
     have hnx:Vq j1 (v.bs::rest)=none:=by rw[Vq,hun];exact ja λh=>hA h.2
     have hE:VX j s.bs (vs.map YB.bs)=4:=by unfold VX;rw[ja (by simp[hu0]),hld,hdr,hnx,jb rfl]
     generalize vm j1 nv.abs=E at*;refine Q.r ?_;exact N.t rfl (L':=qE M3 pj (vC j1 nv.abs)::qo M3::L) eG ⟨by rw[hE],M3,_,hl03,λh=>absurd h (by rw[hE];decide),rfl⟩
   by_cases h18:nv.kind=18
   ·have hK:nv.abs.kind=16∨nv.abs.kind=17∨nv.abs.kind=18:=.inr (.inr h18)
    refine Q.r ?_;(repeat (intro b1;refine Q.r ?_));refine S.cg pj (args:=[vI pj,nv.val]) rfl (Jg nv M2 pj j1 _ hw1.g hno hON (hT.mono hl02) hua.nv (by have:=hua.txn.2;show nv.abs.txn<_;omega)) ?_;rintro _ _ ⟨M3,rfl,hl3,rfl⟩;have hl03:=hl02.trans hl3
    by_cases hA:vm j1 nv.abs=0
    ·rw[hA]
     have hnx:Vq j1 (v.bs::rest)=Vq (vC j1 nv.abs) rest:=by rw[Vq,hun];exact jb ⟨hK,hA⟩
     refine Q.r ?_;rw[←hia];exact ⟨(k+1,M3,vC j1 nv.abs),zt,by exact eG,⟨hlt,hl03,hw1.app hua,hld.trans (by rw[hdr];dsimp only;rw[←hrest];exact hnx),(Qq j1 nv.abs).1.trans hsd.1,(Qq j1 nv.abs).2.trans hsd.2⟩,jr vs.length k hlt⟩
    ·have hA':decide (¬vm j1 nv.abs=0)=true:=jo hA
     have hnx:Vq j1 (v.bs::rest)=none:=by rw[Vq,hun];exact ja λh=>hA h.2
     have hE:VX j s.bs (vs.map YB.bs)=4:=by unfold VX;rw[ja (by simp[hu0]),hld,hdr,hnx,jb rfl]
     generalize vm j1 nv.abs=E at*;refine Q.r ?_;exact N.t rfl (L':=qE M3 pj (vC j1 nv.abs)::qo M3::L) eG ⟨by rw[hE],M3,_,hl03,λh=>absurd h (by rw[hE];decide),rfl⟩
   have hnx:Vq j1 (v.bs::rest)=none:=by
    rw[Vq,hun];refine ja ?_;rintro ⟨hK,_⟩;have hK:nv.kind=16∨nv.kind=17∨nv.kind=18:=hK;omega
   have hE:VX j s.bs (vs.map YB.bs)=4:=by unfold VX;rw[ja (by simp[hu0]),hld,hdr,hnx,jb rfl]
   refine Q.r ?_;(repeat (intro b1;refine Q.r ?_));exact N.t rfl (L':=qE M2 pj j1::qo M2::L) eG ⟨by rw[hE],M2,_,hl02,λh=>absurd h (by rw[hE];decide),rfl⟩
 ·have hke:k=vs.length:=by omega
  subst hke;rw[List.drop_of_length_le (by rw[jf];exact jz _)] at hld;have hE:VX j s.bs (vs.map YB.bs)=0:=by unfold VX;rw[ja (by simp[hu0]),hld,ja (by simp[Vq])]
  refine Q.r ?_;exact N.t rfl (L':=qE M5 pj j1::qo M5::L) eG ⟨by rw[hE],M5,_,hl05,λ_=>⟨hld,hw1,hsd⟩,rfl⟩
theorem K8 (M:OM)(p:Nat)(j:JG)(L:HL):
  qh kY 29 [vI p] (qE M p j::L) (λr L'=>r=.int .u64 j.epoch∧L'=qE M p j::L):=by
 refine wC λmt md ts hq=> ?_
 refine qg Tryz.func29 rfl rfl rfl ?_;refine Q.r ?_;exact N.t rfl (qR hq) ⟨rfl,rfl⟩
theorem p8 (c pj:Nat)(gv:Value)(q:Nat)(dn:Bool)(L:HL):qh kY 47 [Ks c] (wR c pj gv q dn::L) (λr L'=>r=vI pj∧L'=wR c pj gv q dn::L):=by
 refine qg Tryz.func47 rfl rfl rfl ?_;refine Q.r ?_;exact N.t rfl (kZ _) ⟨rfl,rfl⟩
theorem dG (L:HL):qh kY 47 [wD] L (λr L'=>r=wD∧L'=L):=by
 refine qg Tryz.func47 rfl rfl rfl ?_;refine Q.r ?_;exact N.t rfl (kZ _) ⟨rfl,rfl⟩
theorem Jh (c pj:Nat)(gv:Value)(q:Nat)(dn:Bool)(M:OM)(j:JG)(L:HL):qh kY 19 [Ks c] (wR c pj gv q dn::qE M pj j::L) (λr L'=>r=.int .u64 j.epoch∧L'=wR c pj gv q dn::qE M pj j::L):=by
 refine qg Tryz.func19 rfl rfl rfl ?_;refine Q.r ?_;refine S.c1 (A:=wR c pj gv q dn) rfl (p8 c pj gv q dn _) ?_;rintro _ _ ⟨rfl,rfl⟩;refine S.cgn pj rfl (K8 M pj j _) ?_;rintro _ _ ⟨rfl,rfl⟩;refine Q.r ?_;exact N.t rfl eG ⟨rfl,rfl⟩
theorem nJ (c pj:Nat)(gv:Value)(q:Nat)(dn:Bool)(M:OM)(j:JG)(t:Int)(L:HL):qh kY 11 [Ks c,.int .u64 t] (wR c pj gv q dn::qE M pj j::L) (λr L'=>r=.tuple #[.int .u64 ((qJ j.done t).getD 0),.bool (qJ j.done t).isSome]∧L'=wR c pj gv q dn::qE M pj j::L):=by
 refine qg Tryz.func11 rfl rfl rfl ?_;refine Q.r ?_;refine S.c1 (A:=wR c pj gv q dn) rfl (p8 c pj gv q dn _) ?_;rintro _ _ ⟨rfl,rfl⟩;refine Q.r ?_;refine S.cgn pj rfl (nq M pj j t _) ?_;rintro _ _ ⟨rfl,rfl⟩;refine Q.r ?_;exact N.u rfl rfl eG ⟨rfl,rfl⟩
theorem WN0 {s d:Int}(h1:1≤d)(h2:d≤8):WN (ww s d):=⟨WG.zero h1 h2,λ_ h=>(by cases h),λ_ h=>(by cases h)⟩
theorem VB (s d:Int):qt (ww s d)=[0,0,0,0]:=by kernel_rfl
def mK (s dim:Int)(d:DK):DK:=if d.fs.length=0 then foS d (qt (ww s dim)) else d
def JN (s dim:Int)(d:DK):Int:=if d.fs.length=0 then foE d (qt (ww s dim)) else 0
def WJ (d:DK):List UInt8:=(la d).getD []
noncomputable def coJ (s dim:Int)(d:DK):Option JG:=Vq (WX (ww s dim) (WJ d)) (Vo d)
abbrev Vc (d:DK):JZ:=⟨yj d,fw d,(Vo d).length,false⟩
structure OpK (s dim:Int)(d:DK):Prop where
 bl:(WJ d).length≤100000
 rl:∀r∈Vo d,r.length≤10000000
 rn:(Vo d).length≤1000000
 wn:Zq (ww s dim) (WJ d)=0→WN (WX (ww s dim) (WJ d))
 j:∀j,VX (ww s dim) (WJ d) (Vo d)=0→coJ s dim d=some j→j.epoch+1≤1099511627776∧j.tr.length≤1000∧j.done.length≤50000∧(qt j).length≤1048575∧jDU (Vc d) (qt j) [qC (qv (j.epoch+1))]
structure OpH (s dim:Int)(d:DK):Prop where
 g:∀n∈qI d,fR n
 r:xU d=0→OpK s dim d
def jHA (s dim:Int)(d0 d:DK)(e:Int)(d':DK):Prop:=
 (JN s dim d0≠0∧e=JN s dim d0∧d'=d)∨(JN s dim d0=0∧xU d≠0∧e=xU d∧d'=yj d)∨(JN s dim d0=0∧xU d=0∧VX (ww s dim) (WJ d) (Vo d)≠0∧e=4∧d'=yj d)∨
 (JN s dim d0=0∧xU d=0∧VX (ww s dim) (WJ d) (Vo d)=0∧∃j,coJ s dim d=some j∧VP (Vc d) (qt j) [qC (qv (j.epoch+1))]≠0∧e=VP (Vc d) (qt j) [qC (qv (j.epoch+1))]∧d'=(Kd (Vc d) (qt j) [qC (qv (j.epoch+1))]).d)
def Za (p:Nat)(s dim:Int)(d0 d:DK)(M:OM)(L:HL)(r:Value)(L':HL):Prop:=
 ∃ M',qU M M' ∧ ((∃ e d',e ≠ 0 ∧ jHA s dim d0 d e d' ∧ r = .tuple #[wD,.int .i64 e] ∧ L' = qr p d' :: qo M' :: L) ∨
  (∃ j c pj q g x,JN s dim d0 = 0 ∧ xU d = 0 ∧ VX (ww s dim) (WJ d) (Vo d) = 0 ∧ coJ s dim d = some j ∧ WN j ∧ j.shards = s ∧ j.dim = dim ∧ VP (Vc d) (qt j) [qC (qv (j.epoch + 1))] = 0 ∧ r = .tuple #[Ks c,.int .i64 0] ∧
   L'=yW p q (Kd (Vc d) (qt j) [qC (qv (j.epoch+1))]) M' (wR c pj (wG g) q (Kd (Vc d) (qt j) [qC (qv (j.epoch+1))]).br::qE M' pj (vC j (qv (j.epoch+1)))::Xq g s dim x::L)))
theorem jAx (s dim:Int)(b:List UInt8):(WX (ww s dim) b).shards=s∧(WX (ww s dim) b).dim=dim:=by
 unfold WX
 split
 ·exact ⟨rfl,rfl⟩
 ·exact ⟨rfl,rfl⟩
theorem yQ {m:Int}(h0:0≤m)(h1:m≤1099511627776):qu (qv m)=true∧xf (qv m):=by
 have z:(0:Int)≤18446744073709551615:=by decide
 have z9:(0:Int)≤9223372036854775807:=by decide
 refine ⟨?_,⟨⟨⟨by show (0:Int)≤16;decide,by show (16:Int)≤255;decide⟩,⟨ki _,z⟩,⟨ki _,z⟩,⟨ki _,z⟩,⟨ki _,z⟩,⟨h0,by show m≤_;omega⟩,⟨ki _,z⟩,⟨ki _,z⟩,z9,z9,z9,z9⟩,(λ_ h=>by cases h),(λ_ h=>by cases h)⟩⟩;unfold qu wQ NA.bits qv NA.zero xu;have hm:¬(1099511627776<max (max 0 0) m):=by omega
 dsimp only;simp only[hm]
 by_cases h0:0<m<;>simp[h0,List.zipIdx,fldN,wL]<;>decide
theorem YR (p:Nat)(s dim:Int)(d:DK)(M:OM)(L:HL)(s1:1≤s)(s2:s≤4)(h1:1≤dim)(h2:dim≤8)(hT:yE M)(hB:xg M)(hE:Vm M)(hH:JN s dim d=0→OpH s dim (mK s dim d)):
  qh kY 7 [qK p,.int .i64 s,.int .i64 dim] (qr p d::qo M::L) (Za p s dim d (mK s dim d) M L):=by
 have hw0:WN (ww s dim):=WN0 h1 h2;have hp0:=VB s dim;have hpl:(qt (ww s dim)).length≤1048575:=by rw[hp0];decide
 refine qg Tryz.func7 rfl rfl rfl ?_;refine Q.r ?_;refine S.cr rfl (Qt M s dim _ s1 s2 h1 h2) ?_;rintro _ _ ⟨pj,rfl,rfl⟩;refine Q.r ?_;refine S.ckm p rfl (zJ p d M _) ?_;rintro _ _ ⟨a1,c1,M1,rfl,hs1,hc1,hl1,rfl⟩;refine vP pj hl1 ?_
 by_cases h0:d.fs.length=0
 ·have e1:JN s dim d=foE d (qt (ww s dim)):=jb h0
  have e2:mK s dim d=foS d (qt (ww s dim)):=jb h0;rw[h0];refine Q.r ?_;refine S.cg pj rfl (yU M1 pj (ww s dim) _ hw0.pb (jw _) (jw _)) ?_;rintro _ _ ⟨a2,c2,M2,rfl,hl2,rfl⟩;refine yJ a2 (λhc2=> ?_);refine qQ a2 (λM3 hl3 hs3=> ?_);refine vP pj hl3 ?_;refine S.ckm p rfl (gR p d a2 c2 (qt (ww s dim)) M3 _ hs3 (hB.mono (hl1.trans (hl2.trans hl3))) hc2 hpl) ?_;rintro _ _ ⟨rfl,M4,hl4,rfl⟩;refine vP pj hl4 ?_;have hl04:=hl1.trans (hl2.trans (hl3.trans hl4));rw[←e1,←e2]
  by_cases hce:JN s dim d=0
  case neg=>
   have hce':decide (¬JN s dim d=0)=true:=jo hce;have fin:∀L',L'=qr p (mK s dim d)::qo M4::L→Za p s dim d (mK s dim d) M L (.tuple #[wD,.int .i64 (JN s dim d)]) L':=λL' e=>⟨M4,hl04,.inl ⟨_,_,hce,.inl ⟨hce,rfl,rfl⟩,rfl,e⟩⟩
   generalize JN s dim d=E at*;refine Q.r ?_;exact N.u rfl rfl (L':=qr p (mK s dim d)::qo M4::L) eG (fin _ rfl)
  have hO:=hH hce;clear hH;generalize mK s dim d=d1 at*;rw[hce];refine Q.r ?_;refine S.ckm p rfl (Z9 p d1 M4 _ (hE.mono hl04) (hB.mono hl04) hO.g) ?_;rintro _ _ ⟨M5,hl5,hop⟩;have hl05:=hl04.trans hl5
  rcases hop with ⟨he,rfl,rfl⟩|⟨he,q,sv,a,c,vs,rfl,hsv,hsvo,hsvc,hvs,hvo,hsl,hvc,rfl⟩
  ·have fin:∀L',L'=qr p (yj d1)::qo M5::L→Za p s dim d d1 M L (.tuple #[wD,.int .i64 (xU d1)]) L':=λL' e=>⟨M5,hl05,.inl ⟨_,_,he,.inr (.inl ⟨hce,he,rfl,rfl⟩),rfl,e⟩⟩
   have he':decide (¬xU d1=0)=true:=jo he;generalize xU d1=E at*;refine Q.r ?_;(repeat (intro b1;refine Q.r ?_));exact N.u rfl rfl (L':=qr p (yj d1)::qo M5::L) eG (fin _ rfl)
  refine vP pj hl5 ?_;have hcb:WJ d1=sv.bs:=by unfold WJ;rw[←hsv];rfl
  have hbl:=(hO.r he).bl;have hrl:=(hO.r he).rl;have hrn:=(hO.r he).rn;have hwn:=(hO.r he).wn;rw[hcb] at hbl hwn;rw[←hvs] at hrl hrn;rw[jf] at hrn;refine Q.r ?_;(repeat (intro b1;refine Q.r ?_));refine S.cg pj (args:=[vI pj,.agg #[sv.val,.slice a vs.length c]]) rfl (YS pj (ww s dim) sv a c vs M5 _ hsvo hsl hvo (hT.mono hl05) (hB.mono hl05) h1 h2 hbl (jw _) (jw _) hwn (λv hv=>hrl v.bs (jA hv)) hrn) ?_;rintro _ _ ⟨rfl,M6,j1,hl6,hld,rfl⟩;have hl06:=hl05.trans hl6;rw[hvs,←hcb] at hld ⊢
  by_cases hlo:VX (ww s dim) (WJ d1) (Vo d1)=0
  case neg=>
   have h4:VX (ww s dim) (WJ d1) (Vo d1)=4:=by
    unfold VX at hlo ⊢
    by_cases h:Zq (ww s dim) (WJ d1)≠0
    ·rw[jb h]
    ·rw[ja h] at hlo ⊢
     by_cases h3:Vq (WX (ww s dim) (WJ d1)) (Vo d1)=none
     ·rw[jb h3]
     ·rw[ja h3] at hlo;exact absurd rfl hlo
   have fin:∀L',L'=qr p (yj d1)::qo M6::L→Za p s dim d d1 M L (.tuple #[wD,.int .i64 4]) L':=λL' e=>⟨M6,hl06,.inl ⟨_,_,by decide,.inr (.inr (.inl ⟨hce,he,hlo,rfl,rfl⟩)),rfl,e⟩⟩
   rw[h4];refine Q.r ?_;exact N.u rfl rfl (L':=qr p (yj d1)::qo M6::L) eG (fin _ rfl)
  obtain ⟨hld,hw1,hsd1,hsd2⟩:=hld hlo;obtain ⟨u1,u2⟩:=jAx s dim (WJ d1);rw[u1] at hsd1;rw[u2] at hsd2;obtain ⟨hj1,hj2,hj3,hj4,hj5⟩:=(hO.r he).j j1 hlo hld;have he0:=hw1.g.b.e0;obtain ⟨hrt,hnx⟩:=yQ (m:=j1.epoch+1) zo hj1;rw[hlo];refine Q.r ?_;(repeat (intro b1;refine Q.r ?_));revert b1;intro bc;refine S.cgn pj rfl (K8 M6 pj j1 _) ?_;rintro _ _ ⟨rfl,rfl⟩;refine Q.r ?_;refine S.y (Y.add rfl rfl) ?_;rw[wrap_u64 zo zo];refine Q.r ?_;(repeat (intro b1;refine Q.r ?_));revert b1;intro bn;refine qm (ve (sz:=16) (m:=1) rfl) ?_;refine qQ (some ⟨bn,0,none⟩) (λM7 hl7 hs7=> ?_);have hl07:=hl06.trans hl7;have hvl:vs.length=(Vo d1).length:=by rw[←hvs,jf]
  refine vP pj hl7 ?_;refine Q.r ?_;refine qm (L':=yW p q (Vc d1) M7 (wR bc pj wD q false::qE M7 pj j1::L)) (by rw[show yH q p (fw d1) vs.length false=yH q p (fw d1) (Vo d1).length false from by rw[hvl]];exact eG) ?_;have hns:yK M7 (some ⟨bn,0,none⟩) [(qv (j1.epoch+1)).nv]:=⟨hs7,λn hn=>by rw[ji.1 hn];exact xt.nv _⟩;refine S.cr rfl (Qa bc pj wD q p false (Vc d1) j1 (some ⟨bn,0,none⟩) 1 [(qv (j1.epoch+1)).nv] M7 _ hns (λn hn=>by rw[ji.1 hn];exact ⟨hrt,hnx⟩) (hT.mono hl07) (hB.mono hl07) hj5 hw1.pb zo zo hj4 (by show 1≤1000;decide)) ?_;rintro _ _ ⟨rfl,M8,hl8,rfl⟩;have hl08:=hl07.trans hl8;rw[jR,show vU ([(qv (j1.epoch+1)).nv].map NV.abs)=[qC (qv (j1.epoch+1))] from rfl]
  by_cases hcw:VP (Vc d1) (qt j1) [qC (qv (j1.epoch+1))]=0
  case neg=>
   have fin:∀L',L'=qr p (Kd (Vc d1) (qt j1) [qC (qv (j1.epoch+1))]).d::qo M8::L→Za p s dim d d1 M L (.tuple #[wD,.int .i64 (VP (Vc d1) (qt j1) [qC (qv (j1.epoch+1))])]) L':=λL' e=>⟨M8,hl08,.inl ⟨_,_,hcw,.inr (.inr (.inr ⟨hce,he,hlo,j1,hld,hcw,rfl,rfl⟩)),rfl,e⟩⟩
   have hcw':decide (¬VP (Vc d1) (qt j1) [qC (qv (j1.epoch+1))]=0)=true:=jo hcw;generalize VP (Vc d1) (qt j1) [qC (qv (j1.epoch+1))]=E at*;generalize Kd (Vc d1) (qt j1) [qC (qv (j1.epoch+1))]=T1 at*;refine Q.r ?_;exact N.u rfl rfl (L':=qr p T1.d::qo M8::L) eG (fin _ rfl)
  have fin:∀M' c g x L',qU M M'→L'=yW p q (Kd (Vc d1) (qt j1) [qC (qv (j1.epoch+1))]) M' (wR c pj (wG g) q (Kd (Vc d1) (qt j1) [qC (qv (j1.epoch+1))]).br::qE M' pj (vC j1 (qv (j1.epoch+1)))::Xq g s dim x::L)→Za p s dim d d1 M L (.tuple #[Ks c,.int .i64 0]) L':=λM' c g x L' hl e=>⟨M',hl,.inr ⟨j1,c,pj,q,g,x,hce,he,hlo,hld,hw1,hsd1,hsd2,hcw,rfl,e⟩⟩
  rw[hcw];generalize Kd (Vc d1) (qt j1) [qC (qv (j1.epoch+1))]=T1 at*;refine Q.r ?_;refine qm (L':=wR bc pj wD q T1.br::qE M8 pj j1::qo M8::yH q p T1.n T1.k T1.br::qr p T1.d::L) eG ?_;refine S.cr rfl (xT bc pj wD q T1.br j1 (some ⟨bn,0,none⟩) 1 [(qv (j1.epoch+1)).nv] M8 _ (hns.mono hl8) (λn hn=>by rw[ji.1 hn];exact ⟨hnx.a,OkN.nv _⟩) hw1 (hT.mono hl08) (by show 1≤1000000;decide)) ?_;rintro _ _ ⟨M9,hl9,rfl⟩;have hl09:=hl08.trans hl9;rw[show xB j1 ([(qv (j1.epoch+1)).nv].map NV.abs)=vC j1 (qv (j1.epoch+1)) from rfl];generalize vC j1 (qv (j1.epoch+1))=j2 at*;refine Q.r ?_;refine S.cr rfl (Jh bc pj wD q T1.br M9 j2 _) ?_;rintro _ _ ⟨rfl,rfl⟩;refine S.y (Y.shlI (b:=24) rfl rfl zd) ?_;generalize IntKind.u64.wrap (j2.epoch*2^24)=x;refine Q.r ?_;refine S.cr rfl (YL s dim x _ s1 s2 h1 h2) ?_;rintro _ _ ⟨g,rfl,rfl⟩;refine Q.r ?_;exact N.u rfl rfl (L':=yW p q T1 M9 (wR bc pj (wG g) q T1.br::qE M9 pj j2::Xq g s dim x::L)) eG (fin M9 bc g x _ hl09 rfl)
 ·have e1:JN s dim d=0:=ja h0
  have e2:mK s dim d=d:=ja h0;have hO:=hH e1;clear hH;have hce:=e1;have hn0:(d.fs.length:Int)≠0:=by omega
  have hl01:=hl1;rw[e2] at hO ⊢;refine Q.r ?_;refine S.ckm p rfl (Z9 p d M1 _ (hE.mono hl01) (hB.mono hl01) hO.g) ?_;rintro _ _ ⟨M5,hl5,hop⟩;have hl05:=hl01.trans hl5
  rcases hop with ⟨he,rfl,rfl⟩|⟨he,q,sv,a,c,vs,rfl,hsv,hsvo,hsvc,hvs,hvo,hsl,hvc,rfl⟩
  ·have fin:∀L',L'=qr p (yj d)::qo M5::L→Za p s dim d d M L (.tuple #[wD,.int .i64 (xU d)]) L':=λL' e=>⟨M5,hl05,.inl ⟨_,_,he,.inr (.inl ⟨hce,he,rfl,rfl⟩),rfl,e⟩⟩
   have he':decide (¬xU d=0)=true:=jo he;generalize xU d=E at*;refine Q.r ?_;(repeat (intro b1;refine Q.r ?_));exact N.u rfl rfl (L':=qr p (yj d)::qo M5::L) eG (fin _ rfl)
  refine vP pj hl5 ?_;have hcb:WJ d=sv.bs:=by unfold WJ;rw[←hsv];rfl
  have hbl:=(hO.r he).bl;have hrl:=(hO.r he).rl;have hrn:=(hO.r he).rn;have hwn:=(hO.r he).wn;rw[hcb] at hbl hwn;rw[←hvs] at hrl hrn;rw[jf] at hrn;refine Q.r ?_;(repeat (intro b1;refine Q.r ?_));refine S.cg pj (args:=[vI pj,.agg #[sv.val,.slice a vs.length c]]) rfl (YS pj (ww s dim) sv a c vs M5 _ hsvo hsl hvo (hT.mono hl05) (hB.mono hl05) h1 h2 hbl (jw _) (jw _) hwn (λv hv=>hrl v.bs (jA hv)) hrn) ?_;rintro _ _ ⟨rfl,M6,j1,hl6,hld,rfl⟩;have hl06:=hl05.trans hl6;rw[hvs,←hcb] at hld ⊢
  by_cases hlo:VX (ww s dim) (WJ d) (Vo d)=0
  case neg=>
   have h4:VX (ww s dim) (WJ d) (Vo d)=4:=by
    unfold VX at hlo ⊢
    by_cases h:Zq (ww s dim) (WJ d)≠0
    ·rw[jb h]
    ·rw[ja h] at hlo ⊢
     by_cases h3:Vq (WX (ww s dim) (WJ d)) (Vo d)=none
     ·rw[jb h3]
     ·rw[ja h3] at hlo;exact absurd rfl hlo
   have fin:∀L',L'=qr p (yj d)::qo M6::L→Za p s dim d d M L (.tuple #[wD,.int .i64 4]) L':=λL' e=>⟨M6,hl06,.inl ⟨_,_,by decide,.inr (.inr (.inl ⟨hce,he,hlo,rfl,rfl⟩)),rfl,e⟩⟩
   rw[h4];refine Q.r ?_;exact N.u rfl rfl (L':=qr p (yj d)::qo M6::L) eG (fin _ rfl)
  obtain ⟨hld,hw1,hsd1,hsd2⟩:=hld hlo;obtain ⟨u1,u2⟩:=jAx s dim (WJ d);rw[u1] at hsd1;rw[u2] at hsd2;obtain ⟨hj1,hj2,hj3,hj4,hj5⟩:=(hO.r he).j j1 hlo hld;have he0:=hw1.g.b.e0;obtain ⟨hrt,hnx⟩:=yQ (m:=j1.epoch+1) zo hj1;rw[hlo];refine Q.r ?_;(repeat (intro b1;refine Q.r ?_));revert b1;intro bc;refine S.cgn pj rfl (K8 M6 pj j1 _) ?_;rintro _ _ ⟨rfl,rfl⟩;refine Q.r ?_;refine S.y (Y.add rfl rfl) ?_;rw[wrap_u64 zo zo];refine Q.r ?_;(repeat (intro b1;refine Q.r ?_));revert b1;intro bn;refine qm (ve (sz:=16) (m:=1) rfl) ?_;refine qQ (some ⟨bn,0,none⟩) (λM7 hl7 hs7=> ?_);have hl07:=hl06.trans hl7;have hvl:vs.length=(Vo d).length:=by rw[←hvs,jf]
  refine vP pj hl7 ?_;refine Q.r ?_;refine qm (L':=yW p q (Vc d) M7 (wR bc pj wD q false::qE M7 pj j1::L)) (by rw[show yH q p (fw d) vs.length false=yH q p (fw d) (Vo d).length false from by rw[hvl]];exact eG) ?_;have hns:yK M7 (some ⟨bn,0,none⟩) [(qv (j1.epoch+1)).nv]:=⟨hs7,λn hn=>by rw[ji.1 hn];exact xt.nv _⟩;refine S.cr rfl (Qa bc pj wD q p false (Vc d) j1 (some ⟨bn,0,none⟩) 1 [(qv (j1.epoch+1)).nv] M7 _ hns (λn hn=>by rw[ji.1 hn];exact ⟨hrt,hnx⟩) (hT.mono hl07) (hB.mono hl07) hj5 hw1.pb zo zo hj4 (by show 1≤1000;decide)) ?_;rintro _ _ ⟨rfl,M8,hl8,rfl⟩;have hl08:=hl07.trans hl8;rw[jR,show vU ([(qv (j1.epoch+1)).nv].map NV.abs)=[qC (qv (j1.epoch+1))] from rfl]
  by_cases hcw:VP (Vc d) (qt j1) [qC (qv (j1.epoch+1))]=0
  case neg=>
   have fin:∀L',L'=qr p (Kd (Vc d) (qt j1) [qC (qv (j1.epoch+1))]).d::qo M8::L→Za p s dim d d M L (.tuple #[wD,.int .i64 (VP (Vc d) (qt j1) [qC (qv (j1.epoch+1))])]) L':=λL' e=>⟨M8,hl08,.inl ⟨_,_,hcw,.inr (.inr (.inr ⟨hce,he,hlo,j1,hld,hcw,rfl,rfl⟩)),rfl,e⟩⟩
   have hcw':decide (¬VP (Vc d) (qt j1) [qC (qv (j1.epoch+1))]=0)=true:=jo hcw;generalize VP (Vc d) (qt j1) [qC (qv (j1.epoch+1))]=E at*;generalize Kd (Vc d) (qt j1) [qC (qv (j1.epoch+1))]=T1 at*;refine Q.r ?_;exact N.u rfl rfl (L':=qr p T1.d::qo M8::L) eG (fin _ rfl)
  have fin:∀M' c g x L',qU M M'→L'=yW p q (Kd (Vc d) (qt j1) [qC (qv (j1.epoch+1))]) M' (wR c pj (wG g) q (Kd (Vc d) (qt j1) [qC (qv (j1.epoch+1))]).br::qE M' pj (vC j1 (qv (j1.epoch+1)))::Xq g s dim x::L)→Za p s dim d d M L (.tuple #[Ks c,.int .i64 0]) L':=λM' c g x L' hl e=>⟨M',hl,.inr ⟨j1,c,pj,q,g,x,hce,he,hlo,hld,hw1,hsd1,hsd2,hcw,rfl,e⟩⟩
  rw[hcw];generalize Kd (Vc d) (qt j1) [qC (qv (j1.epoch+1))]=T1 at*;refine Q.r ?_;refine qm (L':=wR bc pj wD q T1.br::qE M8 pj j1::qo M8::yH q p T1.n T1.k T1.br::qr p T1.d::L) eG ?_;refine S.cr rfl (xT bc pj wD q T1.br j1 (some ⟨bn,0,none⟩) 1 [(qv (j1.epoch+1)).nv] M8 _ (hns.mono hl8) (λn hn=>by rw[ji.1 hn];exact ⟨hnx.a,OkN.nv _⟩) hw1 (hT.mono hl08) (by show 1≤1000000;decide)) ?_;rintro _ _ ⟨M9,hl9,rfl⟩;have hl09:=hl08.trans hl9;rw[show xB j1 ([(qv (j1.epoch+1)).nv].map NV.abs)=vC j1 (qv (j1.epoch+1)) from rfl];generalize vC j1 (qv (j1.epoch+1))=j2 at*;refine Q.r ?_;refine S.cr rfl (Jh bc pj wD q T1.br M9 j2 _) ?_;rintro _ _ ⟨rfl,rfl⟩;refine S.y (Y.shlI (b:=24) rfl rfl zd) ?_;generalize IntKind.u64.wrap (j2.epoch*2^24)=x;refine Q.r ?_;refine S.cr rfl (YL s dim x _ s1 s2 h1 h2) ?_;rintro _ _ ⟨g,rfl,rfl⟩;refine Q.r ?_;exact N.u rfl rfl (L':=yW p q T1 M9 (wR bc pj (wG g) q T1.br::qE M9 pj j2::Xq g s dim x::L)) eG (fin M9 bc g x _ hl09 rfl)
def jHq (c pj:Nat)(gv:Value)(q p:Nat)(T:JZ)(j:JG)(dn:Bool)(ms:List (Int×NA))(M:OM)(L:HL)(r:Value)(L':HL):Prop:=
 ∃(a:OA) (cc:Nat) (ls:List tB) (M':OM),r=.slice a ls.length cc∧ls.map jBv=(if dn=true then [] else Qz ms)∧jEX M' a ls∧qU M M'∧L'=yW p q T M' (wR c pj gv q dn::qE M' pj j::L)
theorem YT (c pj:Nat)(gv:Value)(q p:Nat)(T:JZ)(j:JG)(fr:Int)(a:OA)(cc:Nat)(bs:List UInt8)(n:NA)(M:OM)(L:HL)(h:qH M a bs.length 1 (bs.map B))(hc:bs.length≤cc)(hT:yE M)(hB:xg M)(hb:bs.length≤10000000)
  (hn:YY bs=some n) (hk8:n.kind≠8) (hk10:n.kind≠10) (hJ:JB j) (hD:DoK T j (xW j fr n)) (hM:∀m∈doM T j (xW j fr n),OkA m.2∧xf m.2) (hMl:(doM T j (xW j fr n)).length≤1000000):
  qh kY 8 [Ks c,.int .i64 fr,.slice a bs.length cc] (yW p q T M (wR c pj gv q false::qE M pj j::L))
   (jHq c pj gv q p (lh T j (xW j fr n)) (doJ T j (xW j fr n)) (mA T j false (xW j fr n)) (doM T j (xW j fr n)) M L):=by
 refine qg Tryz.func8 rfl rfl rfl ?_;refine Q.r ?_;refine S.cq (A:=qo M) rfl (Kj a cc bs M _ h hc hT hB hb) ?_;rintro _ _ ⟨nv,M1,rfl,hna,hno,hON,hl1,rfl⟩;rw[hn] at hna;have hna:nv.abs=n:=hna;subst hna;have hk8':nv.kind≠8:=hk8;have hk10':nv.kind≠10:=hk10;obtain ⟨hR,hX⟩:=jD6 hn;rw[jAz hn];refine vP pj hl1 ?_;refine Q.r ?_;(repeat (intro b1;refine Q.r ?_));revert b1;intro bn;refine S.c1 (A:=wR c pj gv q false) rfl (dq c pj gv q false _) ?_;rintro _ _ ⟨rfl,rfl⟩;refine Q.r ?_;refine vf (L':=pt bn (cl nv.cells 82)::yW p q T M1 (wR c pj gv q false::qE M1 pj j::L)) eG ?_;refine Q.dgo [true,false,false,false,false,false] [5,8,9,10] [] [0,1,2,3,4,6,7,5,8,9,10,11] ?_;refine Q.rd ?_;refine D.e rfl rfl rfl ?_;refine Q.r ?_;refine Q.rd ?_;refine D.e rfl rfl rfl ?_;refine S.cg pj (args:=[vI pj,.int .i64 fr,nv.val]) rfl (ng nv M1 pj j fr _ hJ hno hON (hT.mono hl1) hX.a.kind) ?_;rintro _ _ ⟨a1,c1,rs,a2,c2,ns,a3,c3,ms,a4,c4,is,a5,c5,es,M2,rfl,hl2,⟨o1,o2,o3,o4,o5⟩,⟨e1,e2,e3,e4,e5⟩,rfl⟩;have hl02:=hl1.trans hl2;refine Q.r ?_;refine Q.rd ?_;refine D.e rfl rfl rfl ?_;refine qm (L':=yW p q T M2 (wR c pj gv q false::qE M2 pj j::L)) eG ?_;refine S.cr rfl (jCx c pj gv q p false T j (xW j fr nv.abs) M2 _ a1 c1 rs a2 c2 ns a3 c3 ms a4 c4 is a5 c5 es o1 o2 o3 o4 o5 e1 e2 e3 e4 e5 (hT.mono hl02) (hB.mono hl02) hD) ?_;rintro _ _ ⟨a6,c6,ns6,M3,rfl,h6,o6,hl3,rfl⟩;have hl03:=hl02.trans hl3;generalize lh T j (xW j fr nv.abs)=T1 at*;generalize doJ T j (xW j fr nv.abs)=j1 at*;generalize mA T j false (xW j fr nv.abs)=d1 at*;refine Q.r ?_;refine Q.rd ?_;refine D.e rfl rfl rfl ?_;refine qm (L':=wR c pj gv q d1::qo M3::yH q p T1.n T1.k T1.br::qr p T1.d::qE M3 pj j1::L) eG ?_;have hu6:∀m∈ns6,OkN m.2∧xf m.2.abs:=λm hm=>by
  have:=hM (Km m) (by rw[←h6];exact jA hm);exact ⟨OkN.of this.1,this.2⟩
 refine S.cr rfl (QS c pj gv q d1 a6 c6 ns6 M3 _ o6 hu6 (hT.mono hl03) (hB.mono hl03) (by rw[Wc h6];exact hMl)) ?_;rintro _ _ ⟨a7,c7,ls,M4,rfl,hls,hlo,hl4,rfl⟩;refine vP pj hl4 ?_;rw[h6] at hls;refine Q.r ?_;refine Q.rd ?_;refine Q.r ?_;exact N.t rfl (L':=yW p q T1 M4 (wR c pj gv q d1::qE M4 pj j1::L)) eG ⟨a7,c7,ls,M4,rfl,hls,hlo,hl03.trans hl4,rfl⟩
theorem tZ (fr:Int)(a:OA)(cc:Nat)(bs:List UInt8)(M:OM)(L:HL)(h:qH M a bs.length 1 (bs.map B))(hc:bs.length≤cc)(hT:yE M)(hB:xg M)(hb:bs.length≤10000000):
  qh kY 8 [wD,.int .i64 fr,.slice a bs.length cc] (qo M::L) (λr L'=>∃M',r=.slice none 0 0∧qU M M'∧L'=qo M'::L):=by
 refine qg Tryz.func8 rfl rfl rfl ?_;refine Q.r ?_;refine S.cq (A:=qo M) rfl (Kj a cc bs M _ h hc hT hB hb) ?_;rintro _ _ ⟨nv,M1,rfl,hna,hno,hON,hl1,rfl⟩;refine Q.r ?_;(repeat (intro b1;refine Q.r ?_));refine S.cr rfl (dr _) ?_;rintro _ _ ⟨rfl,rfl⟩;refine Q.r ?_;exact N.t rfl (L':=qo M1::L) eG ⟨M1,rfl,hl1,rfl⟩
def hv :List UInt8→Nat
 | []=>0
 |b::l=>b.toNat % 128+128*hv l
theorem ph :∀(l:List UInt8) (b:UInt8),hv (l++[b])=hv l+b.toNat % 128*2^(7*l.length)
 | [],b=>by simp[hv]
 |x::l,b=>by
  have hp2:2^(7*(l.length+1))=128*2^(7*l.length):=by rw[Nat.mul_add,Nat.pow_add,Nat.mul_comm]
  show x.toNat % 128+128*hv (l++[b])=x.toNat % 128+128*hv l+b.toNat % 128*2^(7*(l.length+1))
  rw[ph l b,hp2,Nat.mul_add,Nat.mul_left_comm 128];omega
theorem pi :∀(m:Nat) (l:List UInt8),hv (l.drop m)≤hv l
 |0,l=>by simp
 |m+1,[]=>by simp
 |m+1,b::l=>by
  rw[List.drop_succ_cons];have:=pi m l
  show _≤b.toNat % 128+128*hv l
  omega
set_option maxRecDepth 100000 in
theorem Vl (a:OA)(c:Nat)(bs:List UInt8)(most:Nat)(L:HL)(h:qW L a bs.length 1 (bs.map B))(hb:bs.length≤1000000000000):
  qh kY 112 [.slice a bs.length c,.int .u64 most] L (λv L'=>v=.tuple #[.int .u64 (qA bs most).1,QK a c bs (qA bs most),.int .i64 (qA bs most).2.2]∧L'=L):=by
 have hat:=qW.atA h;have hrs:qW L a bs.length 1 (bs.flatMap cB):=by rw[jBP];exact h
 unfold qA;refine qg Tryz.func112 rfl rfl rfl ?_;refine Q.r ?_;refine ql (σ:=Nat) (λi=> [(0,.slice a bs.length c),(1,.int .u64 most),(7,.int .i64 (i+1:Nat))]) (λ_=>L)
  (λi=>i≤bs.length∧i≤9∧hv (bs.take i)<2^(7*i)∧vN (bs.drop i) i (hv (bs.take i))=vN bs 0 0) (λi=>bs.length - i) 0 zt (kZ _) ⟨jw _,jw _,by simp[hv],rfl⟩ ?_
 rintro i ⟨hi,h9,hn,hp⟩
 by_cases hlt:i<bs.length
 ·obtain ⟨x,hx⟩:=qw hlt
  have hd:bs.drop i=x::bs.drop (i+1):=by
   rw[List.drop_eq_getElem_cons hlt]
   congr 1
   exact (jm.1 hx).2
  have htk:hv (bs.take (i+1))=hv (bs.take i)+x.toNat % 128*2^(7*i):=by
   rw[qz hx,ph,jP,Nat.min_eq_left hi]
  rw[hd,xL,←htk] at hp;have hx8:x.toNat<256:=x.toNat_lt;obtain ⟨b,o,hia,hr⟩:=qW.elem (g:=cB) (λ_=>rfl) hrs hx rfl;have hgo:∀{R:Prop},(i=9→1<x.toNat→R)→(i=9→x.toNat≤1→x.toNat<128→R)→(i≠9→128≤x.toNat→R)→(i≠9→x.toNat<128→R)→R:=λh1 h2 h3 h4=>by
   by_cases e:i=9
   ·by_cases e2:1<x.toNat
    ·exact h1 e e2
    ·exact h2 e zo zo
   ·by_cases e2:128≤x.toNat
    ·exact h3 e e2
    ·exact h4 e zo
  have hm9:(i=9→x.toNat % 128≤1)→hv (bs.take (i+1))<18446744073709551616:=λe=>by
   rw[htk];exact (mO (b:=x.toNat % 128) hn h9 zo e).1
  have hm2:hv (bs.take (i+1))<2^(7*(i+1)):=by
   rw[htk];exact di (b:=x.toNat % 128) hn zo
  have hle:∀(m:Nat),hv ((bs.take (i+1)).drop m)≤hv (bs.take (i+1)):=λm=>pi m _
  have hcn:∀(m:Nat),m≤i→∃y,bs[m]? =some y∧(bs.take (i+1)).drop m=y::(bs.take (i+1)).drop (m+1):=λm hm=>by
   have h1:m<(bs.take (i+1)).length:=by rw[jP];omega
   refine ⟨(bs.take (i+1))[m],?_,List.drop_eq_getElem_cons h1⟩;have h2:=jY h1;rw[List.getElem?_take,jb zo] at h2;exact h2
  have hi9:((i+1:Nat):Int) - 1=(i:Int):=by omega
  rw[hia]
  by_cases c9:i=9∧1<x.toNat
  ·obtain ⟨c91,c92⟩:=c9
   rw[jb ⟨c91,c92⟩] at hp;rw[←hp];subst c91;refine Q.r ?_;exact N.r3 (RV.tmp rfl (RV.tmp rfl (RV.tmp rfl RV.nil))) (kZ _) ⟨rfl,rfl⟩
  rw[ja c9] at hp
  by_cases c8:128≤x.toNat
  ·have c91:¬i=9:=by omega
   rw[ja zo] at hp;refine Q.r ?_;rw[hi9];refine Q.r ?_;exact ⟨i+1,zt,kZ _,⟨by omega,by omega,hm2,hp⟩,by omega⟩
  have c7:x.toNat<128:=by omega
  rw[jb c7] at hp;have hm:=hm9 λ_=>by omega
  have hgo:∀{R:Prop},(i=9→R)→(i≠9→R)→R:=λh1 h2=>by
   by_cases e:i=9
   ·exact h1 e
   ·exact h2 e
  have hgk:∀{R:Prop},(0<i→R)→(i=0→R)→R:=λh1 h2=>by
   by_cases e:i=0
   ·exact h2 e
   ·exact h1 zo
  have h9r:i=9→vg L b (o+9*1) [B x]:=λe=>by have:=hr;rw[e] at this;exact this
  refine hgo (λc91=> ?_) (λc91=> ?_)
  ·have hr9:=h9r c91
   have c6:x.toNat≤1:=by omega
   have h9l:9<bs.length:=by omega
   refine Q.r ?_;rw[hi9];refine Q.r ?_;rw[hi9];refine qx (σ:=Unit) (λ_=> [(0,.slice (some ⟨b,o,none⟩) bs.length c),(1,.int .u64 most),(7,.int .i64 (i+1:Nat)),(8,.int .u64 (hv (bs.take (i+1))))]) (λ_=>L) (λ_=>True) ?_ ?_
   ·refine ql (σ:=Nat) (λm=> [(0,.slice (some ⟨b,o,none⟩) bs.length c),(1,.int .u64 most),(7,.int .i64 (i+1:Nat)),(8,.int .u64 (hv ((bs.take (i+1)).drop m))),(9,.int .i64 ((m:Int) - 1))]) (λ_=>L)
     (λm=>m≤i+1) (λm=>m) (i+1) ⟨rfl,rfl,rfl,jj some (jj (Value.int .u64) (by rw[List.drop_eq_nil_of_le (by rw[jP];omega)];rfl)),jj some (jj (Value.int .i64) zo),trivial⟩ (kZ _) (jz _) ?_
    intro m hmi
    cases m with
    |zero=>
     refine Q.r ?_;exact ⟨(),zt,kZ _,trivial⟩
    |succ m=>
     have hm1:((m+1:Nat):Int) - 1=(m:Int):=by omega
     obtain ⟨y,hy,hdr⟩:=hcn m zo;obtain ⟨b',o',hia',hry⟩:=qW.elem (g:=cB) (λ_=>rfl) hrs hy rfl;rw[hia] at hia';obtain ⟨rfl,rfl⟩:b=b'∧o=o':=by
      injection hia' with e
      injection e with e1 e2
      exact ⟨e1,e2⟩
     clear hia';have hl:=hle m;have hl2:=hle (m+1);rw[hdr] at hl;have hv1:hv (y::(bs.take (i+1)).drop (m+1))=y.toNat % 128+128*hv ((bs.take (i+1)).drop (m+1)):=rfl;rw[hv1] at hl;have hy8:y.toNat<256:=y.toNat_lt;rw[hm1];refine Q.r ?_;refine S.y (Y.mul rfl rfl) ?_;rw[wrap_u64 zo zo];refine Q.r ?_;refine S.y (Y.rem rfl rfl zd) ?_;rw[Int.tmod_eq_emod_of_nonneg zo];refine Q.r ?_;refine S.y (Y.cvi rfl) ?_;rw[wrap_u64 zo zo];refine Q.r ?_;refine S.y (Y.add rfl rfl) ?_;rw[wrap_u64 zo zo];refine Q.r ?_;exact ⟨m,⟨rfl,rfl,rfl,jj some (jj (Value.int .u64) (by rw[hdr,hv1];push_cast;omega)),rfl,trivial⟩,kZ _,by omega,by omega⟩
   rintro _ _;refine hgk (λck=> ?_) (λck=> ?_)
   ·refine Q.r ?_
    rw[hi9];refine Q.r ?_
    by_cases c0:x.toNat=0
    ·rw[jb ⟨c0,ck⟩] at hp
     rw[←hp];refine Q.r ?_;exact N.r3 (RV.tmp rfl (RV.tmp rfl (RV.tmp rfl RV.nil))) (kZ _) ⟨rfl,rfl⟩
    ·rw[ja (λh=>c0 h.1)] at hp
     rw[←hp];dsimp only
     by_cases cm:most<hv (bs.take (i+1))
     ·rw[ja zd,jb cm]
      refine Q.r ?_;exact N.r3 (RV.tmp rfl (RV.tmp rfl (RV.tmp rfl RV.nil))) (kZ _) ⟨rfl,rfl⟩
     ·rw[ja zd,ja cm]
      refine Q.r ?_;refine Q.dgo [] [] [] [0,1,2,3,4,5,6] ?_;refine Q.rd ?_;refine D.y rfl rfl rfl zk (Y.slFa rfl rfl rfl zo (.inr ⟨b,o,rfl⟩)) ?_;refine Q.rd ?_;refine Q.r ?_;exact N.r3 (RV.tmp rfl (RV.tmp rfl (RV.tmp rfl RV.nil))) (kZ _) ⟨rfl,rfl⟩
   ·exact absurd ck zo
  ·refine Q.r ?_
   rw[hi9];refine Q.r ?_;rw[hi9];refine qx (σ:=Unit) (λ_=> [(0,.slice (some ⟨b,o,none⟩) bs.length c),(1,.int .u64 most),(7,.int .i64 (i+1:Nat)),(8,.int .u64 (hv (bs.take (i+1))))]) (λ_=>L) (λ_=>True) ?_ ?_
   ·refine ql (σ:=Nat) (λm=> [(0,.slice (some ⟨b,o,none⟩) bs.length c),(1,.int .u64 most),(7,.int .i64 (i+1:Nat)),(8,.int .u64 (hv ((bs.take (i+1)).drop m))),(9,.int .i64 ((m:Int) - 1))]) (λ_=>L)
     (λm=>m≤i+1) (λm=>m) (i+1) ⟨rfl,rfl,rfl,jj some (jj (Value.int .u64) (by rw[List.drop_eq_nil_of_le (by rw[jP];omega)];rfl)),jj some (jj (Value.int .i64) zo),trivial⟩ (kZ _) (jz _) ?_
    intro m hmi
    cases m with
    |zero=>
     refine Q.r ?_;exact ⟨(),zt,kZ _,trivial⟩
    |succ m=>
     have hm1:((m+1:Nat):Int) - 1=(m:Int):=by omega
     obtain ⟨y,hy,hdr⟩:=hcn m zo;obtain ⟨b',o',hia',hry⟩:=qW.elem (g:=cB) (λ_=>rfl) hrs hy rfl;rw[hia] at hia';obtain ⟨rfl,rfl⟩:b=b'∧o=o':=by
      injection hia' with e
      injection e with e1 e2
      exact ⟨e1,e2⟩
     clear hia';have hl:=hle m;have hl2:=hle (m+1);rw[hdr] at hl;have hv1:hv (y::(bs.take (i+1)).drop (m+1))=y.toNat % 128+128*hv ((bs.take (i+1)).drop (m+1)):=rfl;rw[hv1] at hl;have hy8:y.toNat<256:=y.toNat_lt;rw[hm1];refine Q.r ?_;refine S.y (Y.mul rfl rfl) ?_;rw[wrap_u64 zo zo];refine Q.r ?_;refine S.y (Y.rem rfl rfl zd) ?_;rw[Int.tmod_eq_emod_of_nonneg zo];refine Q.r ?_;refine S.y (Y.cvi rfl) ?_;rw[wrap_u64 zo zo];refine Q.r ?_;refine S.y (Y.add rfl rfl) ?_;rw[wrap_u64 zo zo];refine Q.r ?_;exact ⟨m,⟨rfl,rfl,rfl,jj some (jj (Value.int .u64) (by rw[hdr,hv1];push_cast;omega)),rfl,trivial⟩,kZ _,by omega,by omega⟩
   rintro _ _;refine hgk (λck=> ?_) (λck=> ?_)
   ·refine Q.r ?_
    rw[hi9];refine Q.r ?_
    by_cases c0:x.toNat=0
    ·rw[jb ⟨c0,ck⟩] at hp
     rw[←hp];refine Q.r ?_;exact N.r3 (RV.tmp rfl (RV.tmp rfl (RV.tmp rfl RV.nil))) (kZ _) ⟨rfl,rfl⟩
    ·rw[ja (λh=>c0 h.1)] at hp
     rw[←hp];dsimp only
     by_cases cm:most<hv (bs.take (i+1))
     ·rw[ja zd,jb cm]
      refine Q.r ?_;exact N.r3 (RV.tmp rfl (RV.tmp rfl (RV.tmp rfl RV.nil))) (kZ _) ⟨rfl,rfl⟩
     ·rw[ja zd,ja cm]
      refine Q.r ?_;refine Q.dgo [] [] [] [0,1,2,3,4,5,6] ?_;refine Q.rd ?_;refine D.y rfl rfl rfl zk (Y.slFa rfl rfl rfl zo (.inr ⟨b,o,rfl⟩)) ?_;refine Q.rd ?_;refine Q.r ?_;exact N.r3 (RV.tmp rfl (RV.tmp rfl (RV.tmp rfl RV.nil))) (kZ _) ⟨rfl,rfl⟩
   ·rw[ja (λh=>by omega)] at hp
    rw[←hp];dsimp only
    by_cases cm:most<hv (bs.take (i+1))
    ·rw[ja zd,jb cm]
     refine Q.r ?_;exact N.r3 (RV.tmp rfl (RV.tmp rfl (RV.tmp rfl RV.nil))) (kZ _) ⟨rfl,rfl⟩
    ·rw[ja zd,ja cm]
     refine Q.r ?_;refine Q.dgo [] [] [] [0,1,2,3,4,5,6] ?_;refine Q.rd ?_;refine D.y rfl rfl rfl zk (Y.slFa rfl rfl rfl zo (.inr ⟨b,o,rfl⟩)) ?_;refine Q.rd ?_;refine Q.r ?_;exact N.r3 (RV.tmp rfl (RV.tmp rfl (RV.tmp rfl RV.nil))) (kZ _) ⟨rfl,rfl⟩
 ·have hke:i=bs.length:=by omega
  subst hke;rw[kM] at hp;rw[←hp];refine Q.r ?_;exact N.r3 (RV.tmp rfl (RV.tmp rfl (RV.tmp rfl RV.nil))) (kZ _) ⟨rfl,rfl⟩
end Go.Proofs.YtlnfjhiphlfkjaaGreatDoor
namespace Go.Proofs.YtlnfjhiphlfkjaaGreatDoor
open Go Go.SX
structure jIR (st:VS)(s id:Int)(w:List Int):Prop where
 b:∀i∈st.its,i.2.1<s→Kb i.2.2 id=false
 a:st.mark≤s→atV (Xc st.ch id) s=w
structure rW (vs:VL):Prop where
 s:zU vs
 v:∀v∈vs,0<v.1∧v.1≤1099511627776∧(0<v.2.length→wK v.2=true)
def jEd :VL→VL→Int
 |_,[]=>0
 |p,v::q=>if jCY p v.1 v.2≠0 then jCY p v.1 v.2 else jEd (p++[v]) q
theorem rW.put {p q:VL}{v:Int×List Int}(h:rW (p++v::q)):jCY p v.1 v.2=0:=by
 have hv:=h.v v (by simp);have hl:KP p<v.1:=by
  unfold KP
  cases hg:p.getLast? with
  |none=>simp;omega
  |some l=>
   have hm:=List.mem_of_getLast? hg;have hs:=h.s;unfold zU at hs;rw[jq,List.pairwise_append] at hs;exact hs.2.2 _ (jA hm) _ (by simp)
 unfold jCY;rw[ja zo,ja (λhh=>by have:=hv.2.2 hh.1;rw[hh.2] at this;cases this),ja zo]
def jHG (dim:Int)(v:Int×List Int):Bool:=decide (0<v.2.length)&&decide ((v.2.length:Int)≠dim)
def jHF (dim:Int)(ch:List (Int×VL))(e:Int×VL):Bool:=decide (1099511627776<e.1)||(qJ ch e.1).isSome||decide (e.2.length=0)||decide (jEd [] e.2≠0)||e.2.any (jHG dim)
def ldF (dim:Int):List (Int×VL)→List (Int×VL)→Option (List (Int×VL))
 |ch,[]=>some ch
 |ch,e::l=>if jHF dim ch e then none else ldF dim (ch++[e]) l
def jEj (st:VS)(mark:Int)(l:List (Int×VL)):Int:=if 1099511627776<mark then 1 else if (ldF st.dim [] l).isNone then 4 else if 0<st.ch.length∨0<st.its.length∨0<st.mark then 10 else 0
def jGn (st:VS)(mark:Int)(l:List (Int×VL)):VS:=if jEj st mark l=0 then {st with ch:=l,mark:=mark} else st
structure jGv (dim:Int)(c:Int×VL):Prop where
 i:c.1≤1099511627776
 n:0<c.2.length
 p:rW c.2
 d:∀v∈c.2,0<v.2.length→(v.2.length:Int)=dim
structure GS (st:VS):Prop where
 c:∀c∈st.ch,jGv st.dim c
 i:∀i∈st.its,∀o∈i.2.2,o.1≤1099511627776∧(0<o.2.length→wK o.2=true∧(o.2.length:Int)=st.dim)
 m:st.mark≤1099511627776
theorem rW.drop {vs:VL}(h:rW vs)(k:Nat):rW (vs.drop k):=by
 refine ⟨?_,λv hv=>h.v v (List.mem_of_mem_drop hv)⟩;have:=h.s;unfold zU at this ⊢;rw[List.map_drop];exact this.sublist (List.drop_sublist _ _)
abbrev IR :=Int×Int×List Int×VL
abbrev jGh (v:Int×List Int):Prop:=(0≤v.1∧v.1≤(1099511627776:Nat))∧v.2.length≤8∧∀n∈v.2,JE n
abbrev jHj (e:Int×VL):Prop:=(0≤e.1∧e.1≤(1099511627776:Nat))∧e.2.length≤1048576∧∀v∈e.2,jGh v
abbrev jHi (mp mq mo:Nat)(i:IR):Prop:=(0≤i.1∧i.1≤(18446744073709551615:Nat))∧(0≤i.2.1∧i.2.1≤(1099511627776:Nat))∧(i.2.2.1.length≤mp∧∀p∈i.2.2.1,0≤p∧p≤mq)∧(i.2.2.2.length≤mo∧∀v∈i.2.2.2,jGh v)
abbrev jHk (d:Int×Int):Prop:=(0≤d.1∧d.1≤(18446744073709551615:Nat))∧(0≤d.2∧d.2≤(1099511627776:Nat))
structure UR where
 m:Int
 E:List (Int×VL)
 I:List IR
 D:List (Int×Int)
 s:RS
def jEq (dim:Int):List IR→JS→Option JS
 | [],j=>some j
 |h::l,j=>if wL h.2.2.1=true∧v7 dim h.2.2.2=0∧Kn j.v h.1 h.2.1 h.2.2.2=0 then jEq dim l ⟨zz j.v h.1 h.2.1 h.2.2.2,qZ j.parts h.1 h.2.2.1,j.done⟩ else none
def VS0 (dim:Int):VS:=⟨dim,[],[],0⟩
attribute [local irreducible] swp qq qM qL vX qh St qi qk vu qG
structure OI where
 id:Int
 af:Int
 oa:OA
 oc:Nat
 vs:List OV
 pa:OA
 pc:Nat
 ps:List Int
abbrev OI.cells (o:OI):List Value:=[.int .u64 o.id,.int .u64 o.af,.slice o.oa o.vs.length o.oc,.slice o.pa o.ps.length o.pc]
abbrev OI.abs (o:OI):IR:=(o.id,o.af,o.ps,o.vs.map OV.abs)
abbrev jHC (z:Int):List Value:=[I64 z]
abbrev okO (M:OM)(o:OI):Prop:=qH M o.oa o.vs.length 2 (o.vs.flatMap OV.cells)∧okR M o.vs∧qH M o.pa o.ps.length 1 (o.ps.flatMap jHC)
theorem okO.mono {M M':OM}{o:OI}(h:okO M o)(hl:qU M M'):okO M' o:=⟨h.1.mono hl,λx hx=>(h.2.1 x hx).mono hl,h.2.2.mono hl⟩
def Kw (bs:List UInt8):List Int×List UInt8×Int:=if (qA bs 8).2.2≠0 then ([],[],(qA bs 8).2.2) else WS (qA bs 8).1 (bs.drop (qA bs 8).2.1) []
theorem jAp :∀(k:Nat) (bs:List UInt8) (acc:List Int),(WS k bs acc).2.1.length≤bs.length
 |0,bs,acc=>jz _
 |k+1,bs,acc=>by
  rw[Jn]
  split
  ·simp
  ·split
   ·simp
   ·have:=jAp k (bs.drop (qA bs 18446744073709551615).2.1) (acc++[Xh (qA bs 18446744073709551615).1])
    rw[jE] at this;omega
theorem jCK (s:RS):xw 8 s=if s.bad≠0 then ([],s) else if (Kw s.bs).2.2≠0 then ([],{s with bad:=(Kw s.bs).2.2}) else ((Kw s.bs).1,⟨(Kw s.bs).2.1,0,s.good⟩):=by
 unfold xw Kw
 by_cases h1:s.bad≠0
 ·rw[jb h1,jb h1]
 ·rw[ja h1,ja h1]
  by_cases h2:(qA s.bs 8).2.2≠0
  ·rw[jb h2,jb h2]
   dsimp only;rw[jb h2]
  ·rw[ja h2,ja h2]
theorem jFO {u:Nat}(h:¬4294967295<u):IntKind.i32.wrap (Xh u)=Xh u:=by
 unfold Xh
 split<;>exact zm zo zo
theorem me (L:HL):qh kY 176 [.int .i64 8] L (λv L'=>v=.int .u64 8∧L'=L):=by
 refine qg Tryz.func176 rfl rfl rfl ?_;refine Q.r ?_;refine S.y (Y.cvi rfl) ?_;rw[show IntKind.u64.wrap 8=8 by decide];refine Q.r ?_;exact N.t rfl (kZ _) ⟨rfl,rfl⟩
set_option maxRecDepth 100000 in
theorem dt (a:OA)(c:Nat)(bs:List UInt8)(M:OM)(L:HL)[hM:wY M L](h:qH M a bs.length 1 (bs.map B))(hc:bs.length≤c)(hb:bs.length≤10000000):
  qh kY 113 [.slice a bs.length c,.int .i64 8] L (λv L'=>∃va vc ra rc,v=.tuple #[.slice va (Kw bs).1.length vc,.slice ra (Kw bs).2.1.length rc,.int .i64 (Kw bs).2.2]∧qH M ra (Kw bs).2.1.length 1 ((Kw bs).2.1.map B)∧(Kw bs).2.1.length≤rc∧L'=slO 21 1 va (Kw bs).1.length vc ((Kw bs).1.map yT)::L):=by
 have hT:=Vl a c bs 8 L (h.rd (hm:=hM)) zo;have hsz:=xJ bs 8;have hs0:=h.fromA (l:=(qA bs 8).2.1) hsz hc;rw[jX,←List.map_drop] at hs0;have hn8:(qA bs 8).2.2=0→(qA bs 8).1≤8:=λh=>(yt h).2
 have fail:∀q:Int,Kw bs=([],[],q)→∀v:Value,v=.tuple #[.slice none 0 0,.slice none 0 0,.int .i64 q]→∀L',L'=slO 21 1 none 0 0 []::L→∃va vc ra rc,v=.tuple #[.slice va (Kw bs).1.length vc,.slice ra (Kw bs).2.1.length rc,.int .i64 (Kw bs).2.2]∧qH M ra (Kw bs).2.1.length 1 ((Kw bs).2.1.map B)∧(Kw bs).2.1.length≤rc∧L'=slO 21 1 va (Kw bs).1.length vc ((Kw bs).1.map yT)::L:=by
  rintro q e _ rfl _ rfl;rw[e];exact ⟨none,0,none,0,rfl,⟨rfl,.inl rfl⟩,jw _,rfl⟩
 have hv0:(qA bs 8).2.2≠0→Kw bs=([],[],(qA bs 8).2.2):=λh=>by unfold Kw;rw[jb h]
 have hv1:(qA bs 8).2.2=0→Kw bs=WS (qA bs 8).1 (bs.drop (qA bs 8).2.1) []:=λh=>by unfold Kw;rw[ja zo]
 refine qg Tryz.func113 rfl rfl rfl ?_;refine Q.r ?_;refine S.cr rfl (me _) ?_;rintro _ L2 ⟨rfl,eL⟩;rw[eL];clear eL L2;refine Q.r ?_;refine S.cr rfl hT ?_;rintro _ L2 ⟨rfl,eL⟩;rw[eL];clear eL L2;clear hT;unfold QK;generalize (qA bs 8).1=n0 at*;generalize (qA bs 8).2.1=z0 at*;generalize (qA bs 8).2.2=q0 at*
 by_cases h0:q0=0
 case neg=>
  rw[jb h0];refine Q.r ?_;exact N.r3 (RV.tmp rfl (RV.tmp rfl (RV.tmp rfl RV.nil))) vh (fail q0 (hv0 h0) _ rfl _ rfl)
 subst h0;rw[ja zo];have hv:=hv1 rfl;have hn:=hn8 rfl;clear hv0 hv1 hn8;obtain ⟨b0,hb0⟩:∃b0,b0=bs.drop z0:=⟨_,rfl⟩;have hb0l:b0.length=bs.length - z0:=by rw[hb0,jE]
 rw[←hb0] at hv hs0;rw[←hb0l] at hs0 ⊢;have hc0:b0.length≤c - z0:=by omega
 have hbl:b0.length≤10000000:=by omega
 refine Q.r ?_;refine qx (σ:=List Int×List UInt8×OA×Nat×OA×Nat) (λw=> [(8,.slice w.2.2.1 w.2.1.length w.2.2.2.1),(10,.slice w.2.2.2.2.1 w.1.length w.2.2.2.2.2)])
  (λw=>slO 21 1 w.2.2.2.2.1 w.1.length w.2.2.2.2.2 (w.1.map yT)::L) (λw=>qH M w.2.2.1 w.2.1.length 1 (w.2.1.map B)∧w.2.1.length≤w.2.2.2.1∧Kw bs=(w.1,w.2.1,0)) ?_ ?_
 ·refine ql (σ:=Nat×List Int×List UInt8×OA×Nat×OA×Nat) (λw=> [(26,.int .u64 n0),(8,.slice w.2.2.2.1 w.2.2.1.length w.2.2.2.2.1),(10,.slice w.2.2.2.2.2.1 w.2.1.length w.2.2.2.2.2.2),(27,.int .u64 w.1)])
   (λw=>slO 21 1 w.2.2.2.2.2.1 w.2.1.length w.2.2.2.2.2.2 (w.2.1.map yT)::L)
   (λw=>w.1≤n0∧w.2.1.length=w.1∧qH M w.2.2.2.1 w.2.2.1.length 1 (w.2.2.1.map B)∧w.2.2.1.length≤w.2.2.2.2.1∧w.2.2.1.length≤10000000∧Kw bs=WS (n0 - w.1) w.2.2.1 w.2.1)
   (λw=>n0 - w.1) (0,[],b0,Qw a c z0 1,c - z0,none,0) zt eG ⟨jw _,rfl,hs0,hc0,hbl,hv⟩ ?_
  rintro ⟨i,acc,bs',a',c',oa,oc⟩ ⟨hi,hai,hs',hc',hb',hv⟩;dsimp only at hi hai hs' hc' hb' hv ⊢
  by_cases hlt:i<n0
  ·have hz:=xJ bs' 18446744073709551615
   have hT:=Vl a' c' bs' 18446744073709551615 (slO 21 1 oa acc.length oc (acc.map yT)::L) (hs'.rd (hm:=wY.there)) zo;rw[show n0 - i=(n0 - (i+1))+1 by omega,Jn] at hv;have hs2:=hs'.fromA (l:=(qA bs' 18446744073709551615).2.1) hz hc';rw[jX,←List.map_drop] at hs2;refine Q.r ?_;refine S.cr rfl hT ?_;rintro _ _ ⟨rfl,rfl⟩;clear hT;unfold QK;generalize (qA bs' 18446744073709551615).1=u at*;generalize (qA bs' 18446744073709551615).2.1=z at*;generalize (qA bs' 18446744073709551615).2.2=q at*;have hdl:(bs'.drop z).length=bs'.length - z:=jE
   by_cases h2:q=0
   case neg=>
    rw[jb h2] at hv;rw[jb h2];refine Q.r ?_;exact N.r3 (RV.tmp rfl (RV.tmp rfl (RV.tmp rfl RV.nil))) (qi.trans (M:=L) eG vh) (fail q hv _ rfl _ rfl)
   subst h2;rw[ja zo] at hv;rw[ja zo,←hdl];rw[←hdl] at hs2
   by_cases h3:4294967295<u
   ·rw[jb h3] at hv
    refine Q.r ?_;exact N.r3 (RV.tmp rfl (RV.tmp rfl (RV.tmp rfl RV.nil))) (qi.trans (M:=L) eG vh) (fail 4 hv _ rfl _ rfl)
   ·rw[ja h3] at hv
    have hzw:=jFO h3
    by_cases h4:u % 2=1
    ·have hzz:Xh u= -((u / 2:Nat):Int) - 1:=by unfold Xh;rw[jb h4]
     refine Q.r ?_;refine S.y (Y.quo rfl rfl zd) ?_;rw[show IntKind.u64.wrap ((u:Int).tdiv 2)=((u / 2:Nat):Int) by rw[show (u:Int).tdiv 2=((u / 2:Nat):Int) from rfl];exact wrap_u64 zo zo];refine S.y (Y.cvi rfl) ?_;rw[show IntKind.i64.wrap ((u / 2:Nat):Int)=((u / 2:Nat):Int) from vl zo zo];refine Q.r ?_;refine S.y (Y.rem rfl rfl zd) ?_;rw[show (u:Int).tmod 2=((u % 2:Nat):Int) from rfl,h4];refine Q.r ?_;refine S.y (Y.neg rfl) ?_;rw[show IntKind.i64.wrap (-((u / 2:Nat):Int))= -((u / 2:Nat):Int) from vl zo zo];refine S.y (Y.sub rfl rfl) ?_;rw[show IntKind.i64.wrap (-((u / 2:Nat):Int) - 1)=Xh u by rw[hzz];exact vl zo zo];refine Q.r ?_;refine S.y (Y.cvi rfl) ?_;rw[hzw];refine Q.r ?_;(repeat (intro b1;refine Q.r ?_));refine S.app rfl rfl (vA.sl vg.row zr zr) zr zo zo (λoa2 oc2=> ?_);refine Q.r ?_;refine S.y (Y.add rfl rfl) ?_;rw[show IntKind.u64.wrap ((i:Int)+1)=(i:Int)+1 from wrap_u64 zo zo];refine Q.r ?_;refine ⟨(i+1,acc++[Xh u],bs'.drop z,Qw a' c' z 1,c' - z,oa2,oc2),⟨rfl,rfl,jj some (by simp[jU]),jj some (by simp[jU]),trivial⟩,?_,⟨hlt,by dsimp only;rw[qF,hai],hs2,by dsimp only;omega,by dsimp only;omega,hv⟩,jr n0 i hlt⟩;dsimp only;rw[qF,jq,jL,kC];exact eG
    ·have hzz:Xh u=((u / 2:Nat):Int):=by unfold Xh;rw[ja h4]
     refine Q.r ?_;refine S.y (Y.quo rfl rfl zd) ?_;rw[show IntKind.u64.wrap ((u:Int).tdiv 2)=((u / 2:Nat):Int) by rw[show (u:Int).tdiv 2=((u / 2:Nat):Int) from rfl];exact wrap_u64 zo zo];refine S.y (Y.cvi rfl) ?_;rw[show IntKind.i64.wrap ((u / 2:Nat):Int)=((u / 2:Nat):Int) from vl zo zo];refine Q.r ?_;refine S.y (Y.rem rfl rfl zd) ?_;rw[show (u:Int).tmod 2=((u % 2:Nat):Int) from rfl,show u % 2=0 by omega];refine Q.r ?_;refine S.y (Y.cvi rfl) ?_;rw[←hzz,hzw];refine Q.r ?_;(repeat (intro b1;refine Q.r ?_));refine S.app rfl rfl (vA.sl vg.row zr zr) zr zo zo (λoa2 oc2=> ?_);refine Q.r ?_;refine S.y (Y.add rfl rfl) ?_;rw[show IntKind.u64.wrap ((i:Int)+1)=(i:Int)+1 from wrap_u64 zo zo];refine Q.r ?_;refine ⟨(i+1,acc++[Xh u],bs'.drop z,Qw a' c' z 1,c' - z,oa2,oc2),⟨rfl,rfl,jj some (by simp[jU]),jj some (by simp[jU]),trivial⟩,?_,⟨hlt,by dsimp only;rw[qF,hai],hs2,by dsimp only;omega,by dsimp only;omega,hv⟩,jr n0 i hlt⟩;dsimp only;rw[qF,jq,jL,kC];exact eG
  ·have hin:i=n0:=by omega
   subst hin;rw[Nat.sub_self] at hv;refine Q.r ?_;exact ⟨(acc,bs',a',c',oa,oc),zt,kZ _,hs',hc',hv⟩
 rintro ⟨acc,bs',a',c',oa,oc⟩ ⟨hs',hc',hv⟩;dsimp only at hs' hc' hv ⊢;refine Q.r ?_;refine N.r3 (RV.tmp rfl (RV.tmp rfl (RV.tmp rfl RV.nil))) (kZ _) ?_;rw[hv];exact ⟨oa,oc,a',c',rfl,hs',hc',rfl⟩
end Go.Proofs.YtlnfjhiphlfkjaaGreatDoor
namespace Go.Proofs.YtlnfjhiphlfkjaaGreatDoor
open Go Go.SX
def W7 (n:NA)(f:UInt8):List UInt8:=
 if f=116 then numI n.txn else if f=98 then numI n.batch else if f=115 then numI n.stamp else if f=97 then numI n.after else if f=109 then numI n.mark else if f=113 then numI n.query
 else if f=105 then numI n.id else if f=107 then numI n.k else if f=101 then numI n.ef else if f=99 then numI n.code else if f=119 then numI n.who else if f=112 then ws numI n.parts
 else if f=111 then ws xj n.ops else if f=118 then vW n.vec else ws xq n.hits
set_option maxRecDepth 100000 in
theorem VG (k:Nat):wN k=abc.filter (vj k):=by
 by_cases h:k<23
 ·exact (by decide:∀k,k<23→wN k=abc.filter (vj k)) k h
 ·have h1:wN k=[]:=by
   unfold wN;rw[List.getElem?_eq_none (by show 23≤k;omega)];rfl
  rw[h1]
  symm
  rw[List.filter_eq_nil_iff];intro f _;unfold vj;rw[h1];simp
theorem fY {α:Type}(p:α→Bool)(e:α→List UInt8)(l:List α):(l.filter p).flatMap e=l.flatMap λf=>if p f=true then e f else []:=by
 induction l with
 |nil=>rfl
 |cons x l ih=>
  rw[kI,jK]
  split
  ·rw[jK,ih]
  ·rw[ih];rfl
theorem KU (n:NA):xF n=numI n.kind++(wN n.kind.toNat).flatMap (W7 n):=by
 rw[VG,fY];unfold xF
 congr 1
 generalize n.kind.toNat=k;have b0:qB k 0=vj k 116:=vd k 0 zd;have b1:qB k 1=vj k 98:=vd k 1 zd;have b2:qB k 2=vj k 115:=vd k 2 zd;have b3:qB k 3=vj k 97:=vd k 3 zd;have b4:qB k 4=vj k 109:=vd k 4 zd;have b5:qB k 5=vj k 113:=vd k 5 zd;have b6:qB k 6=vj k 105:=vd k 6 zd;have b7:qB k 7=vj k 107:=vd k 7 zd;have b8:qB k 8=vj k 101:=vd k 8 zd;have b9:qB k 9=vj k 99:=vd k 9 zd;have b10:qB k 10=vj k 119:=vd k 10 zd;have b11:qB k 11=vj k 112:=vd k 11 zd;have b12:qB k 12=vj k 111:=vd k 12 zd;have b13:qB k 13=vj k 118:=vd k 13 zd;have b14:qB k 14=vj k 104:=vd k 14 zd;have hc:yY k=[(vj k 116,18446744073709551615),(vj k 98,18446744073709551615),(vj k 115,1099511627776),(vj k 97,1099511627776),(vj k 109,1099511627776),(vj k 113,18446744073709551615),(vj k 105,1099511627776),(vj k 107,16),(vj k 101,256),(vj k 99,13),(vj k 119,16)]:=by
  rw[←b0,←b1,←b2,←b3,←b4,←b5,←b6,←b7,←b8,←b9,←b10];rfl
 have hR:(abc.flatMap λf=>if vj k f=true then W7 n f else [])=vp (vj k 116) numI n.txn++(vp (vj k 98) numI n.batch++(vp (vj k 115) numI n.stamp++(vp (vj k 97) numI n.after++(vp (vj k 109) numI n.mark++(vp (vj k 113) numI n.query++(vp (vj k 105) numI n.id++(vp (vj k 107) numI n.k++(vp (vj k 101) numI n.ef++(vp (vj k 99) numI n.code++(vp (vj k 119) numI n.who++(vp (vj k 112) (ws numI) n.parts++(vp (vj k 111) (ws xj) n.ops++(vp (vj k 118) vW n.vec++(vp (vj k 104) (ws xq) n.hits++[])))))))))))))):=rfl;rw[hR,jG]
 show w8 (yY k) [n.txn,n.batch,n.stamp,n.after,n.mark,n.query,n.id,n.k,n.ef,n.code,n.who]++(vp (qB k 11) (ws numI) n.parts++(vp (qB k 12) (ws xj) n.ops++(vp (qB k 13) vW n.vec++vp (qB k 14) (ws xq) n.hits)))=_
 rw[hc,b11,b12,b13,b14];simp only[w8,ju,kO]
def xE (n:NA)(i:Nat):List UInt8:=numI n.kind++((wN n.kind.toNat).take i).flatMap (W7 n)
theorem rK (n:NA):xE n 0=numI n.kind:=by unfold xE;rw[kB,j3,jG]
theorem jA0 (n:NA){i:Nat}(h:(wN n.kind.toNat).length≤i):xE n i=xF n:=by unfold xE;rw[kK h,KU]
theorem rL {n:NA}{i:Nat}{f:UInt8}(h:(wN n.kind.toNat)[i]? =some f):xE n (i+1)=xE n i++W7 n f:=by
 unfold xE;rw[qz h,kS,jK,j3,jG,ju]
theorem jAZ (n:NA)(i:Nat):(xE n i).length≤(xF n).length:=by
 rw[KU];unfold xE;rw[jc,jc];have:((wN n.kind.toNat).take i).flatMap (W7 n)++((wN n.kind.toNat).drop i).flatMap (W7 n)=(wN n.kind.toNat).flatMap (W7 n):=by rw[←kS,kJ]
 rw[←this,jc];omega
structure RZ where
 bs:List UInt8
 ok:Bool
def xD (s:RZ):Int×RZ:=if (qA s.bs 18446744073709551615).2.2=0∧s.ok=true then (((qA s.bs 18446744073709551615).1:Int),⟨s.bs.drop (qA s.bs 18446744073709551615).2.1,true⟩) else (0,⟨s.bs,false⟩)
def zj (m:Nat)(s:RZ):Int×RZ:=if (m:Int)<(xD s).1 then (0,⟨(xD s).2.bs,false⟩) else xD s
def WU (s:RZ):List Int×RZ:=if (Kw s.bs).2.2=0∧s.ok=true then ((Kw s.bs).1,⟨(Kw s.bs).2.1,true⟩) else ([],⟨s.bs,false⟩)
def fG {α:Type}(d:RZ→α×RZ):Nat→RZ×List α→RZ×List α
 |0,s=>s
 |k+1,s=>fG d k ((d s.1).2,s.2++[(d s.1).1])
theorem KM {α:Type}(d:RZ→α×RZ)(k:Nat)(s:RZ×List α):fG d (k+1) s=fG d k ((d s.1).2,s.2++[(d s.1).1]):=rfl
def opF (s:RZ):(Int×List Int)×RZ:=(((xD s).1,(WU (xD s).2).1),(WU (xD s).2).2)
def htF (s:RZ):(Int×Int×List Int)×RZ:=(((xD s).1,(xD (xD s).2).1,(WU (xD (xD s).2).2).1),(WU (xD (xD s).2).2).2)
def VE {α:Type}(m:Nat)(d:RZ→α×RZ)(s:RZ):List α×RZ:=((fG d (zj m s).1.toNat ((zj m s).2,[])).2,(fG d (zj m s).1.toNat ((zj m s).2,[])).1)
def XL (x:NA×RZ)(f:UInt8):NA×RZ:=
 if f=116 then ({x.1 with txn:=(xD x.2).1},(xD x.2).2) else if f=98 then ({x.1 with batch:=(xD x.2).1},(xD x.2).2) else if f=115 then ({x.1 with stamp:=(xD x.2).1},(xD x.2).2)
 else if f=97 then ({x.1 with after:=(xD x.2).1},(xD x.2).2) else if f=109 then ({x.1 with mark:=(xD x.2).1},(xD x.2).2) else if f=113 then ({x.1 with query:=(xD x.2).1},(xD x.2).2)
 else if f=105 then ({x.1 with id:=(xD x.2).1},(xD x.2).2) else if f=107 then ({x.1 with k:=(zj 16 x.2).1},(zj 16 x.2).2) else if f=101 then ({x.1 with ef:=(zj 256 x.2).1},(zj 256 x.2).2)
 else if f=99 then ({x.1 with code:=(zj 13 x.2).1},(zj 13 x.2).2) else if f=119 then ({x.1 with who:=(zj 15 x.2).1},(zj 15 x.2).2) else if f=112 then ({x.1 with parts:=(VE 4 (zj 15) x.2).1},(VE 4 (zj 15) x.2).2)
 else if f=111 then ({x.1 with ops:=(VE 16 opF x.2).1},(VE 16 opF x.2).2) else if f=118 then ({x.1 with vec:=(WU x.2).1},(WU x.2).2) else ({x.1 with hits:=(VE 16 htF x.2).1},(VE 16 htF x.2).2)
def W4 (p:List UInt8):NA×RZ:=(wN (zj 255 ⟨VC p,true⟩).1.toNat).foldl XL ({NA.zero with kind:=(zj 255 ⟨VC p,true⟩).1},(zj 255 ⟨VC p,true⟩).2)
def J7 (p:List UInt8):Int:=if zZ p≠0 then zZ p else if Y4 p≠[] then 4 else if (W4 p).2.ok=true∧(W4 p).2.bs=[]∧qu (W4 p).1=true then 0 else 4
def jAT (p:List UInt8):NA:=if J7 p=0 then (W4 p).1 else NA.zero
end Go.Proofs.YtlnfjhiphlfkjaaGreatDoor
