/- Walks of functions, and plain laws, that the last text rests on. No condition. -/
import Derived.Test.YtlnfjhiphlfkjaaGreatDoorPk09
set_option linter.unusedVariables false
set_option linter.unusedSimpArgs false
set_option linter.unusedSectionVars false
set_option maxHeartbeats 8000000
namespace Go.Proofs.YtlnfjhiphlfkjaaGreatDoor
open Go Go.SX
attribute [local irreducible] swp qq qM qL vX qh St qi qk vu qG
def lf (bs:List UInt8):Nat×Nat×RS:=((vt 1099511627776 ⟨bs,0,true⟩).1,(vt 1099511627776 (vt 1099511627776 ⟨bs,0,true⟩).2).1,(vt 1099511627776 (vt 1099511627776 ⟨bs,0,true⟩).2).2)
def Kx (bs:List UInt8):RS×List (Int×Int):=mB (lf bs).2.1 (vt 1048576 (lf bs).2.2).1 ((vt 1048576 (lf bs).2.2).2,[])
def Xj (sh:Nat)(bs:List UInt8):RS×List (Int×TR):=nR sh (lf bs).2.1 (vt 8 (Kx bs).1).1 ((vt 8 (Kx bs).1).2,[])
def Zp (sh dim:Int)(bs:List UInt8):JG:=⟨sh,dim,(lf bs).1,0,(lf bs).2.1,(Xj sh.toNat bs).2,(Kx bs).2⟩
def re (sh dim:Int)(bs:List UInt8):Prop:=Yj (Xj sh.toNat bs).1.bs (Xj sh.toNat bs).1.bad=0∧(Xj sh.toNat bs).1.good=true∧qt (Zp sh dim bs)=bs
open Classical in
noncomputable def Zq (j:JG)(bs:List UInt8):Int:=if ¬re j.shards j.dim bs then 4 else if 0<j.epoch∨0<j.last∨0<j.done.length+j.tr.length then 10 else 0
open Classical in
noncomputable def WX (j:JG)(bs:List UInt8):JG:=if Zq j bs=0 then Zp j.shards j.dim bs else j
theorem nP {sh last:Nat}{s z1 z2 z3 z4 z5:RS}{x y st k:Nat}{ps:List Int}(h1:vt 18446744073709551615 s=(x,z1))(h2:vt 18446744073709551615 z1=(y,z2))(h3:stF last z2=(st,z3))(h4:vt 4 z3=(k,z4))(h5:gY sh k (z4,[])=(z5,ps)):
  Qv sh last s=({z5 with good:=z5.good&&JF ps&&zv ps ps.length},⟨x,y,st,0,0,ps,[],[],[]⟩):=by
 unfold Qv;simp only[h1,h2,h3,h4,h5]
abbrev TVu (x y st:Nat)(pa:OA)(pc:Nat)(ps:List Int):TV:=⟨x,y,st,0,0,pa,pc,ps,none,0,[],none,0,[],none,0,[]⟩
theorem Q9 (v:Int)(vs:List Int):JF (v::vs)=decide (0<v):=by
 unfold JF;rw[jo (show 0<(v::vs).length from Nat.succ_pos _),jJ];rfl
theorem lP (ps:List Int)(k:Nat):zv ps (k+1)=(zv ps k&&decide (k=0∨ps.getD (k - 1) 0<ps.getD k 0)):=by
 unfold zv;rw[Bool.eq_iff_iff];simp only[jS,jF];exact ⟨λh=>⟨λi hi=>h i zo,h k zo⟩,λ⟨h1,h2⟩ i hi=>by
  by_cases e:i=k
  ·subst e;exact h2
  ·exact h1 i zo⟩
theorem lO (ps:List Int):zv ps 0=true:=by
 unfold zv;exact jo λi hi=>absurd hi (Nat.not_lt_zero i)
theorem Xr {ps:List Int}{k:Nat}{v:Int}(h:ps[k]? =some v):ps.getD k 0=v:=by rw[j8,h];rfl
theorem jCN {ts:List TB}(hk:qn ts)(x:Int)(u:Nat×TV){L:HL}:qi (vi u::qD ts::L) (qD (qZ ts x u)::L):=by
 rcases w9 ts hk x with ⟨p,b,q,rfl,hp,hq⟩|hn
 ·rw[wS hp hq]
  have h1:(p++(x,b)::q)[p.length]? =some ((x,b):TB):=by rw[kG (jz _),Nat.sub_self];rfl
  have h2:p.length<(p++(x,b)::q).length:=by rw[jc,jC];omega
  have h3:(p++(x,b)::q).set p.length ((x,u):TB)=p++(x,u)::q:=by rw[List.set_append_right _ _ (jz _),Nat.sub_self];rfl
  refine qi.trans (qi.cons (bI h1)) ?_;refine qi.trans (M:=vi u::qD ((p++(x,b)::q).eraseIdx p.length)::L) eG ?_;have:=lB h2 ((x,u):TB) (L:=L);rw[h3] at this;exact this
 ·rw[vH hn]
  exact bJ ts (x,u)
theorem jEG {sh dim:Int}(h1:1≤sh)(h2:sh≤4)(bs:List UInt8):PB (Zp sh dim bs)∧(Zp sh dim bs).tr.length≤8:=by
 have he:=(vT 1099511627776 ⟨bs,0,true⟩).1;have hl:=(vT 1099511627776 (vt 1099511627776 ⟨bs,0,true⟩).2).1;have h8:=(vT 8 (Kx bs).1).1;obtain ⟨a,b,c⟩:=jAC (sh:=sh.toNat) (l:=(lf bs).2.1) zo (vt 8 (Kx bs).1).1 ((vt 8 (Kx bs).1).2,[]) (by simp[qn]) (λ_ h=>by cases h);obtain ⟨d,e⟩:=jBU (lf bs).2.1 (vt 1048576 (lf bs).2.2).1 ((vt 1048576 (lf bs).2.2).2,[]) (by simp[qn]) (λ_ h=>by cases h);refine ⟨⟨kQ _,?_,kQ _,?_,a,d,b,e⟩,?_⟩
 ·show ((vt 1099511627776 ⟨bs,0,true⟩).1:Int)≤_
  omega
 ·show ((vt 1099511627776 (vt 1099511627776 ⟨bs,0,true⟩).2).1:Int)≤_
  omega
 ·have c':(Zp sh dim bs).tr.length≤0+(vt 8 (Kx bs).1).1:=c
  omega
theorem jCM {sh dim:Int}{bs:List UInt8}(h:Yj (Xj sh.toNat bs).1.bs (Xj sh.toNat bs).1.bad=0):(Zp sh dim bs).done.length≤bs.length:=by
 have hb:(Xj sh.toNat bs).1.bad=0:=by
  unfold Yj at h
  by_cases h1:(Xj sh.toNat bs).1.bad≠0
  ·rw[jb h1] at h
   exact h
  ·exact kv.1 h1
 have h1:=nQ _ _ _ _ hb;have h2:=zX h1;have h3:=pD _ _ _ h2.1;have h4:=Vy 1048576 (lf bs).2.2;have h5:=Vy 1099511627776 (vt 1099511627776 ⟨bs,0,true⟩).2;have h6:=Vy 1099511627776 ⟨bs,0,true⟩;have h7:(Zp sh dim bs).done.length≤(vt 1048576 (lf bs).2.2).2.bs.length+0:=ke (Nat.le_add_left _ _) h3.2;have h8:(lf bs).2.2.bs.length≤bs.length:=ke h5 h6;omega
theorem lz {j:JG}{bs:List UInt8}(h:¬re j.shards j.dim bs):Zq j bs=4∧WX j bs=j:=by
 have:Zq j bs=4:=by unfold Zq;rw[jb h]
 exact ⟨this,by unfold WX;rw[ja (by rw[this];decide)]⟩
theorem XH {j:JG}{bs:List UInt8}(h:re j.shards j.dim bs)(h2:0<j.epoch∨0<j.last∨0<j.done.length+j.tr.length):Zq j bs=10∧WX j bs=j:=by
 have:Zq j bs=10:=by unfold Zq;rw[ja (not_not_intro h),jb h2]
 exact ⟨this,by unfold WX;rw[ja (by rw[this];decide)]⟩
theorem jAy {j:JG}{bs:List UInt8}(h:re j.shards j.dim bs)(h2:¬(0<j.epoch∨0<j.last∨0<j.done.length+j.tr.length)):Zq j bs=0∧WX j bs=Zp j.shards j.dim bs:=by
 have:Zq j bs=0:=by unfold Zq;rw[ja (not_not_intro h),ja h2]
 exact ⟨this,by unfold WX;rw[jb this]⟩
abbrev ll (j:JG)(e l:Nat):JG:=⟨j.shards,j.dim,e,0,l,[],[]⟩
abbrev unF (b7 b8 b5:Nat):Value:=.func (.func 146) #[] #[.pointer (some ⟨b7,0,none⟩),.pointer (some ⟨b8,0,none⟩),.pointer (some ⟨b5,0,none⟩)]
structure RK (M:OM)(a:OA)(c:Nat)(s:RS):Prop where
 sl:qH M a s.bs.length 1 (s.bs.map B)
 c:s.bs.length≤c
 b:s.bs.length≤10000000
theorem RK.mono {M M':OM}{a:OA}{c:Nat}{s:RS}(h:RK M a c s)(hl:qU M M'):RK M' a c s:=⟨h.sl.mono hl,h.c,h.b⟩
abbrev rdS (r:Nat)(a:OA)(c:Nat)(s:RS):HP:=dH r a s.bs.length c s.bad
theorem wg (r:Nat)(a:OA)(c:Nat)(s:RS)(most:Nat)(M:OM)(L:HL)[hM:wY M L](h:RK M a c s):
  qh kY 145 [.pointer (some ⟨r,0,none⟩),.int .u64 most] (rdS r a c s::L)
   (λv L'=>v=.int .u64 (vt most s).1∧∃a' c',RK M a' c' (vt most s).2∧L'=rdS r a' c' (vt most s).2::L):=
 qh.mono (Zw r a c s.bs s.bad most M L h.sl h.c (by have:=h.b;omega)) λv L' ⟨h1,a',c',h2,h3,h4⟩=>⟨h1,a',c',⟨h2,h3,ke (Vy most s) h.b⟩,h4⟩
theorem d6 (b7 b8 b5 r q mt md:Nat)(a:OA)(c:Nat)(s:RS)(j:JG)(last:Nat)(M:OM)(L:HL)(h:RK M a c s)(hl:j.last=last):
  qh kY 146 [.pointer (some ⟨b7,0,none⟩),.pointer (some ⟨b8,0,none⟩),.pointer (some ⟨b5,0,none⟩)] (rdS r a c s::fS b8 s.good::JV b7 r::cP b5 q::gP q j mt md::qo M::L)
   (λv L'=>v=.int .u64 (stF last s).1∧∃a' c',RK M a' c' (stF last s).2∧L'=rdS r a' c' (stF last s).2::fS b8 (stF last s).2.good::JV b7 r::cP b5 q::gP q j mt md::qo M::L):=
 qh.mono (lJ b7 b8 b5 r q mt md a c s j last M L h.sl h.c (by have:=h.b;omega) hl) λv L' ⟨h1,a',c',h2,h3,h4⟩=>⟨h1,a',c',⟨h2,h3,ke (jCT last s) h.b⟩,h4⟩
set_option maxRecDepth 100000 in
theorem dz (M:OM)(p:Nat)(j:JG)(a:OA)(c:Nat)(bs:List UInt8)(L:HL)(hs:qH M a bs.length 1 (bs.map B))(hd1:1≤j.dim)(hd2:j.dim≤8)(hb:bs.length≤100000)(htj:j.tr.length≤100000)(hdj:j.done.length≤100000):
  qh kY 77 [vI p,.slice a bs.length c] (qE M p j::qo M::L) (λr L'=>r=.int .i64 (Zq j bs)∧∃M',qU M M'∧L'=qE M' p (WX j bs)::qo M'::L):=by
 refine wC λmt md ts hq=> ?_
 have s1:=hq.s1;have s2:=hq.s2;have hlts:ts.length=j.tr.length:=by rw[←hq.tr,jf]
 have hb':bs.length≤1000000:=by omega
 refine qg Tryz.func77 rfl rfl rfl ?_;refine Q.r ?_;refine vn (σ:=Nat×Nat) (λs=> [(0,vI p),(1,.slice a bs.length c),(5,.pointer (some ⟨s.1,0,none⟩))]) (λs=>cP s.1 s.2::qE M s.2 (ww j.shards j.dim)::gP p j mt md::gT mt ts::qD ts::gD md j.done::qo M::L) (λ_=>True) ?_ ?_
 ·refine Q.dgo [true,false,false,false,false] [8,12,13] [] [0,1,2,3,4,5,6,7,99999,0,0,0,0,0,0] ?_
  refine Q.rd2 ?_;refine D.two 8 12 [9,10,11,12,13,14] [8,9,10,11,13,14] zk rfl rfl rfl rfl zk zk ?_ ?_
  ·refine S.cr (args:=[.int .i64 j.shards,.int .i64 j.dim]) rfl (Qt M j.shards j.dim _ s1 s2 hd1 hd2) ?_
   rintro _ _ ⟨q,rfl,rfl⟩;refine Q.r ?_;refine Q.rd ?_;(repeat (intro b1;refine Q.rd ?_));refine N.tn ?_;exact ⟨(b1,q),zt,by exact eG,trivial⟩
  ·refine Q.r ?_;(repeat (intro b1;refine Q.r ?_))
   refine Q.rd2 ?_;refine D.e rfl rfl rfl ?_;refine S.cr (args:=[.int .i64 j.shards,.int .i64 j.dim]) rfl (Qt M j.shards j.dim _ s1 s2 hd1 hd2) ?_;rintro _ _ ⟨q,rfl,rfl⟩;refine Q.r ?_;refine Q.rd ?_;refine N.tn ?_;exact ⟨(b1,q),zt,by exact eG,trivial⟩
 rintro ⟨b5,q⟩ _;refine Q.r ?_;refine S.cr rfl (Zx a c bs M _ _ hs.rd zo) ?_;rintro _ _ ⟨r,a1,M1,rfl,hl1,hs1,rfl⟩;refine Q.r ?_;(repeat (intro b1;refine Q.r ?_));revert b1;intro b7;refine Vs q (λmt2 md2 ts2 hq2=> ?_);have ht2:ts2=[]:=by
  have:=hq2.tr;exact List.map_eq_nil_iff.1 this
 subst ht2;have hk0:RK M1 a1 bs.length ⟨bs,0,true⟩:=⟨hs1,jz _,(by show bs.length≤_;omega)⟩;have hE:=(vT 1099511627776 ⟨bs,0,true⟩).1;refine Q.dgo [false,false,false,false,true,false,false,true,false,false,false,false] [3,5,8,11] [] [0,1,2,4,3,5,6,7,8,9,10,11] ?_;refine Q.rd2 ?_;refine D.e rfl rfl rfl ?_;refine S.c1 (A:=rdS r a1 bs.length ⟨bs,0,true⟩) rfl (wg r a1 bs.length ⟨bs,0,true⟩ 1099511627776 M1 _ hk0) ?_;rintro _ _ ⟨rfl,a2,c2,hk1,rfl⟩;have eh:lf bs=((vt 1099511627776 ⟨bs,0,true⟩).1,(vt 1099511627776 (vt 1099511627776 ⟨bs,0,true⟩).2).1,(vt 1099511627776 (vt 1099511627776 ⟨bs,0,true⟩).2).2):=rfl;have hg1:(vt 1099511627776 ⟨bs,0,true⟩).2.good=true:=rfl;generalize vt 1099511627776 ⟨bs,0,true⟩=x1 at*;obtain ⟨e,z1⟩:=x1;dsimp only at*;have hLe:=(vT 1099511627776 z1).1;refine Q.r ?_;refine Q.rd2 ?_;refine D.e rfl rfl rfl ?_;refine S.c1 (A:=rdS r a2 c2 z1) rfl (wg r a2 c2 z1 1099511627776 M1 _ hk1) ?_;rintro _ _ ⟨rfl,a3,c3,hk2,rfl⟩;have hg2:(vt 1099511627776 z1).2.good=true:=hg1;generalize vt 1099511627776 z1=x2 at*;obtain ⟨l,z2⟩:=x2;dsimp only at*;refine Q.r ?_;refine Q.rd ?_;refine Q.r ?_;(repeat (intro b1;refine Q.r ?_));revert b1;intro b8;refine S.y (Y.mf rfl rfl) ?_;refine Q.r ?_;refine S.c1 (A:=rdS r a3 c3 z2) rfl (wg r a3 c3 z2 1048576 M1 _ hk2) ?_;rintro _ _ ⟨rfl,a4,c4,hk3,rfl⟩;have hN:=(vT 1048576 z2).1;have eD:Kx bs=mB l (vt 1048576 z2).1 ((vt 1048576 z2).2,[]):=by unfold Kx;rw[eh]
 have hg3:(vt 1048576 z2).2.good=true:=hg2;generalize vt 1048576 z2=x3 at*;obtain ⟨n,z3⟩:=x3;dsimp only at*;refine Q.r ?_;refine qx (σ:=OA×Nat) (λ_=> [(0,vI p),(1,.slice a bs.length c),(5,.pointer (some ⟨b5,0,none⟩)),(7,.pointer (some ⟨b7,0,none⟩)),(8,.pointer (some ⟨b8,0,none⟩)),(9,unF b7 b8 b5)])
  (λx=>rdS r x.1 x.2 (Kx bs).1::fS b8 (Kx bs).1.good::JV b7 r::cP b5 q::gP q (ll j e l) mt2 md2::gD md2 (Kx bs).2::gT mt2 []::qD []::gP p j mt md::gT mt ts::qD ts::gD md j.done::qo M1::L) (λx=>RK M1 x.1 x.2 (Kx bs).1) ?_ ?_
 ·refine ql (σ:=Nat×RS×List (Int×Int)×OA×Nat) (λx=> [(0,vI p),(1,.slice a bs.length c),(5,.pointer (some ⟨b5,0,none⟩)),(7,.pointer (some ⟨b7,0,none⟩)),(8,.pointer (some ⟨b8,0,none⟩)),(9,unF b7 b8 b5),(42,.int .u64 n),(43,.int .u64 x.1)])
   (λx=>rdS r x.2.2.2.1 x.2.2.2.2 x.2.1::fS b8 x.2.1.good::JV b7 r::cP b5 q::gP q (ll j e l) mt2 md2::gD md2 x.2.2.1::gT mt2 []::qD []::gP p j mt md::gT mt ts::qD ts::gD md j.done::qo M1::L)
   (λx=>x.1≤n∧RK M1 x.2.2.2.1 x.2.2.2.2 x.2.1∧mB l (n - x.1) (x.2.1,x.2.2.1)=Kx bs) (λx=>n - x.1) (0,z3,[],a4,c4) zt (by dsimp only;rw[hg3];exact eG) ⟨by omega,hk3,by rw[eD];rfl⟩ ?_
  rintro ⟨i,s,dn,a5,c5⟩ ⟨hi,hk,hD⟩;dsimp only at hi hk hD ⊢
  by_cases hlt:i<n
  ·refine Q.r ?_
   refine S.c1 (A:=rdS r a5 c5 s) rfl (wg r a5 c5 s 18446744073709551615 M1 _ hk) ?_;rintro _ _ ⟨rfl,a6,c6,hk4,rfl⟩;have en:n - i=(n - (i+1))+1:=by omega
   rw[en] at hD;unfold mB at hD;have hg4:(vt 18446744073709551615 s).2.good=s.good:=rfl;generalize vt 18446744073709551615 s=x4 at*;obtain ⟨b,z4⟩:=x4;dsimp only at*;refine Q.r ?_;rw[←hg4];refine Q.dgo [false,false,false,true,true,false,false,false,false,false,false,false,false] [6,7] [] [0,1,2,3,4,5,6,7] ?_;refine Q.rd2 ?_;refine D.ea rfl rfl rfl ?_;refine qm (L':=rdS r a6 c6 z4::fS b8 z4.good::JV b7 r::cP b5 q::gP q (ll j e l) mt2 md2::qo M1::gD md2 dn::gT mt2 []::qD []::gP p j mt md::gT mt ts::qD ts::gD md j.done::L) eG (S.crF (fs:=[]) (args:=[]) (cs:=[.pointer (some ⟨b7,0,none⟩),.pointer (some ⟨b8,0,none⟩),.pointer (some ⟨b5,0,none⟩)]) rfl rfl (d6 b7 b8 b5 r q mt2 md2 a6 c6 z4 (ll j e l) l M1 _ hk4 rfl) ?_);rintro _ _ ⟨rfl,a7,c7,hk5,rfl⟩;generalize stF l z4=x5 at*;obtain ⟨st,z5⟩:=x5;dsimp only at*;refine qO ?_;refine N.tn ?_;refine D.back ?_;refine Q.rd2 ?_;refine D.e rfl rfl rfl ?_;refine S.mu (g:=U64) (q:=(b:Int)) (r:=U64) (u:=(st:Int)) rfl rfl rfl ?_;refine Q.r ?_;refine Q.rd ?_;refine Q.r ?_;refine S.c1 (A:=rdS r a7 c7 z5) rfl (lT r a7 z5.bs.length c7 z5.bad _) ?_;rintro _ _ ⟨rfl,rfl⟩
   by_cases h0:z5.bs.length=0
   ·rw[jb h0] at hD
    rw[←hD];refine Q.r ?_;exact ⟨(a7,c7),zt,by exact eG,hk5⟩
   ·rw[ja h0] at hD
    refine Q.r ?_;refine S.y (Y.add rfl rfl) ?_;rw[wrap_u64 zo zo];refine Q.r ?_;exact ⟨(i+1,z5,qZ dn (b:Int) (st:Int),a7,c7),⟨rfl,rfl,rfl,rfl,rfl,rfl,rfl,jj some (by simp[jU]),trivial⟩,by exact eG,⟨hlt,hk5,hD⟩,jr n i hlt⟩
  ·have hin:i=n:=by omega
   subst hin;rw[Nat.sub_self] at hD;rw[←hD];refine Q.r ?_;exact ⟨(a5,c5),zt,by exact eG,hk⟩
 rintro ⟨a5,c5⟩ hk4;dsimp only at hk4 ⊢;refine Q.r ?_;refine S.c1 (A:=rdS r a5 c5 (Kx bs).1) rfl (wg r a5 c5 (Kx bs).1 8 M1 _ hk4) ?_;rintro _ _ ⟨rfl,a6,c6,hk6,rfl⟩;have hN8:=(vT 8 (Kx bs).1).1;have eT:Xj j.shards.toNat bs=nR j.shards.toNat l (vt 8 (Kx bs).1).1 ((vt 8 (Kx bs).1).2,[]):=by unfold Xj;rw[eh]
 have hg6:(vt 8 (Kx bs).1).2.good=(Kx bs).1.good:=rfl;generalize vt 8 (Kx bs).1=x6 at*;obtain ⟨m,z6⟩:=x6;dsimp only at*;rw[←hg6];refine Q.r ?_;refine qx (σ:=OA×Nat×(OM)×List TB) (λ_=> [(0,vI p),(1,.slice a bs.length c),(5,.pointer (some ⟨b5,0,none⟩)),(7,.pointer (some ⟨b7,0,none⟩)),(8,.pointer (some ⟨b8,0,none⟩))])
  (λx=>rdS r x.1 x.2.1 (Xj j.shards.toNat bs).1::fS b8 (Xj j.shards.toNat bs).1.good::JV b7 r::cP b5 q::gP q (ll j e l) mt2 md2::gD md2 (Kx bs).2::gT mt2 x.2.2.2::qD x.2.2.2::gP p j mt md::gT mt ts::qD ts::gD md j.done::qo x.2.2.1::L)
  (λx=>RK x.2.2.1 x.1 x.2.1 (Xj j.shards.toNat bs).1∧qU M1 x.2.2.1∧x.2.2.2.map (λu=>(u.1,u.2.2.abs))=(Xj j.shards.toNat bs).2∧∀u∈x.2.2.2,ZE x.2.2.1 u.2.2) ?_ ?_
 ·refine ql (σ:=Nat×RS×OA×Nat×(OM)×List TB) (λx=> [(0,vI p),(1,.slice a bs.length c),(5,.pointer (some ⟨b5,0,none⟩)),(7,.pointer (some ⟨b7,0,none⟩)),(8,.pointer (some ⟨b8,0,none⟩)),(9,unF b7 b8 b5),(60,.int .u64 m),(61,.int .u64 x.1)])
   (λx=>rdS r x.2.2.1 x.2.2.2.1 x.2.1::fS b8 x.2.1.good::JV b7 r::cP b5 q::gP q (ll j e l) mt2 md2::gD md2 (Kx bs).2::gT mt2 x.2.2.2.2.2::qD x.2.2.2.2.2::gP p j mt md::gT mt ts::qD ts::gD md j.done::qo x.2.2.2.2.1::L)
   (λx=>x.1≤m∧RK x.2.2.2.2.1 x.2.2.1 x.2.2.2.1 x.2.1∧qU M1 x.2.2.2.2.1∧(∀u∈x.2.2.2.2.2,ZE x.2.2.2.2.1 u.2.2)∧qn x.2.2.2.2.2∧nR j.shards.toNat l (m - x.1) (x.2.1,x.2.2.2.2.2.map (λu=>(u.1,u.2.2.abs)))=Xj j.shards.toNat bs) (λx=>m - x.1) (0,z6,a6,c6,M1,[]) zt eG ⟨by omega,hk6,qU.refl M1,λ_ h=>(by cases h),(by simp[qn]),by rw[eT];rfl⟩ ?_
  rintro ⟨i,s,a7,c7,M2,us⟩ ⟨hi,hk,hl2,huo,hko,hD⟩;dsimp only at hi hk hl2 huo hko hD ⊢
  by_cases hlt:i<m
  ·refine Q.r ?_
   have en:m - i=(m - (i+1))+1:=by omega
   rw[en] at hD;unfold nR at hD;dsimp only at hD;refine Q.dgo [false,false,true,false,false,false,false,false,false,false,false,false,false] [1,3,6] [] [0,2,1,3,4,5,6,7] ?_;refine Q.rd2 ?_;refine D.e rfl rfl rfl ?_;refine S.c1 (A:=rdS r a7 c7 s) rfl (wg r a7 c7 s 18446744073709551615 M2 _ hk) ?_;rintro _ _ ⟨rfl,a8,c8,hk8,rfl⟩;have hg8:(vt 18446744073709551615 s).2.good=s.good:=rfl;generalize e8:vt 18446744073709551615 s=x8 at*;obtain ⟨x,z8⟩:=x8;dsimp only at*;refine Q.r ?_;refine Q.rd2 ?_;refine D.e rfl rfl rfl ?_;refine S.c1 (A:=rdS r a8 c8 z8) rfl (wg r a8 c8 z8 18446744073709551615 M2 _ hk8) ?_;rintro _ _ ⟨rfl,a9,c9,hk9,rfl⟩;have hg9:(vt 18446744073709551615 z8).2.good=s.good:=hg8;generalize e9:vt 18446744073709551615 z8=x9 at*;obtain ⟨y,z9⟩:=x9;dsimp only at*;refine Q.r ?_;refine Q.rd ?_;(repeat (intro b1;refine Q.rd ?_));refine Q.r ?_;revert b1;intro bt;rw[←hg9];refine qm (L':=rdS r a9 c9 z9::fS b8 z9.good::JV b7 r::cP b5 q::gP q (ll j e l) mt2 md2::qo M2::pt bt (cl (⟨x,y,0,0,0,none,0,[],none,0,[],none,0,[],none,0,[]⟩:TV).cells 150)::gD md2 (Kx bs).2::gT mt2 us::qD us::gP p j mt md::gT mt ts::qD ts::gD md j.done::L) eG (S.crF (fs:=[]) (args:=[]) (cs:=[.pointer (some ⟨b7,0,none⟩),.pointer (some ⟨b8,0,none⟩),.pointer (some ⟨b5,0,none⟩)]) rfl rfl (d6 b7 b8 b5 r q mt2 md2 a9 c9 z9 (ll j e l) l M2 _ hk9 rfl) ?_);rintro _ _ ⟨rfl,a10,c10,hk10,rfl⟩;generalize e10:stF l z9=x10 at*;obtain ⟨st,z10⟩:=x10;dsimp only at*;refine Q.r ?_;refine S.c1 (A:=rdS r a10 c10 z10) rfl (wg r a10 c10 z10 4 M2 _ hk10) ?_;rintro _ _ ⟨rfl,a11,c11,hk11,rfl⟩;have hg11:(vt 4 z10).2.good=z10.good:=rfl;have hn4:=(vT 4 z10).1;generalize e11:vt 4 z10=x11 at*;obtain ⟨np,z11⟩:=x11;dsimp only at*;rw[←hg11];refine Q.r ?_;generalize e12:gY j.shards.toNat np (z11,[])=x12 at*;obtain ⟨z12,ps⟩:=x12;have hshn:((j.shards.toNat:Nat):Int)=j.shards:=Int.toNat_of_nonneg zo
   have hsw:IntKind.u64.wrap j.shards=((j.shards.toNat:Nat):Int):=by rw[wrap_u64 zo zo,hshn]
   refine qx (σ:=OA×Nat×OA×Nat) (λ_=> [(0,vI p),(1,.slice a bs.length c),(5,.pointer (some ⟨b5,0,none⟩)),(7,.pointer (some ⟨b7,0,none⟩)),(8,.pointer (some ⟨b8,0,none⟩)),(9,unF b7 b8 b5),(12,.pointer (some ⟨bt,0,none⟩)),(60,.int .u64 m),(61,.int .u64 i)])
    (λw=>rdS r w.1 w.2.1 z12::fS b8 z12.good::JV b7 r::cP b5 q::gP q (ll j e l) mt2 md2::qo M2::vi (bt,TVu x y st w.2.2.1 w.2.2.2 ps)::slO 3 1 w.2.2.1 ps.length w.2.2.2 (ps.map I64)::gD md2 (Kx bs).2::gT mt2 us::qD us::gP p j mt md::gT mt ts::qD ts::gD md j.done::L) (λw=>RK M2 w.1 w.2.1 z12∧ps.length≤4∧∀v∈ps,0≤v∧v≤j.shards) ?_ ?_
   ·refine ql (σ:=Nat×RS×List Int×OA×Nat×OA×Nat) (λw=> [(0,vI p),(1,.slice a bs.length c),(5,.pointer (some ⟨b5,0,none⟩)),(7,.pointer (some ⟨b7,0,none⟩)),(8,.pointer (some ⟨b8,0,none⟩)),(9,unF b7 b8 b5),(12,.pointer (some ⟨bt,0,none⟩)),(60,.int .u64 m),(61,.int .u64 i),(77,.int .u64 np),(78,.int .u64 w.1)])
     (λw=>rdS r w.2.2.2.1 w.2.2.2.2.1 w.2.1::fS b8 w.2.1.good::JV b7 r::cP b5 q::gP q (ll j e l) mt2 md2::qo M2::vi (bt,TVu x y st w.2.2.2.2.2.1 w.2.2.2.2.2.2 w.2.2.1)::slO 3 1 w.2.2.2.2.2.1 w.2.2.1.length w.2.2.2.2.2.2 (w.2.2.1.map I64)::gD md2 (Kx bs).2::gT mt2 us::qD us::gP p j mt md::gT mt ts::qD ts::gD md j.done::L)
     (λw=>w.1≤np∧RK M2 w.2.2.2.1 w.2.2.2.2.1 w.2.1∧w.2.2.1.length=w.1∧(∀v∈w.2.2.1,0≤v∧v≤j.shards)∧gY j.shards.toNat (np - w.1) (w.2.1,w.2.2.1)=(z12,ps)) (λw=>np - w.1) (0,z11,[],a11,c11,none,0) zt eG ⟨by omega,hk11,rfl,λ_ h=>(by cases h),e12⟩ ?_
    rintro ⟨k,z,qs,a13,c13,pa,pc⟩ ⟨hkn,hk13,hql,hqb,hF⟩;dsimp only at hkn hk13 hql hqb hF ⊢
    by_cases hlt2:k<np
    ·refine Q.r ?_
     have en2:np - k=(np - (k+1))+1:=by omega
     rw[en2] at hF;unfold gY at hF;refine Q.dgo [false,false,true,false,false,false,true,false,false,false,false,true,false,false,false] [12,14,15,19] [19] [0,1,2,3,4,5,6,7,8,9,10,11,12,13,14,15,16,17,18,19] ?_;refine Q.rd2 ?_;refine D.y rfl rfl rfl zk (Y.cvi rfl) ?_;rw[hsw];refine Q.rd2 ?_;refine D.e rfl rfl rfl ?_;refine S.c1 (A:=rdS r a13 c13 z) rfl (wg r a13 c13 z j.shards.toNat M2 _ hk13) ?_;rintro _ _ ⟨rfl,a14,c14,hk14,rfl⟩;have hg14:(vt j.shards.toNat z).2.good=z.good:=rfl;have hv4:=(vT j.shards.toNat z).1;generalize vt j.shards.toNat z=x14 at*;obtain ⟨v,z14⟩:=x14;dsimp only at*;rw[←hg14];refine Q.r ?_;refine Q.rd2 ?_;refine D.y rfl rfl rfl zk (Y.cvi rfl) ?_;rw[vl zo zo];refine Q.rd2 ?_;refine D.e rfl rfl rfl ?_;refine Q.r ?_;(repeat (intro b1;refine Q.r ?_));refine Q.rd2 ?_;refine D.e rfl rfl rfl ?_;refine S.app rfl rfl (vA.sl vg.row zr zr) zr zo zo (λa7 c7=> ?_);refine Q.r ?_;refine Q.rd2 ?_;refine Q.dc rfl rfl rfl rfl ?_;refine Q.r ?_;refine Q.rd2 ?_;refine Q.r ?_;refine S.y (Y.add rfl rfl) ?_;rw[wrap_u64 zo zo];refine Q.r ?_;refine ⟨(k+1,z14,qs++[(v:Int)],a14,c14,a7,c7),⟨rfl,rfl,rfl,rfl,rfl,rfl,rfl,rfl,rfl,rfl,jj some (by simp[jU]),trivial⟩,?_,⟨hlt2,hk14,by dsimp only;rw[qF,hql],λw hw=> ?_,hF⟩,jr np k hlt2⟩
     ·dsimp only[vi,TV.cells,TVu]
      rw[qF,jq,jL,kC];exact eG
     ·rcases jy.1 hw with hw|hw
      ·exact hqb w hw
      ·rw[ji] at hw;subst hw;exact ⟨by omega,by omega⟩
    ·have hkk:k=np:=by omega
     subst hkk;rw[Nat.sub_self] at hF;obtain ⟨rfl,rfl⟩:z=z12∧qs=ps:=by
      have:=hF;simp only[gY,js] at this;exact this
     refine Q.r ?_;exact ⟨(a13,c13,pa,pc),zt,by exact eG,hk13,by omega,hqb⟩
   rintro ⟨a13,c13,pa,pc⟩ ⟨hk13,hpl,hpb⟩;dsimp only at hk13 hpl hpb ⊢;refine wm pa (λM3 hl3 hs3=> ?_);refine wl ?_;refine vn (σ:=Unit) (λ_=> [(0,vI p),(1,.slice a bs.length c),(5,.pointer (some ⟨b5,0,none⟩)),(7,.pointer (some ⟨b7,0,none⟩)),(8,.pointer (some ⟨b8,0,none⟩)),(9,unF b7 b8 b5),(12,.pointer (some ⟨bt,0,none⟩)),(60,.int .u64 m),(61,.int .u64 i)]) (λ_=>rdS r a13 c13 z12::fS b8 (z12.good&&JF ps)::JV b7 r::cP b5 q::gP q (ll j e l) mt2 md2::qo M3::vi (bt,TVu x y st pa pc ps)::gD md2 (Kx bs).2::gT mt2 us::qD us::gP p j mt md::gT mt ts::qD ts::gD md j.done::L) (λ_=>True) ?_ ?_
   ·obtain ⟨zb,zbad,zg⟩:=z12
    dsimp only
    cases zg with
    |false=>
     refine Q.r ?_;rw[jN];exact ⟨(),zt,by exact eG,trivial⟩
    |true=>
     cases ps with
     |nil=>
      refine Q.r ?_;rw[show JF []=false from rfl,jQ];exact ⟨(),zt,by exact eG,trivial⟩
     |cons v0 vs=>
      obtain ⟨bp,op,hpa,cp⟩:=qH.cm1 (g:=I64) (k:=0) hs3 rfl rfl;subst hpa;have hvl:(v0::vs).length=vs.length+1:=rfl
      by_cases h0:0<v0
      ·refine Q.r ?_
       rw[Q9,jo h0,jT];exact ⟨(),zt,by exact eG,trivial⟩
      ·refine Q.r ?_
       rw[Q9,jv h0,jQ];exact ⟨(),zt,by exact eG,trivial⟩
   rintro _ _;refine Q.r ?_;refine qx (σ:=Unit) (λ_=> [(0,vI p),(1,.slice a bs.length c),(5,.pointer (some ⟨b5,0,none⟩)),(7,.pointer (some ⟨b7,0,none⟩)),(8,.pointer (some ⟨b8,0,none⟩)),(9,unF b7 b8 b5),(12,.pointer (some ⟨bt,0,none⟩)),(60,.int .u64 m),(61,.int .u64 i)]) (λ_=>rdS r a13 c13 z12::fS b8 (z12.good&&JF ps&&zv ps ps.length)::JV b7 r::cP b5 q::gP q (ll j e l) mt2 md2::qo M3::vi (bt,TVu x y st pa pc ps)::gD md2 (Kx bs).2::gT mt2 us::qD us::gP p j mt md::gT mt ts::qD ts::gD md j.done::L) (λ_=>True) ?_ ?_
   ·refine ql (σ:=Nat) (λk=> [(0,vI p),(1,.slice a bs.length c),(5,.pointer (some ⟨b5,0,none⟩)),(7,.pointer (some ⟨b7,0,none⟩)),(8,.pointer (some ⟨b8,0,none⟩)),(9,unF b7 b8 b5),(12,.pointer (some ⟨bt,0,none⟩)),(60,.int .u64 m),(61,.int .u64 i),(125,.int .i64 ps.length),(126,.int .i64 k)]) (λk=>rdS r a13 c13 z12::fS b8 (z12.good&&JF ps&&zv ps k)::JV b7 r::cP b5 q::gP q (ll j e l) mt2 md2::qo M3::vi (bt,TVu x y st pa pc ps)::gD md2 (Kx bs).2::gT mt2 us::qD us::gP p j mt md::gT mt ts::qD ts::gD md j.done::L) (λk=>k≤ps.length) (λk=>ps.length - k) 0 zt (by rw[lO,jT];exact eG) (jw _) ?_
    intro k hk
    by_cases hlt2:k<ps.length
    ·obtain ⟨w,hw⟩:=qw hlt2
     obtain ⟨bp,op,hpa,cp⟩:=qH.cm1 (g:=I64) hs3 hw rfl;subst hpa;have hS:=lP ps k;rw[Xr hw] at hS;generalize hG:(z12.good&&JF ps&&zv ps k)=g;have hG2:(z12.good&&JF ps&&zv ps (k+1))=(g&&decide (k=0∨ps.getD (k - 1) 0<w)):=by rw[hS,←Bool.and_assoc,hG]
     refine Q.r ?_
     cases g with
     |false=>
      refine Q.dgo [false,true,false,false,false,true,true,false,false,false,false,false,false,false] [25] [25] [0,1,2,3,4,5,6,7,8,9,10,11,12,13,14,15,16,17,18,19,20,21,22,23,24,25] ?_;refine Q.rd4 ?_;refine Q.dc rfl rfl rfl rfl ?_;refine Q.r ?_;refine Q.rd2 ?_;refine Q.r ?_;exact ⟨k+1,zt,by rw[hG2,jN];exact eG,hlt2,jr ps.length k hlt2⟩
     |true=>
      by_cases hk0':k=0
      ·refine Q.dgo [false,true,false,false,false,true,true,false,false,false,false,false,false,false] [25] [25] [0,1,2,3,4,5,6,7,8,9,10,11,12,13,14,15,16,17,18,19,20,21,22,23,24,25] ?_
       refine Q.rd4 ?_;refine Q.dc rfl rfl rfl rfl ?_;refine Q.r ?_;refine Q.rd2 ?_;refine Q.r ?_;exact ⟨k+1,zt,by rw[hG2,jo (Or.inl hk0'),jT];exact eG,hlt2,jr ps.length k hlt2⟩
      ·obtain ⟨u,hu⟩:=qw (l:=ps) (k:=k - 1) zo
       obtain ⟨bp2,op2,hpa2,cp2⟩:=qH.cm1 (g:=I64) hs3 hu rfl;obtain ⟨rfl,rfl⟩:bp2=bp∧op2=op:=by
        simp only[jk,Addr.mk.injEq] at hpa2;exact ⟨hpa2.1.symm,hpa2.2.1.symm⟩
       have hk1':(k:Int) - 1=((k - 1:Nat):Int):=by omega
       have hk2':k - 1<ps.length:=by omega
       have hw3:decide (k=0∨ps.getD (k - 1) 0<w)=decide (u<w):=by
        rw[Xr hu,decide_eq_decide];exact ⟨λh=>h.elim (λh=>absurd h hk0') id,Or.inr⟩
       refine Q.dgo [false,true,false,false,false,true,true,false,false,false,false,false,false,false] [25] [25] [0,1,2,3,4,5,6,7,8,9,10,11,12,13,14,15,16,17,18,19,20,21,22,23,24,25] ?_;refine Q.rd4 ?_;refine D.y rfl rfl rfl zk (Y.guard rfl (Y.ia (k:=k - 1) (m:=ps.length) rfl rfl hk1' hk2')) ?_;refine Q.rd4 ?_;refine Q.dc rfl rfl rfl rfl ?_;refine Q.r ?_;refine Q.rd2 ?_;refine Q.r ?_;exact ⟨k+1,zt,by rw[hG2,hw3,jJ];exact eG,hlt2,jr ps.length k hlt2⟩
    ·have hke:k=ps.length:=by omega
     subst hke;refine Q.r ?_;exact ⟨(),zt,by exact eG,trivial⟩
   rintro _ _;have hT:=nP e8 e9 e10 e11 e12;rw[hT] at hD;dsimp only at hD;refine Q.dgo [false,false,false,true,true,false,true,false,false,false,false,false,false,false] [10] [] [0,1,2,3,4,5,6,7,8,9,10] ?_;refine Q.rd2 ?_;refine D.e rfl rfl rfl ?_;refine S.mu (g:=U64) (q:=(x:Int)) (r:=W5) (u:=((bt,TVu x y st pa pc ps):Nat×TV)) rfl rfl rfl ?_;refine Q.r ?_;refine Q.rd ?_;refine Q.r ?_;refine S.y (Y.add rfl rfl) ?_;rw[wrap_u64 zo zo];refine Q.r ?_;refine ⟨(i+1,{z12 with good:=z12.good&&JF ps&&zv ps ps.length},a13,c13,M3,qZ us (x:Int) (bt,TVu x y st pa pc ps)),⟨rfl,rfl,rfl,rfl,rfl,rfl,rfl,jj some (by simp[jU]),trivial⟩,?_,⟨hlt,⟨hk13.sl.mono hl3,hk13.c,hk13.b⟩,hl2.trans hl3,λw hw=> ?_,vL hko _ _,?_⟩,jr m i hlt⟩
   ·dsimp only
    refine qi.trans (M:=vi (bt,TVu x y st pa pc ps)::qD us::rdS r a13 c13 z12::fS b8 (z12.good&&JF ps&&zv ps ps.length)::JV b7 r::cP b5 q::gP q (ll j e l) mt2 md2::gD md2 (Kx bs).2::gT mt2 (qZ us (x:Int) (bt,TVu x y st pa pc ps))::gP p j mt md::gT mt ts::qD ts::gD md j.done::qo M3::L) eG ?_;refine qi.trans (jCN hko (x:Int) _) ?_;exact eG
   ·dsimp only at hw ⊢
    have hw2:w.2=(bt,TVu x y st pa pc ps)∨w∈us:=by
     rcases wy hw with h|h
     ·exact .inr h
     ·exact .inl (by rw[h])
    rcases hw2 with e|hw
    ·rw[e]
     exact ⟨hs3,qH.nil0,qH.nil0,qH.nil0,λo ho=>(by cases ho),(by show ps.length≤_;omega),jw _,jw _,jw _⟩
    ·exact (huo w hw).mono hl3
   ·dsimp only
    rw[fi (κ:=Int) (α:=Nat×TV) (λu=>u.2.abs) us (x:Int) (bt,TVu x y st pa pc ps)];exact hD
  ·have him:i=m:=by omega
   subst him;rw[Nat.sub_self] at hD;rw[←hD];refine Q.r ?_;exact ⟨(a7,c7,M2,us),zt,kZ _,hk,hl2,rfl,huo⟩
 rintro ⟨a14,c14,M2,us⟩ ⟨hk14,hl14,hus,huo⟩;dsimp only at hk14 hl14 hus huo ⊢;have hG:Zp j.shards j.dim bs=⟨j.shards,j.dim,e,0,l,(Xj j.shards.toNat bs).2,(Kx bs).2⟩:=by unfold Zp;rw[eh]
 have hlM:=hl1.trans hl14;have hqG:QR M2 (Zp j.shards j.dim bs) us:=by rw[hG];exact ⟨s1,s2,hus,huo⟩
 have hshut:∀L',qi (gP q (ll j e l) mt2 md2::gT mt2 us::qD us::gD md2 (Kx bs).2::L') (qE M2 q (Zp j.shards j.dim bs)::L'):=λL'=>by
  have:=qR (p:=q) (mt:=mt2) (md:=md2) (L:=L') hqG;rw[hG] at this ⊢;exact this
 obtain ⟨hpb,htl⟩:=jEG (dim:=j.dim) s1 s2 bs;have hlen:=jCM (sh:=j.shards) (dim:=j.dim) (bs:=bs);refine Q.r ?_;refine S.c1 (A:=rdS r a14 c14 (Xj j.shards.toNat bs).1) rfl (Zy r a14 c14 (Xj j.shards.toNat bs).1.bs (Xj j.shards.toNat bs).1.bad _) ?_;rintro _ _ ⟨rfl,rfl⟩
 by_cases hend:Yj (Xj j.shards.toNat bs).1.bs (Xj j.shards.toNat bs).1.bad=0
 ·have hdl:=hlen hend
  rw[hend]
  cases hgd:(Xj j.shards.toNat bs).1.good with
  |true=>
   refine Q.r ?_;refine qm (qi.trans (M:=gP q (ll j e l) mt2 md2::gT mt2 us::qD us::gD md2 (Kx bs).2::qo M2::cP b5 q::gP p j mt md::gT mt ts::qD ts::gD md j.done::L) eG (hshut _)) ?_;refine S.cg q rfl (yU M2 q (Zp j.shards j.dim bs) _ hpb zo zo) ?_;rintro _ _ ⟨ap,cp,M4,rfl,hl4,rfl⟩;refine Q.r ?_;refine qQ ap (λM5 hl5 hs5=> ?_);have hlM5:=hlM.trans (hl4.trans hl5);refine S.c1 (A:=qo M5) rfl (f6 ap a cp c (qt (Zp j.shards j.dim bs)) bs M5 _ hs5 (hs.mono hlM5) zo) ?_;rintro _ _ ⟨rfl,rfl⟩
   by_cases hpk:qt (Zp j.shards j.dim bs)=bs
   ·rw[jo hpk]
    have hok:re j.shards j.dim bs:=⟨hend,hgd,hpk⟩;refine Q.r ?_
    by_cases he0:0<j.epoch
    ·have hfu:=XH hok (.inl he0)
     refine Q.dgo [false,false,false,true,true,false,true] [] [] [0,1,2,3,4,5,6,7,8,9,10,11,12,13,14,15,16,17,18,19,20,21,22,23,24,25] ?_;refine Q.rd7 ?_;refine Q.r ?_;rw[hfu.1,hfu.2];exact N.t rfl (qi.trans (M:=gP p j mt md::gT mt ts::qD ts::gD md j.done::qo M5::L) eG (qR (hq.mono hlM5))) ⟨rfl,M5,hlM5,rfl⟩
    ·by_cases hl0:0<j.last
     ·have hfu:=XH hok (.inr (.inl hl0))
      refine Q.dgo [false,false,false,true,true,false,true] [] [] [0,1,2,3,4,5,6,7,8,9,10,11,12,13,14,15,16,17,18,19,20,21,22,23,24,25] ?_;refine Q.rd7 ?_;refine Q.r ?_;rw[hfu.1,hfu.2];exact N.t rfl (qi.trans (M:=gP p j mt md::gT mt ts::qD ts::gD md j.done::qo M5::L) eG (qR (hq.mono hlM5))) ⟨rfl,M5,hlM5,rfl⟩
     ·by_cases hz:0<j.done.length+j.tr.length
      ·have hfu:=XH hok (.inr (.inr hz))
       refine Q.dgo [false,false,false,true,true,false,true] [] [] [0,1,2,3,4,5,6,7,8,9,10,11,12,13,14,15,16,17,18,19,20,21,22,23,24,25] ?_;refine Q.rd7 ?_;refine Q.r ?_;rw[hfu.1,hfu.2];exact N.t rfl (qi.trans (M:=gP p j mt md::gT mt ts::qD ts::gD md j.done::qo M5::L) eG (qR (hq.mono hlM5))) ⟨rfl,M5,hlM5,rfl⟩
      ·have hfu:=jAy hok (λh=>h.elim he0 λh=>h.elim hl0 hz)
       refine Q.dgo [false,false,false,true,true,false,true] [] [] [0,1,2,3,4,5,6,7,8,9,10,11,12,13,14,15,16,17,18,19,20,21,22,23,24,25] ?_;refine Q.rd7 ?_;refine Q.r ?_;refine jA8 q (λmt3 md3 us3 hq3=> ?_);refine Q.r ?_;rw[hfu.1,hfu.2];exact N.t rfl (qi.trans (M:=gP p (Zp j.shards j.dim bs) mt3 md3::gT mt3 us3::qD us3::gD md3 (Zp j.shards j.dim bs).done::qo M5::L) eG (qR (hq3.mono hl5))) ⟨rfl,M5,hlM5,rfl⟩
   ·rw[jv hpk]
    have hno:=lz (j:=j) (bs:=bs) (λh=>hpk h.2.2);refine Q.r ?_;rw[hno.1,hno.2];exact N.t rfl (qi.trans (M:=gP p j mt md::gT mt ts::qD ts::gD md j.done::qo M5::L) eG (qR (hq.mono hlM5))) ⟨rfl,M5,hlM5,rfl⟩
  |false=>
   have hno:=lz (j:=j) (bs:=bs) (λh=>by have:=h.2.1;rw[hgd] at this;cases this);refine Q.r ?_;rw[hno.1,hno.2];exact N.t rfl (qi.trans (M:=gP p j mt md::gT mt ts::qD ts::gD md j.done::qo M2::L) eG (qR (hq.mono hlM))) ⟨rfl,M2,hlM,rfl⟩
 ·have hno:=lz (j:=j) (bs:=bs) (λh=>hend h.1)
  refine Q.r ?_;rw[hno.1,hno.2];exact N.t rfl (qi.trans (M:=gP p j mt md::gT mt ts::qD ts::gD md j.done::qo M2::L) eG (qR (hq.mono hlM))) ⟨rfl,M2,hlM,rfl⟩
end Go.Proofs.YtlnfjhiphlfkjaaGreatDoor
namespace Go.Proofs.YtlnfjhiphlfkjaaGreatDoor
open Go Go.SX
theorem yw {z:Int}{most:Nat}{g:Bool}{rest:List UInt8}(h0:0≤z)(h1:z≤most)(hm:z≤18446744073709551615):vt most ⟨numI z++rest,0,g⟩=(z.toNat,⟨rest,0,g⟩):=by
 unfold vt;dsimp only;rw[rZ rest h0 hm h1]
theorem jAK {z:Int}{last:Nat}{rest:List UInt8}(h0:0<z)(h1:z≤last)(h2:z≤1099511627776):stF last ⟨numI z++rest,0,true⟩=(z.toNat,⟨rest,0,true⟩):=by
 unfold stF;rw[yw zo zo zo];have e1:decide (0<z.toNat)=true:=jo zo;have e2:decide (z.toNat≤last)=true:=jo zo;simp only[e1,e2,jT]
theorem jC8 (z:Int):(numI z).length≠0:=by
 unfold numI
 split
 ·simp
 ·rw[JC]
  split<;>simp
theorem jBT {last:Nat}(hl:last≤1099511627776){rest:List UInt8}(hr:rest.length≠0):∀(ds acc:List (Int×Int)),(∀d∈ds,0≤d.1∧d.1≤18446744073709551615∧0<d.2∧d.2≤last)→qn (acc++ds)→
  mB last ds.length (⟨ds.flatMap packD++rest,0,true⟩,acc)=(⟨rest,0,true⟩,acc++ds)
 | [],acc,_,_=>by
  unfold mB
  simp
 |d::ds,acc,h,hk=>by
  obtain ⟨a,b,c,e⟩:=h d kg;have e1:(d::ds).flatMap packD++rest=numI d.1++(numI d.2++(ds.flatMap packD++rest)):=by
   rw[jK];unfold packD;simp only[ju]
  have hne:(ds.flatMap packD++rest).length≠0:=by rw[jc];omega
  have hno:∀u∈acc,u.1≠d.1:=by
   unfold qn at hk;rw[jq,List.nodup_append] at hk;intro u hu;exact hk.2.2 u.1 (jA hu) d.1 (by simp)
  rw[e1,jC];unfold mB;dsimp only;rw[yw a zo b,jAK c e zo];dsimp only;rw[ja hne,Int.toNat_of_nonneg a,Int.toNat_of_nonneg zo,vH hno];have:=jBT hl hr ds (acc++[(d.1,d.2)]) (λx hx=>h x (jV _ hx)) (by rw[ju];exact hk);rw[this,ju];rfl
theorem jAX {sh:Nat}{g:Bool}{rest:List UInt8}:∀(ps acc:List Int),(∀q∈ps,0≤q∧q≤sh∧q≤18446744073709551615)→gY sh ps.length (⟨ps.flatMap numI++rest,0,g⟩,acc)=(⟨rest,0,g⟩,acc++ps)
 | [],acc,_=>by
  unfold gY
  simp
 |q::ps,acc,h=>by
  obtain ⟨a,b,c⟩:=h q kg;have e1:(q::ps).flatMap numI++rest=numI q++(ps.flatMap numI++rest):=by rw[jK,ju]
  rw[e1,jC];unfold gY;dsimp only;rw[yw a b c];dsimp only;rw[Int.toNat_of_nonneg a,jAX ps (acc++[q]) λx hx=>h x (jV _ hx),ju];rfl
structure TU (sh last:Nat)(t:TR):Prop where
 x0:0≤t.txn
 x1:t.txn≤18446744073709551615
 b0:0≤t.batch
 b1:t.batch≤18446744073709551615
 s0:0<t.stamp
 s1:t.stamp≤last
 r:zI t.parts
 pl:t.parts.length≤4
 pn:t.parts≠[]
 pb:∀q∈t.parts,1≤q∧q≤sh
abbrev TR.bare (t:TR):TR:=⟨t.txn,t.batch,t.stamp,0,0,t.parts,[],[],[]⟩
theorem jCW {ps:List Int}(h:zI ps):zv ps ps.length=true:=by
 unfold zv;refine jo λi hi=> ?_
 by_cases h0:i=0
 ·exact .inl h0
 ·right
  obtain ⟨u,hu⟩:=qw (l:=ps) (k:=i - 1) zo;obtain ⟨w,hw⟩:=qw hi;rw[Xr hu,Xr hw];obtain ⟨a,rfl⟩:=jm.1 hu;obtain ⟨b,rfl⟩:=jm.1 hw;exact List.pairwise_iff_getElem.1 h (i - 1) i a b zo
theorem jCQ {sh last:Nat}(hl:last≤1099511627776)(hs:sh≤4){t:TR}(h:TU sh last t)(rest:List UInt8):Qv sh last ⟨wI t++rest,0,true⟩=(⟨rest,0,true⟩,t.bare):=by
 have e1:wI t++rest=numI t.txn++(numI t.batch++(numI t.stamp++(numI (t.parts.length:Int)++(t.parts.flatMap numI++rest)))):=by unfold wI;simp only[ju]
 have hpl:=h.pl;have h0:=h.x0;have h2:=h.b0;have h4:=h.s0;have h5:=h.s1;have hP:gY sh ((t.parts.length:Int)).toNat (⟨t.parts.flatMap numI++rest,0,true⟩,[])=(⟨rest,0,true⟩,t.parts):=by
  rw[kz,jAX t.parts [] λq hq=>⟨by have:=h.pb q hq;omega,(h.pb q hq).2,by have:=h.pb q hq;omega⟩];rfl
 rw[e1,nP (yw h.x0 (by have:=h.x1;omega) h.x1) (yw h.b0 (by have:=h.b1;omega) h.b1) (jAK h.s0 h.s1 zo) (yw (kQ _) zo zo) hP];have hh:JF t.parts=true:=by
  cases hp:t.parts with
  |nil=>exact absurd hp h.pn
  |cons v vs=>
   rw[Q9];exact jo (by have:=(h.pb v (by rw[hp];exact kg)).1;omega)
 rw[hh,jCW h.r,Int.toNat_of_nonneg h0,Int.toNat_of_nonneg h2,Int.toNat_of_nonneg zo];rfl
theorem jAB {sh last:Nat}(hl:last≤1099511627776)(hs:sh≤4){rest:List UInt8}:∀(ts:List TR) (acc:List (Int×TR)),(∀t∈ts,TU sh last t)→(∀u∈acc,∀t∈ts,u.1≠t.txn)→(ts.map TR.txn).Nodup→
  nR sh last ts.length (⟨ts.flatMap wI++rest,0,true⟩,acc)=(⟨rest,0,true⟩,acc++ts.map λt=>(t.txn,t.bare))
 | [],acc,_,_,_=>by
  unfold nR
  simp
 |t::ts,acc,h,hd,hn=>by
  have e1:(t::ts).flatMap wI++rest=wI t++(ts.flatMap wI++rest):=by rw[jK,ju]
  rw [jL,List.nodup_cons] at hn;rw [e1,jC];unfold nR;dsimp only;rw [jCQ hl hs (h t kg)];dsimp only;rw [vH fun u hu => hd u hu t kg];rw [jAB hl hs ts (acc ++ [(t.txn,t.bare)]) (fun x hx => h x (jV _ hx)) (fun u hu x hx => by
   rcases jy.1 hu with hu|hu
   ·exact hd u hu x (jV _ hx)
   ·rw[ji] at hu
    subst hu;intro e;exact hn.1 (by rw[show t.txn=x.txn from e];exact jA hx)) hn.2,ju]
  rfl
abbrev JP (j:JG):JG:=⟨j.shards,j.dim,j.epoch,0,j.last,(xr j).map λt=>(t.txn,t.bare),Jk j⟩
theorem VO (j:JG):(Jk j).map (·.1)=vo (j.done.map (·.1)):=by
 unfold Jk;rw[kE];exact List.map_id' _
theorem jBS {j:JG}(hk:qn j.done):qn (Jk j):=by
 unfold qn;rw[VO];exact (vK _).nodup_iff.2 hk
theorem jFj {j:JG}(hk:qn j.done){b:Int}(h:b∈vo (j.done.map (·.1))):qJ (Jk j) b=some ((qJ j.done b).getD 0):=
 (vQ (jBS hk)).2 (jA (f:=λb=>(b,(qJ j.done b).getD 0)) h)
theorem jDA {j:JG}(hk:qn j.done):Jk (JP j)=Jk j:=by
 show (vo ((Jk j).map (·.1))).map (λb=>(b,(qJ (Jk j) b).getD 0))=Jk j
 rw[VO,d8 (vK (j.done.map (·.1)))];unfold Jk;refine List.map_congr_left λb hb=> ?_
 have:=jFj hk hb;unfold Jk at this;rw[this];rfl
theorem jBN {f:Int→Option TR}:∀{l:List Int},(∀x∈l,∃t,f x=some t∧t.txn=x)→(l.filterMap f).map TR.txn=l
 | [],_=>rfl
 |x::l,h=>by
  obtain ⟨t,h1,h2⟩:=h x kg;rw[List.filterMap_cons,h1];dsimp only;rw[jL,h2,jBN λy hy=>h y (jV _ hy)]
theorem rh {j:JG}(h:PB j):(bK j).map TR.txn=vo (j.tr.map (·.1)):=by
 unfold bK;refine jBN λx hx=> ?_
 obtain ⟨t,ht⟩:=bQ hx h.kt;exact ⟨t,ht,(h.lk ht).xx⟩
theorem ZX {j:JG}(h:PB j):((xr j).map TR.txn).Sublist (vo (j.tr.map (·.1))):=by
 rw[←rh h];exact List.filter_sublist.map _
theorem Ys {j:JG}(h:PB j):((xr j).map TR.txn).Nodup:=(ZX h).nodup ((vK _).nodup_iff.2 h.kt)
theorem sL {j:JG}(h:PB j):vo ((xr j).map TR.txn)=(xr j).map TR.txn:=xP (vK _) (wJ _) ((wJ _).sublist (ZX h))
theorem jEr {f:Int→Option TR}:∀{l:List TR},(∀t∈l,f t.txn=some t.bare)→(l.map TR.txn).filterMap f=l.map TR.bare
 | [],_=>rfl
 |t::l,h=>by
  rw[jL,List.filterMap_cons,h t kg];dsimp only;rw[jEr λy hy=>h y (jV _ hy)];rfl
theorem jB3 {j:JG}(h:PB j):xr (JP j)=(xr j).map TR.bare:=by
 have hk:qn ((xr j).map λt=>(t.txn,t.bare)):=by
  unfold qn;rw[kE];exact Ys h
 have e1:bK (JP j)=(xr j).map TR.bare:=by
  show (vo (((xr j).map λt=>(t.txn,t.bare)).map (·.1))).filterMap (λx=>qJ ((xr j).map λt=>(t.txn,t.bare)) x)=_
  rw[kE]
  show (vo ((xr j).map TR.txn)).filterMap _=_
  rw[sL h];exact jEr λt ht=>(vQ hk).2 (jA (f:=λt:TR=>(t.txn,t.bare)) ht)
 show (bK (JP j)).filter mJ=_
 rw[e1];refine List.filter_eq_self.2 λt ht=> ?_
 obtain ⟨u,hu,rfl⟩:=jM.1 ht;exact (jB.1 hu).2
theorem rR {j:JG}(h:PB j):qt (JP j)=qt j:=by
 unfold qt;rw[jDA h.kd,jB3 h,jf,List.flatMap_map];have e1:QM (JP j)=QM j:=by
  show numI j.epoch++numI j.last++numI ((Jk j).length:Int)=_
  have:(Jk j).length=j.done.length:=by
   have:=jj List.length (VO j);rw[jf,wW,jf] at this;exact this
  rw[this];rfl
 rw[e1];rfl
structure UO (j:JG):Prop where
 pb:PB j
 s1:1≤j.shards
 s2:j.shards≤4
 tl:(xr j).length≤8
 dl:j.done.length≤1048576
 ds:∀d∈j.done,0≤d.1∧0<d.2∧d.2≤j.last
 ts:∀t∈xr j,TU j.shards.toNat j.last.toNat t
theorem jCL {j:JG}(h:UO j):Zp j.shards j.dim (qt j)=JP j∧re j.shards j.dim (qt j):=by
 have hb:=h.pb;have e0:=hb.e0;have e1:=hb.e1;have l0:=hb.l0;have l1:=hb.l1;have htl:=h.tl;have hdl:=h.dl;have hdn:(Jk j).length=j.done.length:=by
  have:=jj List.length (VO j);rw[jf,wW,jf] at this;exact this
 have eP:qt j=numI j.epoch++(numI j.last++(numI (j.done.length:Int)++((Jk j).flatMap packD++(numI ((xr j).length:Int)++((xr j).flatMap wI++[]))))):=by
  unfold qt QM;simp only[ju,jG]
 obtain ⟨T,hT⟩:∃T,T=(xr j).flatMap wI++[]:=⟨_,rfl⟩;obtain ⟨R,hR⟩:∃R,R=numI ((xr j).length:Int)++T:=⟨_,rfl⟩;have hRn:R.length≠0:=by rw[hR,jc];have:=jC8 ((xr j).length:Int);omega
 rw[←hT,←hR] at eP;have eH:lf (qt j)=(j.epoch.toNat,j.last.toNat,⟨numI (j.done.length:Int)++((Jk j).flatMap packD++R),0,true⟩):=by
  unfold lf;rw[eP,yw e0 zo zo];dsimp only;rw[yw l0 zo zo]
 have eD:Kx (qt j)=(⟨R,0,true⟩,Jk j):=by
  unfold Kx;rw [eH];dsimp only;rw [yw (kQ _) zo zo];dsimp only;rw [kz,← hdn];have := jBT (last := j.last.toNat) zo hRn (Jk j) [] (fun d hd => by
   obtain ⟨b,hbm,rfl⟩:=jM.1 hd;obtain ⟨s,hs⟩:=pC hbm hb.kd;have hm:=Jb hs;have h1:=h.ds _ hm;have h2:=hb.d _ hm;dsimp only at h1 h2 ⊢;rw[hs];exact ⟨h1.1,h2.1,h1.2.1,by show s≤_;omega⟩) (by rw[kO];exact jBS hb.kd)
  rw[this];rfl
 have eT:Xj j.shards.toNat (qt j)=(⟨[],0,true⟩,(xr j).map λt=>(t.txn,t.bare)):=by
  unfold Xj;rw[eH,eD];dsimp only;rw[hR,yw (kQ _) zo zo];dsimp only;have s2:=h.s2;rw[kz,hT,jAB zo zo (xr j) [] h.ts (λu hu=>by cases hu) (Ys hb)];rfl
 have eGp:Zp j.shards j.dim (qt j)=JP j:=by
  unfold Zp;rw[eH,eD,eT];dsimp only;rw[Int.toNat_of_nonneg e0,Int.toNat_of_nonneg l0]
 refine ⟨eGp,?_,?_,?_⟩
 ·rw[eT]
  rfl
 ·rw[eT]
 ·rw[eGp]
  exact rR hb
theorem jFT (b:UInt8):UInt8.ofNat b.toNat=b:=by
 apply UInt8.toNat_inj.1;rw[UInt8.toNat_ofNat'];have:=b.toNat_lt;omega
theorem ZB :∀(bs:List UInt8) (i n:Nat),(vN bs i n).2.2=0→∃m rest,bs=JC m++rest∧vN bs i n=(n+m*2^(7*i),i+(JC m).length,0)∧(0<i→0<m)
 | [],i,n,h=>by simp[vN] at h
 |b::bs,i,n,h=>by
  rw[xL] at h ⊢;have hb:=b.toNat_lt
  by_cases h9:i=9∧1<b.toNat
  ·rw[jb h9] at h;simp at h
  ·rw[ja h9] at h ⊢
   by_cases hl:b.toNat<128
   ·rw[jb hl] at h ⊢
    by_cases h0:b.toNat=0∧0<i
    ·rw[jb h0] at h;simp at h
    ·rw[ja h0]
     refine ⟨b.toNat,bs,?_,?_,λhi=>by omega⟩
     ·rw[Ql hl,jFT];rfl
     ·rw[Ql hl,Nat.mod_eq_of_lt hl];rfl
   ·rw[ja hl] at h ⊢
    obtain ⟨m,rest,e1,e2,e3⟩:=ZB bs (i+1) _ h;have hm:=e3 zo;have hd:(m*128+b.toNat % 128) / 128=m:=by omega
    have hr:(m*128+b.toNat % 128) % 128+128=b.toNat:=by omega
    have hB:JC (m*128+b.toNat % 128)=b::JC m:=by rw[Xm zo,hd,hr,jFT]
    have hp2:2^(7*(i+1))=128*2^(7*i):=by rw[Nat.mul_add,Nat.pow_add,Nat.mul_comm]
    refine ⟨m*128+b.toNat % 128,rest,by rw[hB,e1];rfl,?_,λ_=>by omega⟩;rw[e2,hB,hp2,Nat.add_mul,jC]
    congr 1
    ·rw[Nat.mul_assoc];omega
    ·congr 1;omega
theorem jBe (m:Nat):numI (m:Int)=JC m:=by
 unfold numI;rw[ja zo,kz]
theorem bU {m:Nat}{s:RS}(h:(vt m s).2.bad=0):s.bad=0∧s.bs=numI (vt m s).1++(vt m s).2.bs:=by
 unfold vt JA at h ⊢
 by_cases h1:s.bad≠0
 ·rw[jb h1] at h
  exact absurd h h1
 ·rw[ja h1] at h ⊢
  by_cases h2:(qA s.bs m).2.2≠0
  ·rw[jb h2] at h
   exact absurd h h2
  ·rw[ja h2]
   refine ⟨kv.1 h1,?_⟩;have h5:(qA s.bs m).2.2=0:=kv.1 h2;unfold qA at h5 ⊢
   by_cases h6:(vN s.bs 0 0).2.2≠0
   ·rw[jb h6] at h5
    exact absurd h5 h6
   ·rw[ja h6] at h5 ⊢
    by_cases h7:m<(vN s.bs 0 0).1
    ·rw[jb h7] at h5
     simp at h5
    ·rw[ja h7]
     obtain ⟨k,rest,e1,e2,_⟩:=ZB s.bs 0 0 (kv.1 h6);rw[e2];dsimp only;have e3:0+k*2^(7*0)=k:=by simp
     rw[e3,kR,jBe]
     conv=>rhs;rhs;rw[e1]
     rw[kF];exact e1
structure za {α:Type}(enc:α→List UInt8)(dec:RS→α×RS)(ok:α→Prop):Prop where
 fwd:∀x rest g,ok x→dec ⟨enc x++rest,0,g⟩=(x,⟨rest,0,g⟩)
 inv:∀s,(dec s).2.bad=0→s.bad=0∧s.bs=enc (dec s).1++(dec s).2.bs∧ok (dec s).1
theorem za.mono {α:Type}{e:α→List UInt8}{d:RS→α×RS}{ok:α→Prop}(h:za e d ok){s:RS}(hb:(d s).2.bad=0):s.bad=0:=(h.inv s hb).1
def KG {α β:Type}(d1:RS→α×RS)(d2:RS→β×RS)(s:RS):(α×β)×RS:=(((d1 s).1,(d2 (d1 s).2).1),(d2 (d1 s).2).2)
theorem za.pair {α β:Type}{e1:α→List UInt8}{d1:RS→α×RS}{ok1:α→Prop}{e2:β→List UInt8}{d2:RS→β×RS}{ok2:β→Prop}(h1:za e1 d1 ok1)(h2:za e2 d2 ok2):
  za (λp:α×β=>e1 p.1++e2 p.2) (KG d1 d2) (λp=>ok1 p.1∧ok2 p.2):=by
 refine ⟨λx rest g hx=> ?_,λs hb=> ?_⟩
 ·unfold KG
  rw[ju,h1.fwd _ _ _ hx.1,h2.fwd _ _ _ hx.2]
 ·unfold KG at hb ⊢
  dsimp only at hb ⊢;obtain ⟨b1,b2,b3⟩:=h2.inv _ hb;obtain ⟨a1,a2,a3⟩:=h1.inv _ b1;exact ⟨a1,by rw[ju,←b2];exact a2,a3,b3⟩
def xd (most:Nat)(s:RS):Int×RS:=(((vt most s).1:Int),(vt most s).2)
theorem Jy {most:Nat}(h:most≤18446744073709551615):za numI (xd most) (λz=>0≤z∧z≤most):=by
 refine ⟨λx rest g hx=> ?_,λs hb=> ?_⟩
 ·unfold xd
  rw[yw hx.1 hx.2 zo,Int.toNat_of_nonneg hx.1]
 ·unfold xd at hb ⊢
  obtain ⟨a,b⟩:=bU hb;have:=(vT most s).1;exact ⟨a,b,kQ _,by dsimp only;omega⟩
def wU {α:Type}(d:RS→α×RS):Nat→RS×List α→RS×List α
 |0,s=>s
 |k+1,s=>wU d k ((d s.1).2,s.2++[(d s.1).1])
theorem xN {α:Type}(d:RS→α×RS)(k:Nat)(s:RS×List α):wU d (k+1) s=wU d k ((d s.1).2,s.2++[(d s.1).1]):=rfl
theorem ZL {α:Type}{e:α→List UInt8}{d:RS→α×RS}{ok:α→Prop}(h:za e d ok){g:Bool}{rest:List UInt8}:∀(xs acc:List α),(∀x∈xs,ok x)→wU d xs.length (⟨xs.flatMap e++rest,0,g⟩,acc)=(⟨rest,0,g⟩,acc++xs)
 | [],acc,_=>by simp[wU]
 |x::xs,acc,hx=>by
  rw[jC,xN,jK,ju];dsimp only;rw[h.fwd x _ g (hx x kg)];dsimp only;rw[ZL h xs _ λy hy=>hx y (jV _ hy),ju];rfl
theorem ZJ {α:Type}{e:α→List UInt8}{d:RS→α×RS}{ok:α→Prop}(h:za e d ok):∀(k:Nat) (s:RS×List α),(wU d k s).1.bad=0→s.1.bad=0∧∃xs,(wU d k s).2=s.2++xs∧xs.length=k∧s.1.bs=xs.flatMap e++(wU d k s).1.bs∧∀x∈xs,ok x
 |0,s,hb=>⟨hb,[],by simp[wU],rfl,by simp[wU],λ_ h=>by cases h⟩
 |k+1,s,hb=>by
  rw[xN] at hb ⊢;obtain ⟨b1,xs,e1,e2,e3,e4⟩:=ZJ h k _ hb;dsimp only at b1 e1 e3;obtain ⟨a1,a2,a3⟩:=h.inv _ b1;refine ⟨a1,_::xs,by rw[e1,ju];rfl,by rw[jC,e2],?_,λx hx=> ?_⟩
  ·rw[jK,ju,←e3]
   exact a2
  ·rcases j9.1 hx with rfl|hx
   ·exact a3
   ·exact e4 x hx
def ws {α:Type}(e:α→List UInt8)(xs:List α):List UInt8:=numI (xs.length:Int)++xs.flatMap e
def cV {α:Type}(most:Nat)(d:RS→α×RS)(s:RS):List α×RS:=let r:=wU d (vt most s).1 ((vt most s).2,[]);(r.2,r.1)
theorem Q6 {α:Type}{e:α→List UInt8}{d:RS→α×RS}{ok:α→Prop}(h:za e d ok){most:Nat}(hm:most≤18446744073709551615):za (ws e) (cV most d) (λxs=>xs.length≤most∧∀x∈xs,ok x):=by
 refine ⟨λx rest g hx=> ?_,λs hb=> ?_⟩
 ·unfold cV ws
  rw[ju,yw (kQ _) zo zo];dsimp only;rw[kz,ZL h _ _ hx.2];rfl
 ·unfold cV at hb ⊢
  dsimp only at hb ⊢;obtain ⟨b1,xs,e1,e2,e3,e4⟩:=ZJ h _ _ hb;dsimp only at b1 e1 e3;obtain ⟨a1,a2⟩:=bU b1;have:=(vT most s).1;rw[kO] at e1;rw[e1];refine ⟨a1,?_,by omega,e4⟩;unfold ws;rw[e2,ju,←e3];exact a2
def Xh (u:Nat):Int:=if u % 2=1 then -((u / 2:Nat):Int) - 1 else ((u / 2:Nat):Int)
def WS :Nat→List UInt8→List Int→List Int×List UInt8×Int
 |0,bs,acc=>(acc,bs,0)
 |k+1,bs,acc=>if (qA bs 18446744073709551615).2.2≠0 then ([],[],(qA bs 18446744073709551615).2.2) else if 4294967295<(qA bs 18446744073709551615).1 then ([],[],4)
  else WS k (bs.drop (qA bs 18446744073709551615).2.1) (acc++[Xh (qA bs 18446744073709551615).1])
theorem Jn (k:Nat)(bs:List UInt8)(acc:List Int):WS (k+1) bs acc=if (qA bs 18446744073709551615).2.2≠0 then ([],[],(qA bs 18446744073709551615).2.2) else if 4294967295<(qA bs 18446744073709551615).1 then ([],[],4)
  else WS k (bs.drop (qA bs 18446744073709551615).2.1) (acc++[Xh (qA bs 18446744073709551615).1]):=rfl
def xw (most:Nat)(s:RS):List Int×RS:=
 if s.bad≠0 then ([],s) else if (qA s.bs most).2.2≠0 then ([],{s with bad:=(qA s.bs most).2.2}) else
  let r:=WS (qA s.bs most).1 (s.bs.drop (qA s.bs most).2.1) []
  if r.2.2≠0 then ([],{s with bad:=r.2.2}) else (r.1,⟨r.2.1,0,s.good⟩)
theorem bG (n:Int):IntKind.u32.wrap n=n % 4294967296:=by simp[IntKind.wrap,IntKind.bits,IntKind.signed]
theorem jBC (n:Int):IntKind.i32.wrap n % 4294967296=n % 4294967296:=by
 have:IntKind.i32.wrap n=if 2147483648≤n % 4294967296 then n % 4294967296 - 4294967296 else n % 4294967296:=by simp[IntKind.wrap,IntKind.bits,IntKind.signed]
 rw[this]
 split<;>omega
theorem Xl {a:Int}(ha:0≤a∧a<4294967296):(BitVec.ofInt 32 a).toNat=a.toNat:=by
 rw[BitVec.toNat_ofInt];have:((2^32:Nat):Int)=4294967296:=by decide
 rw[this];omega
theorem xor32 {a:Int}(ha:0≤a∧a<4294967296):((BitVec.ofInt IntKind.u32.bits a)^^^(BitVec.ofInt IntKind.u32.bits 0)).toNat=a.toNat∧((BitVec.ofInt IntKind.u32.bits a)^^^(BitVec.ofInt IntKind.u32.bits 4294967295)).toNat=4294967295 - a.toNat:=by
 have e1:BitVec.ofInt 32 0=0#32:=by decide
 have e2:BitVec.ofInt 32 4294967295=BitVec.allOnes 32:=by decide
 constructor
 ·show ((BitVec.ofInt 32 a)^^^(BitVec.ofInt 32 0)).toNat=_
  rw[e1,BitVec.xor_zero,Xl ha]
 ·show ((BitVec.ofInt 32 a)^^^(BitVec.ofInt 32 4294967295)).toNat=_
  rw[e2,BitVec.xor_allOnes,BitVec.toNat_not,Xl ha]
theorem bz {n:Int}(h1: -2147483648≤n)(h2:n≤2147483647):QT n=if n<0 then -2*n - 1 else 2*n:=by
 unfold QT;have e0:IntKind.u32.wrap (IntKind.i32.wrap (n*2^1))=(2*n) % 4294967296:=by
  rw[bG,jBC]
  congr 1
  omega
 have hx:0≤(2*n) % 4294967296∧(2*n) % 4294967296<4294967296:=by omega
 rw[e0]
 by_cases hn:n<0
 ·rw[jb hn]
  have e1:n.fdiv (2^31)= -1:=by
   rw[Int.fdiv_eq_ediv_of_nonneg _ zd];omega
  rw[e1,show IntKind.u32.wrap (-1)=4294967295 by rw[bG];decide,(xor32 hx).2,wrap_u64 (by rw[bG];omega) (by rw[bG];omega),bG];omega
 ·rw[ja hn]
  have e1:n.fdiv (2^31)=0:=by
   rw[Int.fdiv_eq_ediv_of_nonneg _ zd];omega
  rw[e1,show IntKind.u32.wrap 0=0 by rw[bG];decide,(xor32 hx).1,wrap_u64 (by rw[bG];omega) (by rw[bG];omega),bG];omega
abbrev JE (n:Int):Prop:= -2147483648≤n∧n≤2147483647
theorem jAi {n:Int}(h:JE n):0≤QT n∧QT n≤4294967295∧Xh (QT n).toNat=n:=by
 obtain ⟨h1,h2⟩:=h;rw[bz h1 h2];unfold Xh
 by_cases hn:n<0
 ·rw[jb hn,jb zo]
  omega
 ·rw[ja hn,ja zo]
  omega
theorem jED {u:Nat}(h:u≤4294967295):JE (Xh u)∧QT (Xh u)=u:=by
 have hr:JE (Xh u):=by
  unfold Xh JE
  split<;>omega
 refine ⟨hr,?_⟩;rw[bz hr.1 hr.2];unfold Xh
 split<;>split<;>omega
theorem QW {z:Int}{most:Nat}(rest:List UInt8)(h0:0≤z)(hm:z≤18446744073709551615)(h:z≤most):qA (numI z++rest) most=(z.toNat,(numI z).length,0):=by
 unfold numI;rw[ja zo];exact Zs rest zo zo
theorem yt {bs:List UInt8}{m:Nat}(h:(qA bs m).2.2=0):bs=numI ((qA bs m).1:Int)++bs.drop (qA bs m).2.1∧(qA bs m).1≤m:=by
 have e:vt m ⟨bs,0,true⟩=((qA bs m).1,⟨bs.drop (qA bs m).2.1,0,true⟩):=by
  unfold vt JA;dsimp only;rw[ja (by simp),ja (by simp[h])]
 have hi:=bU (m:=m) (s:=⟨bs,0,true⟩) (by rw[e]);have hl:=(vT m ⟨bs,0,true⟩).1;rw[e] at hi hl;exact ⟨hi.2,hl⟩
theorem nM {rest:List UInt8}:∀(v acc:List Int),(∀n∈v,JE n)→WS v.length (v.flatMap (λn=>numI (QT n))++rest) acc=(acc++v,rest,0)
 | [],acc,_=>by simp[WS]
 |n::v,acc,h=>by
  obtain ⟨a,b,c⟩:=jAi (h n kg);rw[jC,Jn,jK,ju,QW _ a zo zo,ja (by simp),ja (by dsimp only;omega)];dsimp only;rw[kF,c,nM v _ λx hx=>h x (jV _ hx),ju];rfl
theorem nL :∀(k:Nat) (bs:List UInt8) (acc:List Int),(WS k bs acc).2.2=0→∃v,(WS k bs acc).1=acc++v∧v.length=k∧bs=v.flatMap (λn=>numI (QT n))++(WS k bs acc).2.1∧∀n∈v,JE n
 |0,bs,acc,_=>⟨[],by simp[WS],rfl,by simp[WS],λ_ h=>by cases h⟩
 |k+1,bs,acc,h=>by
  rw[Jn] at h ⊢
  by_cases h1:(qA bs 18446744073709551615).2.2≠0
  ·rw[jb h1] at h
   exact absurd h h1
  ·rw[ja h1] at h ⊢
   by_cases h2:4294967295<(qA bs 18446744073709551615).1
   ·rw[jb h2] at h
    simp at h
   ·rw[ja h2] at h ⊢
    obtain ⟨v,e1,e2,e3,e4⟩:=nL k _ _ h;obtain ⟨f1,f2⟩:=yt (kv.1 h1);obtain ⟨z1,z2⟩:=jED (u:=(qA bs 18446744073709551615).1) zo;refine ⟨Xh (qA bs 18446744073709551615).1::v,by rw[e1,ju];rfl,by rw[jC,e2],?_,λx hx=> ?_⟩
    ·rw[jK,z2,ju,←e3]
     exact f1
    ·rcases j9.1 hx with rfl|hx
     ·exact z1
     ·exact e4 x hx
theorem Qd {most:Nat}(hm:most≤18446744073709551615):za vW (xw most) (λv=>v.length≤most∧∀n∈v,JE n):=by
 refine ⟨λv rest g h=> ?_,λs hb=> ?_⟩
 ·unfold xw vW
  dsimp only;rw[ja (by simp),ju,QW _ (kQ _) zo zo,ja (by simp)];dsimp only;rw[kF,kz,nM v [] h.2,ja (by simp)];rfl
 ·unfold xw at hb ⊢
  by_cases h0:s.bad≠0
  ·rw[jb h0] at hb
   exact absurd hb h0
  ·rw[ja h0] at hb ⊢
   by_cases h1:(qA s.bs most).2.2≠0
   ·rw[jb h1] at hb
    exact absurd hb h1
   ·rw[ja h1] at hb ⊢
    dsimp only at hb ⊢
    by_cases h2:(WS (qA s.bs most).1 (s.bs.drop (qA s.bs most).2.1) []).2.2≠0
    ·rw[jb h2] at hb
     exact absurd hb h2
    ·rw[ja h2]
     obtain ⟨v,e1,e2,e3,e4⟩:=nL _ _ _ (kv.1 h2);obtain ⟨f1,f2⟩:=yt (kv.1 h1);rw[kO] at e1;dsimp only;rw[e1];refine ⟨kv.1 h0,?_,by omega,e4⟩;unfold vW;rw[e2,ju,←e3];exact f1
def vp {α:Type}(b:Bool)(e:α→List UInt8)(x:α):List UInt8:=if b then e x else []
def xo {α:Type}(b:Bool)(x0:α)(d:RS→α×RS)(s:RS):α×RS:=if b then d s else (x0,s)
theorem Jw {α:Type}{e:α→List UInt8}{d:RS→α×RS}{ok:α→Prop}(b:Bool)(x0:α)(h:za e d ok):za (vp b e) (xo b x0 d) (λx=>if b=true then ok x else x=x0):=by
 cases b with
 |true=>exact ⟨λx rest g hx=>h.fwd x rest g hx,λs hb=>h.inv s hb⟩
 |false=>exact ⟨λx rest g hx=>by rw[show x=x0 from hx];rfl,λs hb=>⟨hb,rfl,rfl⟩⟩
def w8 :List (Bool×Nat)→List Int→List UInt8
 |c::cs,x::xs=>vp c.1 numI x++w8 cs xs
 |_,_=> []
def ZG :List (Bool×Nat)→RS→List Int×RS
 | [],s=>([],s)
 |c::cs,s=>((xo c.1 0 (xd c.2) s).1::(ZG cs (xo c.1 0 (xd c.2) s).2).1,(ZG cs (xo c.1 0 (xd c.2) s).2).2)
def VD :List (Bool×Nat)→List Int→Prop
 | [],[]=>True
 |c::cs,x::xs=>(if c.1=true then 0≤x∧x≤c.2 else x=0)∧VD cs xs
 |_,_=>False
theorem X3 :∀cs:List (Bool×Nat),(∀c∈cs,c.2≤18446744073709551615)→za (w8 cs) (ZG cs) (VD cs)
 | [],_=>⟨λx rest g hx=>by
   cases x with
   |nil=>rfl
   |cons y ys=>exact absurd hx (by simp[VD]),λs hb=>⟨hb,rfl,trivial⟩⟩
 |c::cs,h=>by
  have h1:=Jw c.1 0 (Jy (h c (by simp)));have h2:=X3 cs (λd hd=>h d (by simp[hd]));refine ⟨λx rest g hx=> ?_,λs hb=> ?_⟩
  ·cases x with
   |nil=>exact absurd hx (by simp[VD])
   |cons y ys=>
    obtain ⟨k1,k2⟩:=hx
    show ((xo c.1 0 (xd c.2) _).1::_,_)=_
    unfold w8;rw[ju,h1.fwd y _ g k1,h2.fwd ys rest g k2]
  ·obtain ⟨b1,b2,b3⟩:=h2.inv _ hb
   obtain ⟨a1,a2,a3⟩:=h1.inv _ b1;refine ⟨a1,?_,a3,b3⟩
   show s.bs=(vp c.1 numI _++w8 cs _)++_
   rw[ju];exact a2.trans (jj _ b2)
def qB (k i:Nat):Bool:=(fldN k).testBit i
def mostK :List Nat:=[18446744073709551615,18446744073709551615,1099511627776,1099511627776,1099511627776,18446744073709551615,1099511627776,16,256,13,16]
def yY (k:Nat):List (Bool×Nat):=mostK.zipIdx.map λm=>(qB k m.2,m.1)
theorem jDJ (k:Nat):∀c∈yY k,c.2≤18446744073709551615:=by
 intro c hc;obtain ⟨m,hm,rfl⟩:=jM.1 hc;have:m.1∈mostK:=(List.mem_zipIdx' hm).2▸List.getElem_mem _;revert this;unfold mostK;generalize m.1=z;intro h
 simp at h
 omega
abbrev HL3 :=List (Int×Int×List Int)
abbrev xj (o:Int×List Int):List UInt8:=numI o.1++vW o.2
abbrev rU :RS→(Int×List Int)×RS:=KG (xd 1099511627776) (xw 8)
abbrev xq (h:Int×Int×List Int):List UInt8:=numI h.1++(numI h.2.1++vW h.2.2)
abbrev so :RS→(Int×Int×List Int)×RS:=KG (xd 1099511627776) (KG (xd 18446744073709551615) (xw 8))
abbrev jCr :=List Int×List Int×VL×List Int×HL3
abbrev jCe (k:Nat)(t:jCr):List UInt8:=w8 (yY k) t.1++(vp (qB k 11) (ws numI) t.2.1++(vp (qB k 12) (ws xj) t.2.2.1++(vp (qB k 13) vW t.2.2.2.1++vp (qB k 14) (ws xq) t.2.2.2.2)))
abbrev WK (k:Nat):RS→jCr×RS:=KG (ZG (yY k)) (KG (xo (qB k 11) [] (cV 4 (xd 16))) (KG (xo (qB k 12) [] (cV 16 rU)) (KG (xo (qB k 13) [] (xw 8)) (xo (qB k 14) [] (cV 16 so)))))
abbrev vOK (v:List Int):Prop:=v.length≤8∧∀n∈v,JE n
abbrev X0 (o:Int×List Int):Prop:=(0≤o.1∧o.1≤(1099511627776:Nat))∧vOK o.2
abbrev KR (h:Int×Int×List Int):Prop:=(0≤h.1∧h.1≤(1099511627776:Nat))∧(0≤h.2.1∧h.2.1≤(18446744073709551615:Nat))∧vOK h.2.2
abbrev jEu (k:Nat)(t:jCr):Prop:=VD (yY k) t.1∧(if qB k 11=true then t.2.1.length≤4∧∀x∈t.2.1,0≤x∧x≤(16:Nat) else t.2.1=[])∧(if qB k 12=true then t.2.2.1.length≤16∧∀o∈t.2.2.1,X0 o else t.2.2.1=[])∧(if qB k 13=true then vOK t.2.2.2.1 else t.2.2.2.1=[])∧(if qB k 14=true then t.2.2.2.2.length≤16∧∀h∈t.2.2.2.2,KR h else t.2.2.2.2=[])
theorem Yt (k:Nat):za (jCe k) (WK k) (jEu k):=
 (X3 _ (jDJ k)).pair ((Jw _ _ (Q6 (Jy zd) zd)).pair ((Jw _ _ (Q6 ((Jy zd).pair (Qd zd)) zd)).pair ((Jw _ _ (Qd zd)).pair (Jw _ _ (Q6 ((Jy zd).pair ((Jy zd).pair (Qd zd))) zd)))))
def WY (n:NA):jCr:=([n.txn,n.batch,n.stamp,n.after,n.mark,n.query,n.id,n.k,n.ef,n.code,n.who],n.parts,n.ops,n.vec,n.hits)
def mkN (k:Int)(t:jCr):NA:=⟨k,t.1.getD 0 0,t.1.getD 1 0,t.1.getD 2 0,t.1.getD 3 0,t.1.getD 4 0,t.1.getD 5 0,t.1.getD 6 0,t.1.getD 7 0,t.1.getD 8 0,t.1.getD 9 0,t.1.getD 10 0,t.2.1,t.2.2.1,t.2.2.2.1,t.2.2.2.2⟩
theorem jE1 (n:NA):mkN n.kind (WY n)=n:=rfl
def xF (n:NA):List UInt8:=numI n.kind++jCe n.kind.toNat (WY n)
def Xa (s:RS):NA×RS:=(mkN (vt 255 s).1 (WK (vt 255 s).1 (vt 255 s).2).1,(WK (vt 255 s).1 (vt 255 s).2).2)
structure OKn (n:NA):Prop where
 k:0≤n.kind∧n.kind≤(255:Nat)
 b:jEu n.kind.toNat (WY n)
theorem jDD {n:NA}(h:OKn n)(rest:List UInt8)(g:Bool):Xa ⟨xF n++rest,0,g⟩=(n,⟨rest,0,g⟩):=by
 unfold Xa xF;rw[ju,yw h.k.1 h.k.2 (by have:=h.k.2;omega)];dsimp only;rw[(Yt n.kind.toNat).fwd _ rest g h.b];dsimp only;rw[Int.toNat_of_nonneg h.k.1,jE1]
def YY (p:List UInt8):Option NA:=if zZ p=0∧Y4 p=[]∧(Xa ⟨VC p,0,true⟩).2.bad=0∧(Xa ⟨VC p,0,true⟩).2.bs=[]∧qu (Xa ⟨VC p,0,true⟩).1=true then some (Xa ⟨VC p,0,true⟩).1 else none
def qC (n:NA):List UInt8:=frB (xF n)
structure xf (n:NA):Prop where
 a:yF n
 o:∀o∈n.ops,0≤o.1
 h:∀h∈n.hits,0≤h.1∧0≤h.2.1∧h.2.1≤18446744073709551615
theorem V3 {v:List Int}(h:wK v=true):vOK v:=by
 unfold wK at h;simp only[jF,jS,kL,List.any_eq_false] at h;refine ⟨h.1.2,λn hn=> ?_⟩;have:=h.2 n hn;unfold Ve at this;simp only[kU,jS] at this;unfold JE;omega
theorem VQ {v:List Int}(h:xu v=true):vOK v:=by
 unfold xu at h
 by_cases h0:v.length=0
 ·rw[List.length_eq_zero_iff.1 h0]
  exact ⟨jw _,λn hn=>by cases hn⟩
 ·rw[jv h0] at h
  exact V3 h
theorem Yh {b:Bool}{x:Int}{m:Nat}(h0:0≤x)(h1:x≤m)(h2:x≠0→b=true):if b=true then 0≤x∧x≤m else x=0:=by
 split
 ·exact ⟨h0,h1⟩
 ·next h=>exact Classical.byContradiction λhx=>h (h2 hx)
theorem jCg {n:NA}{k i:Nat}(h:(n.bits.zipIdx.all λb=> !b.1||(fldN k).testBit b.2)=true)(hi:n.bits.getD i false=true):qB k i=true:=by
 rw[List.all_eq_true] at h
 by_cases hl:i<n.bits.length
 ·have hm:(n.bits[i],i)∈n.bits.zipIdx:=by
   refine List.mem_iff_getElem?.2 ⟨i,?_⟩;rw[List.getElem?_zipIdx,jY hl];simp
  have h2:=h _ hm;rw[j8,jY hl] at hi;dsimp only[Option.getD_some] at hi h2;rw[hi] at h2;unfold qB
  simpa using h2
 ·rw[j8,List.getElem?_eq_none zo] at hi
  cases hi
theorem xn {n:NA}(h:qu n=true)(u:xf n):OKn n:=by
 unfold qu at h;simp only[jF,jS] at h;obtain ⟨⟨hk,hb⟩,hB⟩:=h;unfold wQ at hB;simp only[jF,kL,Bool.or_eq_false_iff,j5] at hB;obtain ⟨⟨⟨⟨⟨⟨⟨⟨⟨⟨c1,c2⟩,c3⟩,c4⟩,c5⟩,c6⟩,c7⟩,⟨⟨⟨d1,d2⟩,d3⟩,d4⟩⟩,e1⟩,e2⟩,e3⟩:=hB;have hu:=u.a;have g:=λi hi=>jCg (i:=i) hb hi
 have gn:∀{x:Int},0≤x→x≠0→decide (0<x)=true:=λh0 hx=>jo zo
 have gz:∀{x:Int},x≠0→(!decide (x=0))=true:=λhx=>by rw[jv hx];rfl
 have gl:∀{α:Type} {l:List α},l≠[]→decide (0<(l.length:Int))=true:=λhl=>jo (by have:=kA.2 hl;omega)
 refine ⟨⟨by omega,by omega⟩,⟨?_,?_,?_,?_,?_⟩⟩
 ·have e:VD (yY n.kind.toNat) (WY n).1=((if qB n.kind.toNat 0=true then 0≤n.txn∧n.txn≤(18446744073709551615:Nat) else n.txn=0)∧(if qB n.kind.toNat 1=true then 0≤n.batch∧n.batch≤(18446744073709551615:Nat) else n.batch=0)∧(if qB n.kind.toNat 2=true then 0≤n.stamp∧n.stamp≤(1099511627776:Nat) else n.stamp=0)∧(if qB n.kind.toNat 3=true then 0≤n.after∧n.after≤(1099511627776:Nat) else n.after=0)∧(if qB n.kind.toNat 4=true then 0≤n.mark∧n.mark≤(1099511627776:Nat) else n.mark=0)∧(if qB n.kind.toNat 5=true then 0≤n.query∧n.query≤(18446744073709551615:Nat) else n.query=0)∧(if qB n.kind.toNat 6=true then 0≤n.id∧n.id≤(1099511627776:Nat) else n.id=0)∧(if qB n.kind.toNat 7=true then 0≤n.k∧n.k≤(16:Nat) else n.k=0)∧(if qB n.kind.toNat 8=true then 0≤n.ef∧n.ef≤(256:Nat) else n.ef=0)∧(if qB n.kind.toNat 9=true then 0≤n.code∧n.code≤(13:Nat) else n.code=0)∧(if qB n.kind.toNat 10=true then 0≤n.who∧n.who≤(16:Nat) else n.who=0)∧True):=rfl
  show VD (yY n.kind.toNat) (WY n).1
  rw[e];have h1:=hu.txn;have h2:=hu.batch;have h3:=hu.stamp;have h4:=hu.after;have h5:=hu.mark;have h6:=hu.query;have h7:=hu.id;exact ⟨Yh h1.1 zo λhx=>g 0 (gn h1.1 hx),Yh h2.1 zo λhx=>g 1 (gn h2.1 hx),Yh h3.1 zo λhx=>g 2 (gn h3.1 hx),Yh h4.1 zo λhx=>g 3 (gn h4.1 hx),Yh h5.1 zo λhx=>g 4 (gn h5.1 hx),Yh h6.1 zo λhx=>g 5 (gn h6.1 hx),Yh h7.1 zo λhx=>g 6 (gn h7.1 hx),Yh zo zo λhx=>g 7 (gz hx),Yh zo zo λhx=>g 8 (gz hx),Yh zo zo λhx=>g 9 (gz hx),Yh zo zo λhx=>g 10 (gz hx),trivial⟩
 ·show if qB n.kind.toNat 11=true then n.parts.length≤4∧∀x∈n.parts,0≤x∧x≤(16:Nat) else n.parts=[]
  split
  ·refine ⟨by omega,λx hx=> ?_⟩
   unfold wL at e1;rw[List.all_eq_true] at e1;obtain ⟨i,hi,rfl⟩:=List.mem_iff_getElem.1 hx;have:=e1 i (List.mem_range.2 hi);unfold cj at this;simp only[jF,jS] at this;have h2:=this.1;rw[j8,jY hi] at h2;dsimp only[Option.getD_some] at h2;omega
  ·next hb2=>exact Classical.byContradiction λhx=>hb2 (g 11 (gl hx))
 ·show if qB n.kind.toNat 12=true then n.ops.length≤16∧∀o∈n.ops,X0 o else n.ops=[]
  split
  ·refine ⟨by omega,λo ho=> ?_⟩
   rw[List.any_eq_false] at e2;have h2:=e2 o ho;unfold yi at h2;simp only[kU,jS,kL,not_or] at h2;have h0:=u.o o ho;exact ⟨⟨h0,by omega⟩,VQ (by simpa using h2.2)⟩
  ·next hb2=>exact Classical.byContradiction λhx=>hb2 (g 12 (gl hx))
 ·show if qB n.kind.toNat 13=true then vOK n.vec else n.vec=[]
  split
  ·exact VQ (by simpa using d4)
  ·next hb2=>exact Classical.byContradiction λhx=>hb2 (g 13 (gl hx))
 ·show if qB n.kind.toNat 14=true then n.hits.length≤16∧∀h∈n.hits,KR h else n.hits=[]
  split
  ·refine ⟨by omega,λo ho=> ?_⟩
   rw[List.any_eq_false] at e3;have h2:=e3 o ho;unfold xA at h2;simp only[kU,jS,kL,not_or] at h2;have h0:=u.h o ho;exact ⟨⟨h0.1,by omega⟩,⟨h0.2.1,by have:=h0.2.2;omega⟩,V3 (by simpa using h2.2)⟩
  ·next hb2=>exact Classical.byContradiction λhx=>hb2 (g 14 (gl hx))
theorem jA6 {α:Type}{b:Bool}{e:α→List UInt8}{x:α}{m:Nat}(h:(e x).length≤m):(vp b e x).length≤m:=by unfold vp;split;exact h;exact jw _
theorem Qk :∀(cs:List (Bool×Nat)) (xs:List Int),(∀x∈xs,x≤18446744073709551615)→(w8 cs xs).length≤10*xs.length
 | [],xs,_=>by simp[w8]
 |c::cs,[],_=>by simp[w8]
 |c::cs,x::xs,h=>by
  have h1:=jA6 (b:=c.1) (qp (h x (by simp)));have h2:=Qk cs xs (λy hy=>h y (by simp[hy]));unfold w8;rw[jc,jC];omega
theorem We {α:Type}{e:α→List UInt8}{m:Nat}:∀xs:List α,(∀x∈xs,(e x).length≤m)→(xs.flatMap e).length≤xs.length*m
 | [],_=>by simp
 |x::xs,h=>by
  have h1:=h x (by simp);have h2:=We xs (λy hy=>h y (by simp[hy]));rw[jK,jc,jC,Nat.succ_mul];omega
theorem Yk {α:Type}{e:α→List UInt8}{m k:Nat}{xs:List α}(h:∀x∈xs,(e x).length≤m)(hk:xs.length≤k)(hk2:k≤1000000):(ws e xs).length≤10+k*m:=by
 have h1:=We xs h;have h2:=qp (z:=(xs.length:Int)) zo;have h3:=Nat.mul_le_mul_right m hk;unfold ws;rw[jc];omega
theorem wV {v:List Int}(h:vOK v):(vW v).length≤90:=by
 have h1:=qp (z:=(v.length:Int)) (by have:=h.1;omega);have h2:=We (e:=λn=>numI (QT n)) (m:=10) v (λn hn=>qp (by have:=(jAi (h.2 n hn)).2.1;omega));have h3:=h.1;unfold vW;rw[jc];omega
theorem zG {n:NA}(h:OKn n)(u:xf n):(xF n).length≤4096:=by
 obtain ⟨hk,k1,k2,k3,k4,k5⟩ := h;have a0 := qp (z := n.kind) (by have := hk.2;omega);have a1 := Qk (yY n.kind.toNat) (WY n).1 (fun x hx => by
  have h1:=u.a.txn;have h2:=u.a.batch;have h3:=u.a.stamp;have h4:=u.a.after;have h5:=u.a.mark;have h6:=u.a.query;have h7:=u.a.id;have h8:=u.a.k;have h9:=u.a.ef;have h10:=u.a.code;have h11:=u.a.who;simp only[WY,j9,List.not_mem_nil,or_false] at hx;omega)
 have a2:(vp (qB n.kind.toNat 11) (ws numI) n.parts).length≤50:=by
  unfold vp
  split
  ·next hb=>
   have k2:if qB n.kind.toNat 11=true then n.parts.length≤4∧∀x∈n.parts,0≤x∧x≤(16:Nat) else n.parts=[]:=k2
   rw[jb hb] at k2;exact Yk (m:=10) (k:=4) (λx hx=>qp (by have:=(k2.2 x hx).2;omega)) k2.1 zd
  ·exact jw _
 have a3:(vp (qB n.kind.toNat 12) (ws xj) n.ops).length≤1610:=by
  unfold vp
  split
  ·next hb=>
   have k3:if qB n.kind.toNat 12=true then n.ops.length≤16∧∀o∈n.ops,X0 o else n.ops=[]:=k3
   rw[jb hb] at k3;refine Yk (m:=100) (k:=16) (λo ho=> ?_) k3.1 zd;have h1:=qp (z:=o.1) (by have:=(k3.2 o ho).1.2;omega);have h2:=wV (k3.2 o ho).2;rw[jc];omega
  ·exact jw _
 have a4:(vp (qB n.kind.toNat 13) vW n.vec).length≤90:=by
  unfold vp
  split
  ·next hb=>
   have k4:if qB n.kind.toNat 13=true then vOK n.vec else n.vec=[]:=k4
   rw[jb hb] at k4;exact wV k4
  ·exact jw _
 have a5:(vp (qB n.kind.toNat 14) (ws xq) n.hits).length≤1770:=by
  unfold vp
  split
  ·next hb=>
   have k5:if qB n.kind.toNat 14=true then n.hits.length≤16∧∀h∈n.hits,KR h else n.hits=[]:=k5
   rw[jb hb] at k5;refine Yk (m:=110) (k:=16) (λo ho=> ?_) k5.1 zd;have h1:=qp (z:=o.1) (by have:=(k5.2 o ho).1.2;omega);have h3:=qp (z:=o.2.1) (by have:=(k5.2 o ho).2.1.2;omega);have h2:=wV (k5.2 o ho).2.2;rw[jc,jc];omega
  ·exact jw _
 have e1:(WY n).1.length=11:=rfl;unfold xF
 show (numI n.kind++(w8 (yY n.kind.toNat) (WY n).1++(vp (qB n.kind.toNat 11) (ws numI) n.parts++(vp (qB n.kind.toNat 12) (ws xj) n.ops++(vp (qB n.kind.toNat 13) vW n.vec++vp (qB n.kind.toNat 14) (ws xq) n.hits))))).length≤4096
 simp only[jc];omega
theorem XG {n:NA}(h:qu n=true)(u:xf n):YY (qC n)=some n:=by
 have hl:=zG (xn h u) u;have hO:=xn h u;obtain ⟨h1,h2,h3,_⟩:=fy (xF n) [] hl;rw[jG] at h1 h2 h3;have hd:=jDD hO [] true;rw[jG] at hd;unfold YY qC;rw[h2,hd];rw[jb ⟨h1,h3,rfl,rfl,h⟩]
attribute [local irreducible] swp qq qM qL vX qh St qi qk vu qG
theorem pM :∀k,k<23→∀i,i<15→decide (¬IntKind.i64.wrap (((BitVec.ofInt IntKind.i64.bits ((fldN k:Nat):Int))&&&(BitVec.ofInt IntKind.i64.bits ((2^i:Nat):Int))).toNat:Int)=0)=qB k i:=by decide+kernel
abbrev xQ (b:Nat)(n:NV):HP:=pt b (cl n.cells 82)
theorem JT (b:Nat)(n:NV)(k i:Nat)(f:Int)(M:OM)(L:HL)(hT:yE M)(hk:n.kind=(k:Int))(hk2:k<23)(hi:i<15)(hf:f=((2^i:Nat):Int)):
  qh kY 153 [.int .i64 f,.pointer (some ⟨b,0,none⟩)] (xQ b n::qo M::L) (λr L'=>r=.bool (qB k i)∧L'=xQ b n::qo M::L):=by
 refine qg Tryz.func153 rfl rfl rfl ?_;have hs:J4[k]? =some (wx k):=by
  unfold wx;rw[jY (show k<J4.length by show k<23;omega)];rfl
 have hr:vg (xQ b n::qo M::L) 0 (0+k*2) (ST.cells (wx k)):=(hT.rd (L:=xQ b n::qo M::L)).part λj v e=>JH (g:=ST.cells) (λ_=>rfl) J4 k j _ v hs e
 have hb:=pM k hk2 i hi;rw[←hf] at hb;have hfl:=XM k;refine Q.r ?_;refine S.y (Y.iaa (k:=k) rfl (by show some (Value.int .u8 n.kind)=_;rw[hk]) rfl zo) ?_;refine Q.rn ?_;refine S.y (Y.ldRj rfl hr rfl) ?_;refine Q.r ?_;refine S.y (Y.and rfl rfl) ?_;rw[hfl];refine Q.r ?_;refine N.t rfl (kZ _) ⟨?_,rfl⟩;rw[←hb]
 by_cases h0:IntKind.i64.wrap (((BitVec.ofInt IntKind.i64.bits ((fldN k:Nat):Int))&&&(BitVec.ofInt IntKind.i64.bits f)).toNat:Int)=0
 ·rw[jo h0,jv (λh=>h h0)];rfl
 ·rw[jv h0,jo h0];rfl
theorem rX (cs:List (Bool×Nat))(xs:List Int)(i:Nat)(c:Bool×Nat)(x:Int)(hc:cs[i]? =some c)(hx:xs[i]? =some x):w8 (cs.take (i+1)) (xs.take (i+1))=w8 (cs.take i) (xs.take i)++vp c.1 numI x:=by
 induction cs generalizing xs i with
 |nil=>cases hc
 |cons d cs ih=>
  cases xs with
  |nil=>cases hx
  |cons y xs=>
   cases i with
   |zero=>
    cases hc;cases hx
    simp[w8]
   |succ i=>
    have:=ih xs i hc hx;rw[List.take_succ_cons,List.take_succ_cons,List.take_succ_cons,List.take_succ_cons]
    show vp d.1 numI y++w8 (cs.take (i+1)) (xs.take (i+1))=(vp d.1 numI y++w8 (cs.take i) (xs.take i))++_
    rw[this,ju]
theorem jB8 (k i:Nat)(hi:i<11):∃m,(yY k)[i]? =some (qB k i,m):=by
 unfold yY mostK
 rcases i with _|_|_|_|_|_|_|_|_|_|_|i<;>first|exact ⟨_,rfl⟩|omega
theorem jAD (k:Nat)(xs:List Int)(hx:xs.length=11):w8 ((yY k).take 11) (xs.take 11)=w8 (yY k) xs:=by
 rw[kK (by show 11≤11;omega),kK zo]
theorem jGA (x0 x1 x2 x3 x4 x5 x6 x7 x8 x9 x10:Int):ZV (W3 1 11) (11*1) (cellsOf [(0,U64 x0),(1,U64 x1),(2,U64 x2),(3,U64 x3),(4,U64 x4),(5,U64 x5),(6,U64 x6),(7,U64 x7),(8,U64 x8),(9,U64 x9),(10,U64 x10)])=true:=by rfl
theorem jFh (x0 x1 x2 x3 x4 x5 x6 x7 x8 x9 x10:Int):WI (W3 1 11) [.int .u64 0,.int .u64 0,.int .u64 0,.int .u64 0,.int .u64 0,.int .u64 0,.int .u64 0,.int .u64 0,.int .u64 0,.int .u64 0,.int .u64 0] (cellsOf [(0,U64 x0),(1,U64 x1),(2,U64 x2),(3,U64 x3),(4,U64 x4),(5,U64 x5),(6,U64 x6),(7,U64 x7),(8,U64 x8),(9,U64 x9),(10,U64 x10)])=[U64 x0,U64 x1,U64 x2,U64 x3,U64 x4,U64 x5,U64 x6,U64 x7,U64 x8,U64 x9,U64 x10]:=by kernel_rfl
abbrev cI6 (z:Int):List Value:=[I64 z]
theorem jDw (l:List Int):l.flatMap cI6=l.map I64:=by
 induction l with
 |nil=>rfl
 |cons z l ih=>rw[jK,ih];rfl
def jGj (M:OM)(L0:HL)(n:NA)(r:Value)(L':HL):Prop:=∃v:YB,∃M',r=.tuple #[v.val,.int .i64 (if qu n=true then 0 else 4)]∧v.bs=(if qu n=true then qC n else [])∧wc M' v∧v.bs.length≤v.c∧qU M M'∧L'=qo M'::L0
set_option maxRecDepth 100000 in
theorem YF (n:NV)(M:OM)(L0:HL)(hn:xt M n)(hN:OkN n)(hT:yE M)(hB:xg M)(hu:xf n.abs):
  qh kY 79 [n.val] (qo M::L0) (jGj M L0 n.abs):=by
 refine qg Tryz.func79 rfl rfl rfl ?_;have hk0:=hu.a.kind;refine Q.r ?_;(repeat (intro b1;refine Q.r ?_));refine S.cr rfl (Je n _ hn.rd hN hT.rd hk0) ?_;rintro _ _ ⟨rfl,rfl⟩
 by_cases hR:qu n.abs=true
 case neg=>
  have hR':qu n.abs=false:=by simpa using hR
  rw[hR'];refine Q.r ?_;refine N.u rfl rfl (L':=qo M::L0) eG ⟨⟨none,0,[]⟩,M,by rw[hR'];rfl,by rw[hR'];rfl,qH.nil,jz _,qU.refl _,rfl⟩
 rw[hR];refine Q.r ?_;(repeat (intro b1;refine Q.r ?_));generalize b1=bw at*;rename_i bn;have hO:=xn hR hu;have hkR:1≤n.kind∧n.kind≤22:=by
  have:=hR;unfold qu at this;simp only[jF,jS] at this;exact this.1.1
 obtain ⟨k,hk⟩:∃k:Nat,n.kind=(k:Int):=⟨n.kind.toNat,by omega⟩;have hk23:k<23:=by omega
 have hkn:n.abs.kind.toNat=k:=by show n.kind.toNat=k;omega
 have u1:=hu.a.txn;have u2:=hu.a.batch;have u3:=hu.a.stamp;have u4:=hu.a.after;have u5:=hu.a.mark;have u6:=hu.a.query;have u7:=hu.a.id;have u8:=hu.a.k;have u9:=hu.a.ef;have u10:=hu.a.code;have u11:=hu.a.who;have hneg:0≤n.k∧0≤n.ef∧0≤n.code∧0≤n.who:=by
  have:=hR;unfold qu wQ at this;simp only[jF,kL,Bool.or_eq_false_iff,j5] at this;have h2:=this.2.1.1.1.1.1.1.1.1.2;omega
 dsimp only at u1 u2 u3 u4 u5 u6 u7 u8 u9 u10 u11;refine S.y (Y.cvi rfl) ?_;rw[wrap_u64 zo zo];refine qm (L':=wH bw []::xQ bn n::qo M::L0) (qi.trans jAo eG) ?_;refine Q.r ?_;(repeat (intro b1;refine Q.r ?_));refine S.c1 rfl (vw bw [] (some ⟨b1,0,none⟩) 1 [n.kind] _ (qW.row1 rfl) (by intro z hz;rw[ji.1 hz];omega) (by simp)) ?_;rintro _ _ ⟨rfl,rfl⟩;rw[show []++[n.kind].flatMap numI=numI n.kind by simp];refine Q.r ?_;refine S.y (Y.mf rfl rfl) ?_;refine Q.r ?_;refine S.y (Y.cvi rfl) ?_;rw[wrap_u64 zo zo];refine Q.r ?_;refine S.y (Y.cvi rfl) ?_;rw[wrap_u64 zo zo];refine Q.r ?_;refine S.y (Y.cvi rfl) ?_;rw[wrap_u64 zo zo];refine Q.r ?_;refine S.y (Y.cvi rfl) ?_;rw[wrap_u64 zo zo];refine S.y (Y.bda (l:=[_,_,_,_,_,_,_,_,_,_,_]) (cs:=(WY n.abs).1.map U64) rfl rfl (jGA _ _ _ _ _ _ _ _ _ _ _) (jFh _ _ _ _ _ _ _ _ _ _ _)) ?_;obtain ⟨xs,hxs⟩:∃xs,xs=(WY n.abs).1:=⟨_,rfl⟩;have hx11:xs.length=11:=by rw[hxs];rfl
 rw[←hxs];refine Q.r ?_;have hxu:∀x∈xs,x≤18446744073709551615:=λx hx=>by
  rw[hxs] at hx;simp only[WY,j9,List.not_mem_nil,or_false] at hx;omega
 have hl0:=qp (z:=n.kind) zo;refine qx (σ:=Unit) (λ_=> [(1,.pointer (some ⟨bn,0,none⟩)),(4,.pointer (some ⟨bw,0,none⟩)),(5,.func (.func 153) #[] #[.pointer (some ⟨bn,0,none⟩)])]) (λ_=>wH bw (numI n.kind++w8 (yY k) xs)::xQ bn n::qo M::L0) (λ_=>True) ?_ ?_
 ·refine ql (σ:=Nat) (λi=> [(1,.pointer (some ⟨bn,0,none⟩)),(4,.pointer (some ⟨bw,0,none⟩)),(5,.func (.func 153) #[] #[.pointer (some ⟨bn,0,none⟩)]),(52,.agg (xs.map U64).toArray),(53,.int .i64 i)]) (λi=>wH bw (numI n.kind++w8 ((yY k).take i) (xs.take i))::xQ bn n::qo M::L0) (λi=>i≤11) (λi=>11 - i) 0 zt (qi.trans (M:=wH bw (numI n.kind)::xQ bn n::qo M::L0) eG (by rw[show (yY k).take 0=[] from rfl,show xs.take 0=[] from rfl,show w8 [] []=[] from rfl,jG];exact kZ _)) (jw _) ?_
  intro i hi
  by_cases hlt:i<11
  ·have hlt':(i:Int)<11:=by omega
   obtain ⟨x,hx⟩:=qw (show i<xs.length by omega);obtain ⟨m,hm⟩:=jB8 k i hlt;have hnx:=rX (yY k) xs i _ x hm hx;have hXl:=Qk ((yY k).take i) (xs.take i) (λy hy=>hxu y (List.mem_of_mem_take hy));have hxl:(xs.take i).length≤11:=by rw[jP];omega
   generalize w8 ((yY k).take i) (xs.take i)=X at hnx hXl ⊢;refine Q.r ?_;refine S.y (Y.ixa (i:=i) (v:=U64 x) rfl rfl hlt (by rw[List.getElem?_toArray,jZ,hx];rfl)) ?_;refine Q.r ?_;refine S.y (Y.shlI (a:=1) (b:=i) rfl rfl (by show i≤64;omega)) ?_;have hw1:IntKind.i64.wrap (1*2^i)=((2^i:Nat):Int):=by
    rcases i with _|_|_|_|_|_|_|_|_|_|_|i<;>first|rfl|omega
   rw[hw1]
   repeat (first|(refine GQ.y ?_;refine Q.y ?_)|refine Q.go ?_|(refine GQ.g ?_;refine Q.gq ?_)|(refine GQ.s ?_;refine Q.st ?_)|(refine GQ.a ?_;refine Q.al (λb1=> ?_)))
   refine qm (L':=xQ bn n::qo M::wH bw (numI n.kind++X)::L0) eG ?_;refine S.crF rfl rfl (JT bn n k i ((2^i:Nat):Int) M _ hT hk hk23 zo rfl) ?_;rintro _ _ ⟨rfl,rfl⟩
   cases hbk:qB k i with
   |true=>
    refine Q.r ?_;(repeat (intro b1;refine Q.r ?_));refine S.c1 rfl (vw bw (numI n.kind++X) (some ⟨b1,0,none⟩) 1 [x] _ (qW.row1 rfl) (by intro z hz;rw[ji.1 hz];exact hxu x (jn hx)) (by simp only[jc,jC,j7];omega)) ?_;rintro _ _ ⟨rfl,rfl⟩;refine Q.r ?_;refine ⟨i+1,zt,?_,by omega,by omega⟩;rw[hnx,hbk,show numI n.kind++(X++vp true numI x)=numI n.kind++X++[x].flatMap numI by simp[vp]];exact eG
   |false=>
    refine Q.r ?_;refine ⟨i+1,zt,?_,by omega,by omega⟩;rw[hnx,hbk,show numI n.kind++(X++vp false numI x)=numI n.kind++X by simp[vp]];exact eG
  ·have hie:i=11:=by omega
   subst hie;rw[jAD k xs hx11];refine Q.r ?_;exact ⟨(),zt,kZ _,trivial⟩
 ·intro _ _
  have hXl:=Qk (yY k) xs hxu;generalize hXe:w8 (yY k) xs=X at hXl ⊢;have hb:=hO.b;rw[hkn] at hb;have hf:∃FN:Value,FN=Value.func (.func 153) #[] #[.pointer (some ⟨bn,0,none⟩)]:=⟨_,rfl⟩;have hH1:(numI n.kind++X).length≤150:=by rw[jc];omega
  generalize hH:numI n.kind++X=H0 at hH1 ⊢;have hbp:if qB k 11=true then n.parts.length≤4∧∀x∈n.parts,0≤x∧x≤(16:Nat) else n.parts=[]:=hb.2.1
  refine wl ?_;refine vn (σ:=Unit) (λ_=> [(1,.pointer (some ⟨bn,0,none⟩)),(4,.pointer (some ⟨bw,0,none⟩)),(5,.func (.func 153) #[] #[.pointer (some ⟨bn,0,none⟩)])]) (λ_=>wH bw (H0++vp (qB k 11) (ws numI) n.parts)::xQ bn n::qo M::L0) (λ_=>True) ?_ ?_
  ·refine Q.r ?_
   refine qm (L':=xQ bn n::qo M::wH bw H0::L0) eG ?_;refine S.crF rfl rfl (JT bn n k 11 2048 M _ hT hk hk23 zo rfl) ?_;rintro _ _ ⟨rfl,rfl⟩
   cases hbk:qB k 11 with
   |false=>
    rw[show H0++vp false (ws numI) n.parts=H0 by simp[vp]];refine Q.r ?_;refine ⟨(),zt,?_,trivial⟩;exact eG
   |true=>
    rw[hbk,jb rfl] at hbp;refine Q.r ?_;refine S.y (Y.cvi rfl) ?_;rw[wrap_u64 zo zo];refine Q.r ?_;(repeat (intro b1;refine Q.r ?_));refine S.c1 rfl (vw bw H0 (some ⟨b1,0,none⟩) 1 [(n.parts.length:Int)] _ (qW.row1 rfl) (by intro z hz;rw[ji.1 hz];omega) (by simp only[jC,j7];omega)) ?_;rintro _ _ ⟨rfl,rfl⟩;rw[show H0++[(n.parts.length:Int)].flatMap numI=H0++numI (n.parts.length:Int) by simp];have hpf:qH M n.pa n.parts.length 1 (n.parts.flatMap cI6):=by rw[jDw];exact hn.p
    have hl1:=qp (z:=(n.parts.length:Int)) zo;refine Q.r ?_;refine ql (σ:=Nat) (λm=> [(1,.pointer (some ⟨bn,0,none⟩)),(4,.pointer (some ⟨bw,0,none⟩)),(5,.func (.func 153) #[] #[.pointer (some ⟨bn,0,none⟩)]),(76,.slice n.pa n.parts.length n.pc),(77,.int .i64 n.parts.length),(78,.int .i64 m)])
     (λm=>wH bw (H0++numI (n.parts.length:Int)++(n.parts.take m).flatMap numI)::xQ bn n::qo M::L0) (λm=>m≤n.parts.length) (λm=>n.parts.length - m) 0 zt (by simp only[kB,j3,jG];exact eG) zo ?_
    intro m hm
    by_cases hmt:m<n.parts.length
    ·obtain ⟨z,hz⟩:=qw hmt
     have hz2:=hbp.2 z (jn hz);obtain ⟨b5,o5,hia5,cr5⟩:=qH.cm (g:=cI6) (λ_=>rfl) hpf hz rfl;have hZl:((n.parts.take m).flatMap numI).length≤n.parts.length*10:=yG m (λx hx=>qp (by have:=hbp.2 x hx;omega));have hnx2:(n.parts.take (m+1)).flatMap numI=(n.parts.take m).flatMap numI++numI z:=QN hz;generalize (n.parts.take m).flatMap numI=Z at hZl hnx2 ⊢;rw[hia5];refine Q.r ?_;refine S.y (Y.cvi rfl) ?_;rw[wrap_u64 zo zo];refine Q.r ?_;(repeat (intro b1;refine Q.r ?_));refine S.c1 rfl (vw bw (H0++numI (n.parts.length:Int)++Z) (some ⟨b1,0,none⟩) 1 [z] _ (qW.row1 rfl) (by intro y hy;rw[ji.1 hy];omega) (by simp only[jc,jC,j7];omega)) ?_;rintro _ _ ⟨rfl,rfl⟩;refine Q.r ?_;refine ⟨m+1,⟨rfl,rfl,rfl,by first|rfl|(rw[←hia5];rfl),rfl,rfl,trivial⟩,?_,by omega,by omega⟩;rw[hnx2,show H0++numI (n.parts.length:Int)++(Z++numI z)=H0++numI (n.parts.length:Int)++Z++[z].flatMap numI by simp];exact eG
    ·have hme:m=n.parts.length:=by omega
     subst hme;rw[jI];refine Q.r ?_;refine ⟨(),zt,?_,trivial⟩;rw[show H0++vp true (ws numI) n.parts=H0++numI (n.parts.length:Int)++n.parts.flatMap numI by simp[vp,ws]];exact eG
  ·intro _ _
   have hH2:(H0++vp (qB k 11) (ws numI) n.parts).length≤220:=by
    rw[jc];unfold vp
    split
    ·next h=>
     rw[jb h] at hbp;have h1:=qp (z:=(n.parts.length:Int)) zo;have h2:(n.parts.flatMap numI).length≤n.parts.length*10:=yg λx hx=>qp (by have:=hbp.2 x hx;omega)
     unfold ws;rw[jc];omega
    ·rw[j7];omega
   generalize hHH:H0++vp (qB k 11) (ws numI) n.parts=H1 at hH2 ⊢;have hbo:if qB k 12=true then (n.ops.map OV.abs).length≤16∧∀o∈n.ops.map OV.abs,X0 o else n.ops.map OV.abs=[]:=hb.2.2.1
   refine wl ?_;refine vn (σ:=Unit) (λ_=> [(1,.pointer (some ⟨bn,0,none⟩)),(4,.pointer (some ⟨bw,0,none⟩)),(5,.func (.func 153) #[] #[.pointer (some ⟨bn,0,none⟩)])]) (λ_=>wH bw (H1++vp (qB k 12) (ws xj) (n.ops.map OV.abs))::xQ bn n::qo M::L0) (λ_=>True) ?_ ?_
   ·refine Q.r ?_
    refine qm (L':=xQ bn n::qo M::wH bw H1::L0) eG ?_;refine S.crF rfl rfl (JT bn n k 12 4096 M _ hT hk hk23 zo rfl) ?_;rintro _ _ ⟨rfl,rfl⟩
    cases hbk:qB k 12 with
    |false=>
     rw[show H1++vp false (ws xj) (n.ops.map OV.abs)=H1 by simp[vp]];refine Q.r ?_;refine ⟨(),zt,?_,trivial⟩;exact eG
    |true=>
     rw[hbk,jb rfl] at hbo;have hlo:n.ops.length≤16:=by have:=hbo.1;rwa [jf] at this
     have hov:∀o∈n.ops,X0 o.abs:=λo ho=>hbo.2 _ (jM.2 ⟨o,ho,rfl⟩)
     clear hbo;refine Q.r ?_;refine S.y (Y.cvi rfl) ?_;rw[wrap_u64 zo zo];refine Q.r ?_;(repeat (intro b1;refine Q.r ?_));refine S.c1 rfl (vw bw H1 (some ⟨b1,0,none⟩) 1 [(n.ops.length:Int)] _ (qW.row1 rfl) (by intro z hz;rw[ji.1 hz];omega) (by simp only[jC,j7];omega)) ?_;rintro _ _ ⟨rfl,rfl⟩;rw[show H1++[(n.ops.length:Int)].flatMap numI=H1++numI (n.ops.length:Int) by simp];have hl1:=qp (z:=(n.ops.length:Int)) zo;refine Q.r ?_;refine ql (σ:=Nat) (λm=> [(1,.pointer (some ⟨bn,0,none⟩)),(4,.pointer (some ⟨bw,0,none⟩)),(5,.func (.func 153) #[] #[.pointer (some ⟨bn,0,none⟩)]),(98,.slice n.oa n.ops.length n.oc),(99,.int .i64 n.ops.length),(100,.int .i64 m)])
      (λm=>wH bw (H1++numI (n.ops.length:Int)++(n.ops.take m).flatMap λo=>xj o.abs)::xQ bn n::qo M::L0) (λm=>m≤n.ops.length) (λm=>n.ops.length - m) 0 zt (by simp only[kB,j3,jG];exact eG) zo ?_
     intro m hm
     by_cases hmt:m<n.ops.length
     ·obtain ⟨v,hv⟩:=qw hmt
      have hmv:v∈n.ops:=jn hv;have hvv:=hov v hmv;have hv1:0≤v.id∧v.id≤(1099511627776:Nat):=hvv.1;have hv8:v.vec.length≤8:=hvv.2.1;have hrv:qH M v.a v.vec.length 1 (v.vec.map yT):=hn.o.2 v hmv;obtain ⟨b6,o6,hia6,cr6⟩:=qH.cm (g:=OV.cells) (λ_=>rfl) hn.o.1 hv rfl;have hZl:((n.ops.take m).flatMap λo=>xj o.abs).length≤n.ops.length*100:=yG m (λu hu=>WB (v:=u.abs) (by have h1:u.abs.1≤(1099511627776:Nat):=(hov u hu).1.2;omega) (hov u hu).2.1);have hnx2:(n.ops.take (m+1)).flatMap (λo=>xj o.abs)=(n.ops.take m).flatMap (λo=>xj o.abs)++xj v.abs:=QN hv;generalize ((n.ops.take m).flatMap λo=>xj o.abs)=Z at hZl hnx2 ⊢;have hn1:=qp (z:=v.id) zo;rw[hia6];refine Q.r ?_;(repeat (intro b1;refine Q.r ?_));refine Q.dgo [true] [3,4,7,8] [] [0,1,2,5,6,99999,0,0,0] ?_;refine Q.rd3 ?_;refine D.two 3 7 [99999,0,0] [3,4,8] zk rfl rfl rfl rfl zk zk ?_ ?_
      ·refine GQ.a ?_
       refine Q.al (λbn1=> ?_)
       repeat (first|(refine GQ.y ?_;refine Q.y ?_)|refine Q.go ?_|(refine GQ.g ?_;refine Q.gq ?_)|(refine GQ.s ?_;refine Q.st ?_))
       refine Q.rd3 ?_;refine D.two 4 7 [7,8] [4,8] zk rfl rfl rfl rfl zk zk ?_ ?_
       ·refine S.c1 rfl (vw bw (H1++numI (n.ops.length:Int)++Z) (some ⟨bn1,0,none⟩) 1 [v.id] _ (qW.row1 rfl) (by intro z hz;rw[ji.1 hz];omega) (by simp only[jc,jC,j7];omega)) ?_
        rintro _ _ ⟨rfl,rfl⟩
        repeat (first|(refine GQ.y ?_;refine Q.y ?_)|refine Q.go ?_|(refine GQ.g ?_;refine Q.gq ?_)|(refine GQ.s ?_;refine Q.st ?_))
        refine Q.rd3 ?_;refine D.e rfl rfl rfl ?_;refine GQ.a ?_;refine Q.al (λbv=> ?_)
        repeat (first|(refine GQ.y ?_;refine Q.y ?_)|refine Q.go ?_|(refine GQ.g ?_;refine Q.gq ?_)|(refine GQ.s ?_;refine Q.st ?_))
        refine Q.rd3 ?_;refine D.e rfl rfl rfl ?_;refine S.c1 rfl (yq bw (H1++numI (n.ops.length:Int)++Z++[v.id].flatMap numI) bv 0 v.a v.c 1 v.vec _ (vg.row) (hrv.rd) (by simp only[jc,jK,j3,j7];omega)) ?_;rintro _ _ ⟨rfl,rfl⟩
        repeat (first|(refine GQ.y ?_;refine Q.y ?_)|refine Q.go ?_|(refine GQ.g ?_;refine Q.gq ?_)|(refine GQ.s ?_;refine Q.st ?_))
        refine Q.rd3 ?_;refine Q.rd ?_;refine Q.r ?_;refine ⟨m+1,⟨rfl,rfl,rfl,by first|rfl|(rw[←hia6];rfl),rfl,rfl,trivial⟩,?_,by omega,by omega⟩;rw[hnx2,show H1++numI (n.ops.length:Int)++(Z++xj v.abs)=H1++numI (n.ops.length:Int)++Z++[v.id].flatMap numI++vW v.vec by simp[xj]];exact eG
       ·refine GQ.a ?_
        refine Q.al (λbv=> ?_)
        repeat (first|(refine GQ.y ?_;refine Q.y ?_)|refine Q.go ?_|(refine GQ.g ?_;refine Q.gq ?_)|(refine GQ.s ?_;refine Q.st ?_))
        refine Q.rd3 ?_;refine D.e rfl rfl rfl ?_;refine S.c1 rfl (vw bw (H1++numI (n.ops.length:Int)++Z) (some ⟨bn1,0,none⟩) 1 [v.id] _ (qW.row1 rfl) (by intro z hz;rw[ji.1 hz];omega) (by simp only[jc,jC,j7];omega)) ?_;rintro _ _ ⟨rfl,rfl⟩
        repeat (first|(refine GQ.y ?_;refine Q.y ?_)|refine Q.go ?_|(refine GQ.g ?_;refine Q.gq ?_)|(refine GQ.s ?_;refine Q.st ?_))
        refine Q.rd3 ?_;refine D.e rfl rfl rfl ?_;refine S.c1 rfl (yq bw (H1++numI (n.ops.length:Int)++Z++[v.id].flatMap numI) bv 0 v.a v.c 1 v.vec _ (vg.row) (hrv.rd) (by simp only[jc,jK,j3,j7];omega)) ?_;rintro _ _ ⟨rfl,rfl⟩
        repeat (first|(refine GQ.y ?_;refine Q.y ?_)|refine Q.go ?_|(refine GQ.g ?_;refine Q.gq ?_)|(refine GQ.s ?_;refine Q.st ?_))
        refine Q.rd3 ?_;refine Q.rd ?_;refine Q.r ?_;refine ⟨m+1,⟨rfl,rfl,rfl,by first|rfl|(rw[←hia6];rfl),rfl,rfl,trivial⟩,?_,by omega,by omega⟩;rw[hnx2,show H1++numI (n.ops.length:Int)++(Z++xj v.abs)=H1++numI (n.ops.length:Int)++Z++[v.id].flatMap numI++vW v.vec by simp[xj]];exact eG
      ·refine GQ.a ?_
       refine Q.al (λbv=> ?_)
       repeat (first|(refine GQ.y ?_;refine Q.y ?_)|refine Q.go ?_|(refine GQ.g ?_;refine Q.gq ?_)|(refine GQ.s ?_;refine Q.st ?_))
       refine Q.rd3 ?_;refine D.e rfl rfl rfl ?_;refine GQ.a ?_;refine Q.al (λbn1=> ?_)
       repeat (first|(refine GQ.y ?_;refine Q.y ?_)|refine Q.go ?_|(refine GQ.g ?_;refine Q.gq ?_)|(refine GQ.s ?_;refine Q.st ?_))
       refine Q.rd3 ?_;refine D.e rfl rfl rfl ?_;refine S.c1 rfl (vw bw (H1++numI (n.ops.length:Int)++Z) (some ⟨bn1,0,none⟩) 1 [v.id] _ (qW.row1 rfl) (by intro z hz;rw[ji.1 hz];omega) (by simp only[jc,jC,j7];omega)) ?_;rintro _ _ ⟨rfl,rfl⟩
       repeat (first|(refine GQ.y ?_;refine Q.y ?_)|refine Q.go ?_|(refine GQ.g ?_;refine Q.gq ?_)|(refine GQ.s ?_;refine Q.st ?_))
       refine Q.rd3 ?_;refine D.e rfl rfl rfl ?_;refine S.c1 rfl (yq bw (H1++numI (n.ops.length:Int)++Z++[v.id].flatMap numI) bv 0 v.a v.c 1 v.vec _ (vg.row) (hrv.rd) (by simp only[jc,jK,j3,j7];omega)) ?_;rintro _ _ ⟨rfl,rfl⟩
       repeat (first|(refine GQ.y ?_;refine Q.y ?_)|refine Q.go ?_|(refine GQ.g ?_;refine Q.gq ?_)|(refine GQ.s ?_;refine Q.st ?_))
       refine Q.rd3 ?_;refine Q.rd ?_;refine Q.r ?_;refine ⟨m+1,⟨rfl,rfl,rfl,by first|rfl|(rw[←hia6];rfl),rfl,rfl,trivial⟩,?_,by omega,by omega⟩;rw[hnx2,show H1++numI (n.ops.length:Int)++(Z++xj v.abs)=H1++numI (n.ops.length:Int)++Z++[v.id].flatMap numI++vW v.vec by simp[xj]];exact eG
     ·have hme:m=n.ops.length:=by omega
      subst hme;rw[jI];refine Q.r ?_;refine ⟨(),zt,?_,trivial⟩;rw[show H1++vp true (ws xj) (n.ops.map OV.abs)=H1++numI (n.ops.length:Int)++n.ops.flatMap λo=>xj o.abs by simp[vp,ws,List.flatMap_map]];exact eG
   ·intro _ _
    have hH3:(H1++vp (qB k 12) (ws xj) (n.ops.map OV.abs)).length≤1850:=by
     rw[jc];unfold vp
     split
     ·next h=>
      rw[jb h] at hbo;have h1:=qp (z:=((n.ops.map OV.abs).length:Int)) zo;have h2:((n.ops.map OV.abs).flatMap xj).length≤(n.ops.map OV.abs).length*100:=yg λx hx=>WB (by have h1:x.1≤(1099511627776:Nat):=(hbo.2 x hx).1.2;omega) (hbo.2 x hx).2.1
      unfold ws;rw[jc];omega
     ·rw[j7];omega
    generalize hHH2:H1++vp (qB k 12) (ws xj) (n.ops.map OV.abs)=H2 at hH3 ⊢;have hbv:if qB k 13=true then vOK n.vec else n.vec=[]:=hb.2.2.2.1
    refine wl ?_;refine vn (σ:=Unit) (λ_=> [(1,.pointer (some ⟨bn,0,none⟩)),(4,.pointer (some ⟨bw,0,none⟩)),(5,.func (.func 153) #[] #[.pointer (some ⟨bn,0,none⟩)])]) (λ_=>wH bw (H2++vp (qB k 13) vW n.vec)::xQ bn n::qo M::L0) (λ_=>True) ?_ ?_
    ·refine Q.r ?_
     refine qm (L':=xQ bn n::qo M::wH bw H2::L0) eG ?_;refine S.crF rfl rfl (JT bn n k 13 8192 M _ hT hk hk23 zo rfl) ?_;rintro _ _ ⟨rfl,rfl⟩
     cases hbk:qB k 13 with
     |false=>
      rw[show H2++vp false vW n.vec=H2 by simp[vp]];refine Q.r ?_;refine ⟨(),zt,?_,trivial⟩;exact eG
     |true=>
      rw[hbk,jb rfl] at hbv;have hv8:n.vec.length≤8:=hbv.1;have hrv:qH M n.va n.vec.length 1 (n.vec.map yT):=hn.v;refine Q.r ?_;(repeat (intro b1;refine Q.r ?_));refine S.c1 rfl (yq bw H2 b1 0 n.va n.vc 1 n.vec _ (vg.row) (hrv.rd) zo) ?_;rintro _ _ ⟨rfl,rfl⟩;refine Q.r ?_;refine ⟨(),zt,?_,trivial⟩;rw[show H2++vp true vW n.vec=H2++vW n.vec by simp[vp]];exact eG
    ·intro _ _
     have hH4:(H2++vp (qB k 13) vW n.vec).length≤1950:=by
      rw[jc];unfold vp
      split
      ·next h=>
       rw[jb h] at hbv;have:=wV hbv;omega
      ·rw[j7];omega
     generalize hHH3:H2++vp (qB k 13) vW n.vec=H3 at hH4 ⊢;have hbh:if qB k 14=true then (n.hits.map HV.abs).length≤16∧∀h∈n.hits.map HV.abs,KR h else n.hits.map HV.abs=[]:=hb.2.2.2.2
     refine wl ?_;refine vn (σ:=Unit) (λ_=> [(4,.pointer (some ⟨bw,0,none⟩))]) (λ_=>wH bw (H3++vp (qB k 14) (ws xq) (n.hits.map HV.abs))::xQ bn n::qo M::L0) (λ_=>True) ?_ ?_
     ·refine Q.r ?_
      refine qm (L':=xQ bn n::qo M::wH bw H3::L0) eG ?_;refine S.crF rfl rfl (JT bn n k 14 16384 M _ hT hk hk23 zo rfl) ?_;rintro _ _ ⟨rfl,rfl⟩
      cases hbk:qB k 14 with
      |false=>
       rw[show H3++vp false (ws xq) (n.hits.map HV.abs)=H3 by simp[vp]];refine Q.r ?_;refine ⟨(),zt,?_,trivial⟩;exact eG
      |true=>
       rw[hbk,jb rfl] at hbh;have hlo:n.hits.length≤16:=by have:=hbh.1;rwa [jf] at this
       have hov:∀o∈n.hits,KR o.abs:=λo ho=>hbh.2 _ (jM.2 ⟨o,ho,rfl⟩)
       clear hbh;have hhl:∀u∈n.hits,(xq u.abs).length≤110:=λu hu=>by
        have h0:=hov u hu;have h1:u.id≤(1099511627776:Nat):=h0.1.2;have h2:u.dist≤(18446744073709551615:Nat):=h0.2.1.2;have h3:=qp (z:=u.id) zo;have h4:=qp (z:=u.dist) zo;have h5:=wV h0.2.2
        show (numI u.id++(numI u.dist++vW u.vec)).length≤110
        have h5:(vW u.vec).length≤90:=h5;rw[jc,jc];omega
       refine Q.r ?_;refine S.y (Y.cvi rfl) ?_;rw[wrap_u64 zo zo];refine Q.r ?_;(repeat (intro b1;refine Q.r ?_));refine S.c1 rfl (vw bw H3 (some ⟨b1,0,none⟩) 1 [(n.hits.length:Int)] _ (qW.row1 rfl) (by intro z hz;rw[ji.1 hz];omega) (by simp only[jC,j7];omega)) ?_;rintro _ _ ⟨rfl,rfl⟩;rw[show H3++[(n.hits.length:Int)].flatMap numI=H3++numI (n.hits.length:Int) by simp];have hl1:=qp (z:=(n.hits.length:Int)) zo;refine Q.r ?_;refine ql (σ:=Nat) (λm=> [(4,.pointer (some ⟨bw,0,none⟩)),(131,.slice n.ha n.hits.length n.hc),(132,.int .i64 n.hits.length),(133,.int .i64 m)])
        (λm=>wH bw (H3++numI (n.hits.length:Int)++(n.hits.take m).flatMap λo=>xq o.abs)::xQ bn n::qo M::L0) (λm=>m≤n.hits.length) (λm=>n.hits.length - m) 0 zt (by simp only[kB,j3,jG];exact eG) zo ?_
       intro m hm
       by_cases hmt:m<n.hits.length
       ·obtain ⟨v,hv⟩:=qw hmt
        have hmv:v∈n.hits:=jn hv;have hvv:=hov v hmv;have hv1:0≤v.id∧v.id≤(1099511627776:Nat):=hvv.1;have hv2:0≤v.dist∧v.dist≤(18446744073709551615:Nat):=hvv.2.1;have hv8:v.vec.length≤8:=hvv.2.2.1;have hrv:qH M v.a v.vec.length 1 (v.vec.map yT):=hn.hv v hmv;obtain ⟨b6,o6,hia6,cr6⟩:=qH.cm (g:=HV.cells) (λ_=>rfl) hn.h hv rfl;have hZl:((n.hits.take m).flatMap λo=>xq o.abs).length≤n.hits.length*110:=yG m hhl;have hnx2:(n.hits.take (m+1)).flatMap (λo=>xq o.abs)=(n.hits.take m).flatMap (λo=>xq o.abs)++xq v.abs:=QN hv;generalize ((n.hits.take m).flatMap λo=>xq o.abs)=Z at hZl hnx2 ⊢;have hn1:=qp (z:=v.id) zo;have hn2:=qp (z:=v.dist) zo;rw[hia6];refine Q.r ?_;(repeat (intro b1;refine Q.r ?_));refine Q.dgo [true] [5,6,9,10] [] [0,1,2,3,4,7,8,99999,0,0,0] ?_;refine Q.rd3 ?_;refine D.two 5 9 [99999,0,0] [5,6,10] zk rfl rfl rfl rfl zk zk ?_ ?_
        ·refine GQ.a ?_
         refine Q.al (λbn1=> ?_)
         repeat (first|(refine GQ.y ?_;refine Q.y ?_)|refine Q.go ?_|(refine GQ.g ?_;refine Q.gq ?_)|(refine GQ.s ?_;refine Q.st ?_))
         refine Q.rd3 ?_;refine D.two 6 9 [9,10] [6,10] zk rfl rfl rfl rfl zk zk ?_ ?_
         ·refine S.c1 rfl (vw bw (H3++numI (n.hits.length:Int)++Z) (some ⟨bn1,0,none⟩) 2 [v.id,v.dist] _ (qW.row1 rfl) (by intro z hz;rcases (by simpa using hz:z=v.id∨z=v.dist) with rfl|rfl<;>omega) (by simp only[jc,jC,j7];omega)) ?_
          rintro _ _ ⟨rfl,rfl⟩
          repeat (first|(refine GQ.y ?_;refine Q.y ?_)|refine Q.go ?_|(refine GQ.g ?_;refine Q.gq ?_)|(refine GQ.s ?_;refine Q.st ?_))
          refine Q.rd3 ?_;refine D.e rfl rfl rfl ?_;refine GQ.a ?_;refine Q.al (λbv=> ?_)
          repeat (first|(refine GQ.y ?_;refine Q.y ?_)|refine Q.go ?_|(refine GQ.g ?_;refine Q.gq ?_)|(refine GQ.s ?_;refine Q.st ?_))
          refine Q.rd3 ?_;refine D.e rfl rfl rfl ?_;refine S.c1 rfl (yq bw (H3++numI (n.hits.length:Int)++Z++[v.id,v.dist].flatMap numI) bv 0 v.a v.c 1 v.vec _ (vg.row) (hrv.rd) (by simp only[jc,jK,j3,j7];omega)) ?_;rintro _ _ ⟨rfl,rfl⟩
          repeat (first|(refine GQ.y ?_;refine Q.y ?_)|refine Q.go ?_|(refine GQ.g ?_;refine Q.gq ?_)|(refine GQ.s ?_;refine Q.st ?_))
          refine Q.rd3 ?_;refine Q.rd ?_;refine Q.r ?_;refine ⟨m+1,⟨rfl,by first|rfl|(rw[←hia6];rfl),rfl,rfl,trivial⟩,?_,by omega,by omega⟩;rw[hnx2,show H3++numI (n.hits.length:Int)++(Z++xq v.abs)=H3++numI (n.hits.length:Int)++Z++[v.id,v.dist].flatMap numI++vW v.vec by simp[xq]];exact eG
         ·refine GQ.a ?_
          refine Q.al (λbv=> ?_)
          repeat (first|(refine GQ.y ?_;refine Q.y ?_)|refine Q.go ?_|(refine GQ.g ?_;refine Q.gq ?_)|(refine GQ.s ?_;refine Q.st ?_))
          refine Q.rd3 ?_;refine D.e rfl rfl rfl ?_;refine S.c1 rfl (vw bw (H3++numI (n.hits.length:Int)++Z) (some ⟨bn1,0,none⟩) 2 [v.id,v.dist] _ (qW.row1 rfl) (by intro z hz;rcases (by simpa using hz:z=v.id∨z=v.dist) with rfl|rfl<;>omega) (by simp only[jc,jC,j7];omega)) ?_;rintro _ _ ⟨rfl,rfl⟩
          repeat (first|(refine GQ.y ?_;refine Q.y ?_)|refine Q.go ?_|(refine GQ.g ?_;refine Q.gq ?_)|(refine GQ.s ?_;refine Q.st ?_))
          refine Q.rd3 ?_;refine D.e rfl rfl rfl ?_;refine S.c1 rfl (yq bw (H3++numI (n.hits.length:Int)++Z++[v.id,v.dist].flatMap numI) bv 0 v.a v.c 1 v.vec _ (vg.row) (hrv.rd) (by simp only[jc,jK,j3,j7];omega)) ?_;rintro _ _ ⟨rfl,rfl⟩
          repeat (first|(refine GQ.y ?_;refine Q.y ?_)|refine Q.go ?_|(refine GQ.g ?_;refine Q.gq ?_)|(refine GQ.s ?_;refine Q.st ?_))
          refine Q.rd3 ?_;refine Q.rd ?_;refine Q.r ?_;refine ⟨m+1,⟨rfl,by first|rfl|(rw[←hia6];rfl),rfl,rfl,trivial⟩,?_,by omega,by omega⟩;rw[hnx2,show H3++numI (n.hits.length:Int)++(Z++xq v.abs)=H3++numI (n.hits.length:Int)++Z++[v.id,v.dist].flatMap numI++vW v.vec by simp[xq]];exact eG
        ·refine GQ.a ?_
         refine Q.al (λbv=> ?_)
         repeat (first|(refine GQ.y ?_;refine Q.y ?_)|refine Q.go ?_|(refine GQ.g ?_;refine Q.gq ?_)|(refine GQ.s ?_;refine Q.st ?_))
         refine Q.rd3 ?_;refine D.e rfl rfl rfl ?_;refine GQ.a ?_;refine Q.al (λbn1=> ?_)
         repeat (first|(refine GQ.y ?_;refine Q.y ?_)|refine Q.go ?_|(refine GQ.g ?_;refine Q.gq ?_)|(refine GQ.s ?_;refine Q.st ?_))
         refine Q.rd3 ?_;refine D.e rfl rfl rfl ?_;refine S.c1 rfl (vw bw (H3++numI (n.hits.length:Int)++Z) (some ⟨bn1,0,none⟩) 2 [v.id,v.dist] _ (qW.row1 rfl) (by intro z hz;rcases (by simpa using hz:z=v.id∨z=v.dist) with rfl|rfl<;>omega) (by simp only[jc,jC,j7];omega)) ?_;rintro _ _ ⟨rfl,rfl⟩
         repeat (first|(refine GQ.y ?_;refine Q.y ?_)|refine Q.go ?_|(refine GQ.g ?_;refine Q.gq ?_)|(refine GQ.s ?_;refine Q.st ?_))
         refine Q.rd3 ?_;refine D.e rfl rfl rfl ?_;refine S.c1 rfl (yq bw (H3++numI (n.hits.length:Int)++Z++[v.id,v.dist].flatMap numI) bv 0 v.a v.c 1 v.vec _ (vg.row) (hrv.rd) (by simp only[jc,jK,j3,j7];omega)) ?_;rintro _ _ ⟨rfl,rfl⟩
         repeat (first|(refine GQ.y ?_;refine Q.y ?_)|refine Q.go ?_|(refine GQ.g ?_;refine Q.gq ?_)|(refine GQ.s ?_;refine Q.st ?_))
         refine Q.rd3 ?_;refine Q.rd ?_;refine Q.r ?_;refine ⟨m+1,⟨rfl,by first|rfl|(rw[←hia6];rfl),rfl,rfl,trivial⟩,?_,by omega,by omega⟩;rw[hnx2,show H3++numI (n.hits.length:Int)++(Z++xq v.abs)=H3++numI (n.hits.length:Int)++Z++[v.id,v.dist].flatMap numI++vW v.vec by simp[xq]];exact eG
       ·have hme:m=n.hits.length:=by omega
        subst hme;rw[jI];refine Q.r ?_;refine ⟨(),zt,?_,trivial⟩;rw[show H3++vp true (ws xq) (n.hits.map HV.abs)=H3++numI (n.hits.length:Int)++n.hits.flatMap λo=>xq o.abs by simp[vp,ws,List.flatMap_map]];exact eG
     ·intro _ _
      have hE:H3++vp (qB k 14) (ws xq) (n.hits.map HV.abs)=xF n.abs:=by
       rw[←hHH3,←hHH2,←hHH,←hH,←hXe,hxs];unfold xF jCe;rw[hkn];simp only[ju];rfl
      rw[hE];have hlen:=zG hO hu;refine Q.r ?_;refine S.c1 (A:=wH bw (xF n.abs)) rfl (Wu bw (xF n.abs) _ zo) ?_;rintro _ _ ⟨a9,c9,rfl,rfl⟩;refine wA a9 (λM1 hl1 hs1 hc1=> ?_);refine Q.r ?_;(repeat (intro b1;refine Q.r ?_));have hcv:qV [⟨a9,c9,xF n.abs⟩]=xF n.abs:=by simp
      have hso:wc M1 ⟨a9,c9,xF n.abs⟩:=hs1;refine S.cr rfl (zL (some ⟨b1,0,none⟩) 1 [⟨a9,c9,xF n.abs⟩] M1 _ _ (qW.row1y rfl) (λu hu=>by rw[ji.1 hu];exact hso.rd) (hB.mono hl1) (jz _) (by simp) (by rw[hcv];omega)) ?_;rintro _ _ ⟨u,M2,rfl,hub,huo2,huc,hl2,rfl⟩;rw[hcv] at hub ⊢;rw[ja zo] at hub ⊢;refine Q.r ?_;refine N.u rfl rfl (L':=qo M2::L0) eG ⟨u,M2,by rw[hR];rfl,by rw[hR,hub];rfl,huo2,huc,hl1.trans hl2,rfl⟩
def hU (p:List UInt8):Int:=if zZ p≠0 then zZ p else if Y4 p=[] then 0 else 4
def jHd (M:OM)(L0:HL)(bs:List UInt8)(r:Value)(L':HL):Prop:=∃v:YB,∃M',r=.tuple #[v.val,.int .i64 (hU bs)]∧v.bs=(if hU bs=0 then VC bs else [])∧wc M' v∧v.bs.length≤v.c∧qU M M'∧L'=qo M'::L0
theorem mU (a:OA)(c:Nat)(bs:List UInt8)(M:OM)(L0:HL)(h:qH M a bs.length 1 (bs.map B))(hc:bs.length≤c)(hT:xg M)(hb:bs.length≤100000000000):
  qh kY 83 [.slice a bs.length c] (qo M::L0) (jHd M L0 bs):=by
 refine qg Tryz.func83 rfl rfl rfl ?_;refine Q.r ?_;refine S.cr rfl (Vj a c bs M _ h hT hc hb) ?_;rintro _ _ ⟨v,w,M1,rfl,hv,hw,hvo,hwo,hvc,hwc,hl1,rfl⟩
 by_cases h0:zZ bs=0
 case neg=>
  have ho:hU bs=zZ bs:=jb h0;have hne:decide (¬zZ bs=0)=true:=jo h0;generalize hE:zZ bs=E at*;refine Q.r ?_;refine N.u rfl rfl (L':=qo M1::L0) eG ⟨⟨none,0,[]⟩,M1,by rw[ho];rfl,by rw[ho,ja h0],qH.nil,jz _,hl1,rfl⟩
 rw[jb h0] at hv hw;rw[h0]
 by_cases hr:Y4 bs=[]
 ·have ho:hU bs=0:=by unfold hU;rw[ja (by simp[h0]),jb hr]
  rw[hr] at hw;have hw0:w.bs.length=0:=by rw[hw];rfl
  refine Q.r ?_;refine N.u rfl rfl (L':=qo M1::L0) eG ⟨v,M1,by rw[ho],by rw[ho,jb rfl,hv],hvo,hvc,hl1,rfl⟩
 ·have ho:hU bs=4:=by unfold hU;rw[ja (by simp[h0]),ja hr]
  have hw0:0<w.bs.length:=by rw[hw];exact kA.2 hr
  refine Q.r ?_;refine N.u rfl rfl (L':=qo M1::L0) eG ⟨⟨none,0,[]⟩,M1,by rw[ho];rfl,by rw[ho,ja zd],qH.nil,jz _,hl1,rfl⟩
theorem jDu {k:Nat}(h:23≤k):fldN k=0:=by
 unfold fldN
 split<;>first|rfl|omega
theorem py (k i:Nat)(hi:i<15):decide (¬IntKind.i64.wrap (((BitVec.ofInt IntKind.i64.bits ((fldN k:Nat):Int))&&&(BitVec.ofInt IntKind.i64.bits ((2^i:Nat):Int))).toNat:Int)=0)=qB k i:=by
 by_cases hk:k<23
 ·exact pM k hk i hi
 ·unfold qB
  rw[jDu zo];have:∀i,i<15→decide (¬IntKind.i64.wrap (((BitVec.ofInt IntKind.i64.bits ((0:Nat):Int))&&&(BitVec.ofInt IntKind.i64.bits ((2^i:Nat):Int))).toNat:Int)=0)=(0:Nat).testBit i:=by decide+kernel
  exact this i hi
abbrev zF (b k:Nat):HP:=pt b (cl [.int .i64 (fldN k:Nat)] 3)
theorem vY (b1 b4 r k i most:Nat)(f:Int)(a:OA)(c:Nat)(s:RS)(M:OM)(L:HL)[hM:wY M L](h:RK M a c s)(hi:i<15)(hf:f=((2^i:Nat):Int)):
  qh kY 160 [.int .i64 f,.int .u64 most,.pointer (some ⟨b4,0,none⟩),.pointer (some ⟨b1,0,none⟩)] (rdS r a c s::zF b4 k::JV b1 r::L)
   (λv L'=>v=.int .u64 (xo (qB k i) 0 (xd most) s).1∧∃a' c',RK M a' c' (xo (qB k i) 0 (xd most) s).2∧L'=rdS r a' c' (xo (qB k i) 0 (xd most) s).2::zF b4 k::JV b1 r::L):=by
 refine qg Tryz.func160 rfl rfl rfl ?_;have hb:=py k i hi;rw[←hf] at hb;refine Q.r ?_;refine S.y (Y.and rfl rfl) ?_
 cases hk:qB k i with
 |false=>
  rw[hk] at hb;have h0:IntKind.i64.wrap (((BitVec.ofInt IntKind.i64.bits ((fldN k:Nat):Int))&&&(BitVec.ofInt IntKind.i64.bits f)).toNat:Int)=0:=kv.1 (of_decide_eq_false hb);rw[h0];refine Q.r ?_;exact N.t rfl (kZ _) ⟨rfl,a,c,h,rfl⟩
 |true=>
  rw[hk] at hb;have h0:=kV hb;generalize IntKind.i64.wrap (((BitVec.ofInt IntKind.i64.bits ((fldN k:Nat):Int))&&&(BitVec.ofInt IntKind.i64.bits f)).toNat:Int)=z at h0;refine Q.r ?_;refine S.c1 (A:=rdS r a c s) rfl (wg r a c s most M _ h) ?_;rintro _ _ ⟨rfl,a2,c2,hk1,rfl⟩;refine Q.r ?_;exact N.t rfl (kZ _) ⟨rfl,a2,c2,hk1,rfl⟩
end Go.Proofs.YtlnfjhiphlfkjaaGreatDoor
namespace Go.SX
open Go
section
variable {P : Program} {n : Nat} {ops rest : List Oper} {Q : vk} {f : vF} {A L : HL} {d : Tmp} {ty : TypeId} {pos : String} {af : Array Edge}
theorem Y.neg {x:Operand}{t:TypeId}{k:IntKind}{a:Int}(hx:ev f x=some (.int k a)):qk P n ops ⟨some d,.unOp .neg t x,ty,pos,af,none⟩ f A (.int k (k.wrap (-a))):=Y.of (λ_ w s=>by simp[execOp,s.eval hx,Op.unary,Op.intArith])
end
end Go.SX
namespace Go.Proofs.YtlnfjhiphlfkjaaGreatDoor
open Go Go.SX
attribute [local irreducible] swp qq qM qL vX qh St qi qk vu qG
def vvI (u:Int):Int:=IntKind.i32.wrap (((BitVec.ofInt IntKind.i32.bits (IntKind.i32.wrap ((IntKind.u32.wrap u).fdiv (2^1))))^^^(BitVec.ofInt IntKind.i32.bits (IntKind.i32.wrap (-(IntKind.i32.wrap (IntKind.u64.wrap (((BitVec.ofInt IntKind.u64.bits u)&&&(BitVec.ofInt IntKind.u64.bits 1)).toNat:Int))))))).toNat:Int)
theorem jDR {u:Nat}(h:u≤4294967295):IntKind.u64.wrap (((BitVec.ofInt IntKind.u64.bits (u:Int))&&&(BitVec.ofInt IntKind.u64.bits 1)).toNat:Int)=((u % 2:Nat):Int):=by
 have e:((BitVec.ofInt IntKind.u64.bits (u:Int))&&&(BitVec.ofInt IntKind.u64.bits 1)).toNat=u % 2:=by
  show ((BitVec.ofInt 64 (u:Int))&&&(BitVec.ofInt 64 1)).toNat=u % 2
  rw[BitVec.toNat_and,show (BitVec.ofInt 64 (u:Int)).toNat=u by simp;omega,show (BitVec.ofInt 64 1).toNat=1 by decide,Nat.and_one_is_mod]
 rw[e,wrap_u64 zo zo]
theorem jFR {u:Nat}(h:u≤4294967295):vvI u=Xh u:=by
 unfold vvI;have e1:IntKind.i32.wrap ((IntKind.u32.wrap (u:Int)).fdiv (2^1))=((u / 2:Nat):Int):=by
  rw[jAl zo zo,Int.fdiv_eq_ediv_of_nonneg _ zd,zm zo zo];omega
 have hx:(0:Int)≤((u / 2:Nat):Int)∧((u / 2:Nat):Int)<4294967296:=by omega
 rw[e1,jDR h];unfold Xh
 by_cases h2:u % 2=1
 ·rw[jb h2,h2,zm (a:=((1:Nat):Int)) zd zd,zm (a:= -((1:Nat):Int)) zd zd]
  have e2:((BitVec.ofInt IntKind.i32.bits ((u / 2:Nat):Int))^^^(BitVec.ofInt IntKind.i32.bits (-((1:Nat):Int)))).toNat=4294967295 - u / 2:=by
   show ((BitVec.ofInt 32 ((u / 2:Nat):Int))^^^(BitVec.ofInt 32 (-1))).toNat=_
   rw[show BitVec.ofInt 32 (-1)=BitVec.allOnes 32 by decide,BitVec.xor_allOnes,BitVec.toNat_not,Xl hx];omega
  rw[e2];have e3:IntKind.i32.wrap ((4294967295 - u / 2:Nat):Int)=((4294967295 - u / 2:Nat):Int) - 4294967296:=by
   have:IntKind.i32.wrap ((4294967295 - u / 2:Nat):Int)=if 2147483648≤((4294967295 - u / 2:Nat):Int) % 4294967296 then ((4294967295 - u / 2:Nat):Int) % 4294967296 - 4294967296 else ((4294967295 - u / 2:Nat):Int) % 4294967296:=by simp[IntKind.wrap,IntKind.bits,IntKind.signed]
   rw[this,jb zo];omega
  rw[e3];omega
 ·have h0:u % 2=0:=by omega
  rw[ja h2,h0,zm (a:=((0:Nat):Int)) zd zd,zm (a:= -((0:Nat):Int)) zd zd];have e2:((BitVec.ofInt IntKind.i32.bits ((u / 2:Nat):Int))^^^(BitVec.ofInt IntKind.i32.bits (-((0:Nat):Int)))).toNat=u / 2:=by
   show ((BitVec.ofInt 32 ((u / 2:Nat):Int))^^^(BitVec.ofInt 32 0)).toNat=_
   rw[show BitVec.ofInt 32 0=0#32 by decide,BitVec.xor_zero,Xl hx];omega
  rw[e2,zm zo zo]
theorem jAt {s:RS}{q:Int}(hd:s.bad=0)(h1:(qA s.bs 8).2.2=0)(h2:(WS (qA s.bs 8).1 (s.bs.drop (qA s.bs 8).2.1) []).2.2=q)(hq:q≠0):xw 8 s=([],{s with bad:=q}):=by
 unfold xw;rw[ja zo,ja zo];dsimp only;rw[h2,jb hq]
set_option maxRecDepth 100000 in
theorem V5 (r:Nat)(a:OA)(c:Nat)(s:RS)(M:OM)(L:HL)[hM:wY M L](h:RK M a c s):
  qh kY 161 [.pointer (some ⟨r,0,none⟩),.int .i64 8] (rdS r a c s::L)
   (λv L'=>∃va vc a' c',v=.slice va (xw 8 s).1.length vc∧RK M a' c' (xw 8 s).2∧L'=slO 21 1 va (xw 8 s).1.length vc ((xw 8 s).1.map yT)::rdS r a' c' (xw 8 s).2::L):=by
 refine qg Tryz.func161 rfl rfl rfl ?_;refine Q.r ?_;refine S.cr rfl (ZW r a s.bs.length c s.bad L) ?_;rintro _ _ ⟨rfl,rfl⟩
 by_cases hd:s.bad=0
 ·refine Q.r ?_
  refine S.y (Y.cvi rfl) ?_;rw[show IntKind.u64.wrap (max 8 0)=((8:Nat):Int) by decide];refine S.cr rfl (V0 a c s.bs 8 (rdS r a c s::L) (h.sl.rd (hm:=wY.there)) (by have:=h.b;omega)) ?_;rintro _ _ ⟨rfl,rfl⟩;have hsz:=xJ s.bs 8
  by_cases h1:(qA s.bs 8).2.2=0
  ·have hn8:=(yt h1).2
   have hgo:∀q,(WS (qA s.bs 8).1 (s.bs.drop (qA s.bs 8).2.1) []).2.2=q→q≠0→xw 8 s=([],{s with bad:=q}):=λq h2 hq=>jAt hd h1 h2 hq
   have hok:∀v b,WS (qA s.bs 8).1 (s.bs.drop (qA s.bs 8).2.1) []=(v,b,0)→xw 8 s=(v,⟨b,0,s.good⟩):=λv b h2=>by
    unfold xw;rw[ja zo,ja zo];dsimp only;rw[h2,ja (by simp)]
   have hs0:=h.sl.fromA (l:=(qA s.bs 8).2.1) hsz h.c;rw[jX,←List.map_drop] at hs0;unfold QK;rw[h1,ja zd];generalize (qA s.bs 8).1=n0 at*;generalize (qA s.bs 8).2.1=z0 at*;obtain ⟨b0,hb0⟩:∃b0,b0=s.bs.drop z0:=⟨_,rfl⟩;have hb0l:b0.length=s.bs.length - z0:=by rw[hb0,jE]
   rw[←hb0] at hgo hok hs0;rw[←hb0l] at hs0 ⊢;have hc0:b0.length≤c - z0:=by have:=h.c;omega
   have hbl:b0.length≤10000000:=by have:=h.b;omega
   refine Q.r ?_;refine qx (σ:=Int×List Int×List UInt8×OA×Nat×OA×Nat) (λw=> [(0,.pointer (some ⟨r,0,none⟩)),(6,.slice w.2.2.2.1 w.2.2.1.length w.2.2.2.2.1),(7,.int .i64 w.1),(8,.slice w.2.2.2.2.2.1 w.2.1.length w.2.2.2.2.2.2)])
    (λw=>slO 21 1 w.2.2.2.2.2.1 w.2.1.length w.2.2.2.2.2.2 (w.2.1.map yT)::rdS r a c s::L)
    (λw=>(w.1=0∧qH M w.2.2.2.1 w.2.2.1.length 1 (w.2.2.1.map B)∧w.2.2.1.length≤w.2.2.2.2.1∧w.2.2.1.length≤10000000∧WS n0 b0 []=(w.2.1,w.2.2.1,0))∨(w.1≠0∧(WS n0 b0 []).2.2=w.1)) ?_ ?_
   ·refine ql (σ:=Nat×Int×List Int×List UInt8×OA×Nat×OA×Nat) (λw=> [(0,.pointer (some ⟨r,0,none⟩)),(5,.int .u64 n0),(6,.slice w.2.2.2.2.1 w.2.2.2.1.length w.2.2.2.2.2.1),(7,.int .i64 w.2.1),(8,.slice w.2.2.2.2.2.2.1 w.2.2.1.length w.2.2.2.2.2.2.2),(9,.int .u64 w.1)])
     (λw=>slO 21 1 w.2.2.2.2.2.2.1 w.2.2.1.length w.2.2.2.2.2.2.2 (w.2.2.1.map yT)::rdS r a c s::L)
     (λw=>w.1≤n0∧w.2.2.1.length≤10∧((w.2.1=0∧w.2.2.1.length=w.1∧qH M w.2.2.2.2.1 w.2.2.2.1.length 1 (w.2.2.2.1.map B)∧w.2.2.2.1.length≤w.2.2.2.2.2.1∧w.2.2.2.1.length≤10000000∧WS (n0 - w.1) w.2.2.2.1 w.2.2.1=WS n0 b0 [])∨(w.2.1≠0∧(WS n0 b0 []).2.2=w.2.1)))
     (λw=>n0 - w.1) (0,0,[],b0,Qw a c z0 1,c - z0,none,0) zt eG ⟨jw _,jw _,.inl ⟨rfl,rfl,hs0,hc0,hbl,rfl⟩⟩ ?_
    rintro ⟨i,e,acc,bs',a',c',oa,oc⟩ ⟨hi,hal,hcase⟩;dsimp only at hi hal hcase ⊢
    rcases hcase with ⟨rfl,hai,hs',hc',hb',hv⟩|⟨he,hv⟩
    ·by_cases hlt:i<n0
     ·have hz:=xJ bs' 18446744073709551615
      have hT:=V0 a' c' bs' 18446744073709551615 (slO 21 1 oa acc.length oc (acc.map yT)::rdS r a c s::L) (hs'.rd (hm:=wY.there (h:=wY.there))) zo;rw[show n0 - i=(n0 - (i+1))+1 by omega,Jn] at hv;have hs2:=hs'.fromA (l:=(qA bs' 18446744073709551615).2.1) hz hc';rw[jX,←List.map_drop] at hs2;refine Q.r ?_;refine S.cr rfl hT ?_;rintro _ _ ⟨rfl,rfl⟩;clear hT;unfold QK;generalize (qA bs' 18446744073709551615).1=u at*;generalize (qA bs' 18446744073709551615).2.1=z at*;generalize (qA bs' 18446744073709551615).2.2=q at*;have hdl:(bs'.drop z).length=bs'.length - z:=jE
      by_cases h2:q=0
      ·subst h2
       rw[ja zo] at hv;rw[ja zo,←hdl];rw[←hdl] at hs2
       by_cases h3:4294967295<u
       ·rw[jb h3] at hv
        refine Q.r ?_;refine S.y (Y.cvi rfl) ?_;refine S.y (Y.shrI (b:=1) rfl rfl zd) ?_;refine S.y (Y.cvi rfl) ?_;refine Q.r ?_;refine S.y (Y.and rfl rfl) ?_;refine S.y (Y.cvi rfl) ?_;refine S.y (Y.neg rfl) ?_;refine S.y (jCp (v':=yT (vvI (u:Int))) (Y.xor rfl rfl) rfl) ?_;refine Q.r ?_;(repeat (intro b1;refine Q.r ?_));refine S.app rfl rfl (vA.sl vg.row zr zr) zr zo zo (λoa2 oc2=> ?_);refine Q.r ?_;refine S.y (Y.add rfl rfl) ?_;rw[show IntKind.u64.wrap ((i:Int)+1)=(i:Int)+1 from wrap_u64 zo zo];refine Q.r ?_;refine ⟨(i+1,4,acc++[vvI (u:Int)],bs'.drop z,Qw a' c' z 1,c' - z,oa2,oc2),⟨rfl,rfl,rfl,rfl,jj some (by simp[jU]),jj some (by simp[jU]),trivial⟩,?_,⟨hlt,by dsimp only;rw[qF];omega,(.inr ⟨show (4:Int)≠0 by decide,by rw[←hv]⟩)⟩,jr n0 i hlt⟩;dsimp only;rw[qF,jq,jL,kC];exact eG
       ·rw[ja h3,←jFR zo] at hv
        refine Q.r ?_;refine S.y (Y.cvi rfl) ?_;refine S.y (Y.shrI (b:=1) rfl rfl zd) ?_;refine S.y (Y.cvi rfl) ?_;refine Q.r ?_;refine S.y (Y.and rfl rfl) ?_;refine S.y (Y.cvi rfl) ?_;refine S.y (Y.neg rfl) ?_;refine S.y (jCp (v':=yT (vvI (u:Int))) (Y.xor rfl rfl) rfl) ?_;refine Q.r ?_;(repeat (intro b1;refine Q.r ?_));refine S.app rfl rfl (vA.sl vg.row zr zr) zr zo zo (λoa2 oc2=> ?_);refine Q.r ?_;refine S.y (Y.add rfl rfl) ?_;rw[show IntKind.u64.wrap ((i:Int)+1)=(i:Int)+1 from wrap_u64 zo zo];refine Q.r ?_;refine ⟨(i+1,0,acc++[vvI (u:Int)],bs'.drop z,Qw a' c' z 1,c' - z,oa2,oc2),⟨rfl,rfl,rfl,rfl,jj some (by simp[jU]),jj some (by simp[jU]),trivial⟩,?_,⟨hlt,by dsimp only;rw[qF];omega,(.inl ⟨rfl,by dsimp only;rw[qF,hai],hs2,by dsimp only;omega,by dsimp only;omega,hv⟩)⟩,jr n0 i hlt⟩;dsimp only;rw[qF,jq,jL,kC];exact eG
      ·rw[jb h2] at hv
       rw[jb h2];refine Q.r ?_;refine S.y (Y.cvi rfl) ?_;refine S.y (Y.shrI (b:=1) rfl rfl zd) ?_;refine S.y (Y.cvi rfl) ?_;refine Q.r ?_;refine S.y (Y.and rfl rfl) ?_;refine S.y (Y.cvi rfl) ?_;refine S.y (Y.neg rfl) ?_;refine S.y (jCp (v':=yT (vvI (u:Int))) (Y.xor rfl rfl) rfl) ?_;refine Q.r ?_;(repeat (intro b1;refine Q.r ?_));refine S.app rfl rfl (vA.sl vg.row zr zr) zr zo zo (λoa2 oc2=> ?_);refine Q.r ?_;refine S.y (Y.add rfl rfl) ?_;rw[show IntKind.u64.wrap ((i:Int)+1)=(i:Int)+1 from wrap_u64 zo zo];refine Q.r ?_;refine ⟨(i+1,q,acc++[vvI (u:Int)],[],none,0,oa2,oc2),⟨rfl,rfl,rfl,rfl,jj some (by simp[jU]),jj some (by simp[jU]),trivial⟩,?_,⟨hlt,by dsimp only;rw[qF];omega,(.inr ⟨h2,by rw[←hv]⟩)⟩,jr n0 i hlt⟩;dsimp only;rw[qF,jq,jL,kC];exact eG
     ·have hin:i=n0:=by omega
      subst hin;rw[Nat.sub_self] at hv;refine Q.r ?_;exact ⟨(0,acc,bs',a',c',oa,oc),zt,kZ _,.inl ⟨rfl,hs',hc',hb',hv.symm⟩⟩
    ·refine Q.r ?_
     exact ⟨(e,acc,bs',a',c',oa,oc),zt,kZ _,.inr ⟨he,hv⟩⟩
   rintro ⟨e,acc,bs',a',c',oa,oc⟩ hcase;dsimp only at hcase ⊢
   rcases hcase with ⟨rfl,hs',hc',hb',hv⟩|⟨he,hv⟩
   ·rw[hok _ _ hv]
    refine Q.r ?_;refine S.c1 (A:=rdS r a c s) rfl (zu r a a' s.bs.length c bs'.length c' s.bad 0 _) ?_;rintro _ _ ⟨rfl,rfl⟩;rw[jb rfl,hd];refine Q.r ?_;refine N.t rfl ?_ ⟨oa,oc,a',c',rfl,⟨hs',hc',hb'⟩,rfl⟩;exact eG
   ·rw[hgo _ hv he]
    refine Q.r ?_;refine S.c1 (A:=rdS r a c s) rfl (zu r a a' s.bs.length c bs'.length c' s.bad e _) ?_;rintro _ _ ⟨rfl,rfl⟩;rw[ja he,hd,jb rfl];refine Q.r ?_;refine N.t rfl ?_ ⟨none,0,a,c,rfl,⟨h.sl,h.c,h.b⟩,rfl⟩;exact eG
  ·have e1:xw 8 s=([],{s with bad:=(qA s.bs 8).2.2}):=by
    unfold xw;rw[ja zo,jb h1]
   rw[e1];unfold QK;rw[jb h1];generalize (qA s.bs 8).2.2=e at*;refine Q.r ?_;refine qx (σ:=Unit) (λ_=> [(0,.pointer (some ⟨r,0,none⟩)),(6,.slice none 0 0),(7,.int .i64 e),(8,.slice none 0 0)]) (λ_=>rdS r a c s::L) (λ_=>True) ?_ ?_
   ·refine ql (σ:=Unit) (λ_=> [(0,.pointer (some ⟨r,0,none⟩)),(6,.slice none 0 0),(7,.int .i64 e),(8,.slice none 0 0)]) (λ_=>rdS r a c s::L) (λ_=>True) (λ_=>0) () zt (kZ _) trivial ?_
    rintro _ _;refine Q.r ?_;exact ⟨(),zt,kZ _,trivial⟩
   rintro _ _;refine Q.r ?_;refine S.c1 (A:=rdS r a c s) rfl (zu r a none s.bs.length c 0 0 s.bad e _) ?_;rintro _ _ ⟨rfl,rfl⟩;rw[ja h1,hd,jb rfl];refine Q.r ?_;refine N.t rfl ?_ ⟨none,0,a,c,rfl,⟨h.sl,h.c,h.b⟩,rfl⟩;exact eG
 ·have e1:xw 8 s=([],s):=by unfold xw;rw[jb hd]
  rw[e1];refine Q.r ?_;refine N.t rfl ?_ ⟨none,0,a,c,rfl,h,rfl⟩;exact eG
end Go.Proofs.YtlnfjhiphlfkjaaGreatDoor
