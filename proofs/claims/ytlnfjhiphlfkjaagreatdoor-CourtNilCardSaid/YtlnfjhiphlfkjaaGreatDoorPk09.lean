/- Walks of functions, and plain laws, that the last text rests on. No condition. -/
import Derived.Test.YtlnfjhiphlfkjaaGreatDoorPk08
set_option linter.unusedVariables false
set_option linter.unusedSimpArgs false
set_option linter.unusedSectionVars false
set_option maxHeartbeats 8000000
namespace Go.Proofs.YtlnfjhiphlfkjaaGreatDoor
open Go Go.SX
theorem Q3 {l:List Int}(h:wL l=true){k:Nat}(hk:k<l.length):0≤l[k]∧l[k]<16∧(∀(h0:0<k),l[k - 1]'(by omega)<l[k]):=by
 unfold wL at h;have:=List.all_eq_true.1 h k (List.mem_range.2 hk);unfold cj at this;have e:∀i (hi:i<l.length),l.getD i 0=l[i]:=λi hi=>by simp[List.getD,hi]
 rw[e k hk] at this;simp only[jF,kU,jS] at this;refine ⟨this.1.1,this.1.2,λh0=> ?_⟩
 rcases this.2 with h1|h1
 ·omega
 ·rwa [e (k - 1) zo] at h1
theorem rP {l:List Int}(h:wL l=true):zI l∧∀q∈l,0≤q∧q<16:=by
 constructor
 ·refine List.pairwise_iff_getElem.2 ?_
  intro i j hi hj hij
  induction j with
  |zero=>omega
  |succ j ih=>
   have hs:=(Q3 h hj).2.2 zo;simp only[Nat.add_sub_cancel] at hs
   by_cases he:i=j
   ·subst he;exact hs
   ·exact Int.lt_trans (ih zo zo) hs
 ·intro q hq
  obtain ⟨k,hk,rfl⟩:=List.getElem_of_mem hq;exact ⟨(Q3 h hk).1,(Q3 h hk).2.1⟩
theorem fg {n:NA}(h:qu n=true):zI n.parts∧(∀q∈n.parts,0≤q∧q<16)∧n.parts.length≤4:=by
 unfold qu wQ at h;simp only[jF,kL,Bool.or_eq_false_iff,j5] at h;have:=rP h.2.1.1.2;exact ⟨this.1,this.2,by omega⟩
theorem Zu {n:NA}(h:qu n=true):n.stamp≤1099511627776∧n.mark≤1099511627776:=by
 unfold qu wQ at h;simp only[jF,kL,Bool.or_eq_false_iff,j5] at h;omega
theorem wy {κ α:Type}[DecidableEq κ]{m:List (κ×α)}{k:κ}{a:α}{x:κ×α}(h:x∈qZ m k a):x∈m∨x=(k,a):=by
 unfold qZ at h
 split at h
 ·obtain ⟨u,hu,rfl⟩:=jM.1 h
  split
  ·exact .inr rfl
  ·exact .inl hu
 ·rcases jy.1 h with h|h
  ·exact .inl h
  ·exact .inr (ji.1 h)
theorem WG.app {j:JG}(h:WG j){n:NA}(h0:0≤n.txn)(hst:0≤n.stamp)(hmk:0≤n.mark):WG (vC j n):=by
 by_cases hE:¬vm j n=0
 ·rw[xC hE];exact h
 have hE:vm j n=0:=kv.1 hE
 cases hr:qu n with
 |false=>unfold vm at hE;rw[jb hr] at hE;cases hE
 |true=>
 have hb:=h.b;have hp:=fg hr;have hm:=Zu hr;have ho:=(lR hr).2
 by_cases h16:n.kind=16
 ·rw[dh hE h16]
  have hmj:j.epoch<n.mark:=by
   rw[pX hr h16] at hE
   split at hE
   ·cases hE
   ·omega
  exact ⟨⟨hmk,hm.2,ki _,(show (0:Int)<1048576 by decide),hb.l0,hb.l1,hb.d1,hb.d2⟩,(List.filter_sublist.map _).nodup h.kt,h.kd,λu hu=>h.tx u (jB.1 hu).1,h.dp⟩
 by_cases h19:n.kind=19
 ·rw[df hE h19]
  refine ⟨⟨hb.e0,hb.e1,?_,?_,hb.l0,hb.l1,hb.d1,hb.d2⟩,vL h.kt _ _,h.kd,λu hu=> ?_,h.dp⟩
  ·have:=hb.s0
   dsimp only
   split<;>omega
  ·have:=hb.s1
   dsimp only
   split<;>omega
  ·rcases wy hu with hu|rfl
   ·exact h.tx u hu
   ·exact ⟨rfl,h0,ki _,hp.1,hp.2.2,hp.2.1,List.Pairwise.nil,λ_ h=>(by cases h),List.Pairwise.nil,λ_ h=>(by cases h),ho⟩
 by_cases h17:n.kind=17
 ·rw[Yz hE h17]
  have hne:n.stamp≠0:=by
   rw[pW hr h17] at hE;unfold jDI at hE;intro e;rw[jb e] at hE;cases hE
  refine ⟨⟨hb.e0,hb.e1,hb.s0,hb.s1,?_,?_,hb.d1,hb.d2⟩,vL h.kt _ _,vL h.kd _ _,λu hu=> ?_,λu hu=> ?_⟩
  ·have:=hb.l0;dsimp only;omega
  ·have:=hb.l1;dsimp only;omega
  ·rcases wy hu with hu|rfl
   ·exact h.tx u hu
   ·cases hz:qJ j.tr n.txn with
    |some t=>
     have ht:=h.lk hz;exact ⟨ht.xx,ht.x0,hst,ht.r,ht.pl,ht.pb,ht.yr,ht.ys,ht.kr,ht.ks,ht.ol⟩
    |none=>exact ⟨rfl,h0,hst,hp.1,hp.2.2,hp.2.1,List.Pairwise.nil,λ_ h=>(by cases h),List.Pairwise.nil,λ_ h=>(by cases h),jw _⟩
  ·rcases wy hu with hu|rfl
   ·exact h.dp u hu
   ·dsimp only;omega
 by_cases hw:n.kind=20∨n.kind=21
 ·have hE2:=hE
  rw[de hr hw] at hE2
  cases hz:qJ j.tr n.txn with
  |none=>rw[hz] at hE2;cases hE2
  |some t=>
   rw[hz] at hE2;dsimp only at hE2;have ht:=h.lk hz;rw[pU hE hw hz];refine ⟨⟨hb.e0,hb.e1,hb.s0,hb.s1,hb.l0,hb.l1,hb.d1,hb.d2⟩,vL h.kt _ _,h.kd,λu hu=> ?_,h.dp⟩
   rcases wy hu with hu|rfl
   ·exact h.tx u hu
   ·unfold ym at hE2
    by_cases hne:decide (0<t.stamp)≠decide (n.kind=21)
    ·rw[jb hne] at hE2;cases hE2
    ·rw[ja hne] at hE2
     by_cases hno:n.who∉t.parts∨n.who∈(if n.kind=21 then t.acked else t.yes)
     ·rw[jb hno] at hE2;cases hE2
     ·skip
      have hpp:n.who∈t.parts:=kv.1 λe=>hno (.inl e)
      have hnn:n.who∉(if n.kind=21 then t.acked else t.yes):=λe=>hno (.inr e)
      unfold zW
      by_cases h21:n.kind=21
      ·rw[jb h21] at hnn ⊢
       exact ⟨ht.xx,ht.x0,ht.st,ht.r,ht.pl,ht.pb,ht.yr,ht.ys,V6 ht.kr hnn,λq hq=>(by rcases VA.1 hq with rfl|hq;exact hpp;exact ht.ks q hq),ht.ol⟩
      ·rw[ja h21] at hnn ⊢
       exact ⟨ht.xx,ht.x0,ht.st,ht.r,ht.pl,ht.pb,V6 ht.yr hnn,λq hq=>(by rcases VA.1 hq with rfl|hq;exact hpp;exact ht.ys q hq),ht.kr,ht.ks,ht.ol⟩
 ·by_cases he:n.kind=18∨n.kind=22
  ·rw[gk hE he]
   exact ⟨⟨hb.e0,hb.e1,hb.s0,hb.s1,hb.l0,hb.l1,hb.d1,hb.d2⟩,ze h.kt _,h.kd,λu hu=>h.tx u (jB.1 hu).1,h.dp⟩
  ·unfold vm at hE
   rw[ja (by rw[hr];decide),ja h16,ja h19,ja h17,ja zo] at hE
   cases hE
theorem WG.zero {s d:Int}(h1:1≤d)(h2:d≤8):WG (ww s d):=
 ⟨⟨ki _,(show (0:Int)≤1099511627776 by decide),ki _,(show (0:Int)<1048576 by decide),ki _,(show (0:Int)≤1099511627776 by decide),h1,h2⟩,List.nodup_nil,List.nodup_nil,λ_ h=>(by cases h),λ_ h=>(by cases h)⟩
theorem GI.zero :GI (ww 3 2) 0 (λ_ _=>False) []:=
 ⟨rfl,rfl,ki _,ki _,ki _,ki _,List.nodup_nil,List.nodup_nil,List.nodup_nil,λ_ _ h=>(by cases h),λ_ _ h=>(by cases h),λ_ _ h=>(by cases h),λ_ _ _ _ h=>(by cases h)⟩
attribute [local irreducible] swp qq qM qL vX qh St qi qk vu qG
attribute [local irreducible] zc
theorem m5 {α:Type}(rr:α→Value)(bm b:Nat)(m:List (Int×α))(A:HL):VT kY 187 [.pointer (some ⟨bm,0,none⟩)] U64 m.length (λks=>ks.Perm (m.map (·.1)))
  (pt bm (cl [.map (some b)] 128)::Vp U64 rr b m::A) (Vp U64 rr b m::A):=by
 intro l J hJ;refine qg Tryz.func187 rfl rfl rfl ?_;refine Q.r ?_;refine S.rg rfl (λr=> ?_);refine Q.r ?_;refine ql (σ:=List Nat) (λvis=> [(0,.func (.yield l) #[] #[]),(5,.pointer (some ⟨r,0,none⟩))])
  (λvis=>J (vis.filterMap λi=>(m[i]?).map (·.1))::ZO U64 rr b r m vis::A) (λvis=>vis.Nodup∧∀i∈vis,i<m.length) (λvis=>m.length - vis.length) [] zt (by simp only[List.filterMap_nil];exact eG) ⟨by simp,by simp⟩ ?_
 rintro vis ⟨hv1,hv2⟩;refine Q.r ?_;refine S.nx rfl (λhend=> ?_) (λi p hp hi=> ?_)
 ·refine Q.r ?_
  exact N.n0 RV.nil (qi.cons Qn) ⟨_,Xi _ hv1 hv2 hend,rfl⟩
 ·have hil:i<m.length:=(jm.1 hp).1
  obtain ⟨hm1,hm2,hm3⟩:=Kz hv1 hv2 hil hi;have hvl:(vis.filterMap λi=>(m[i]?).map (·.1)).length≤vis.length:=List.length_filterMap_le _ _;have happ:((vis++[i]).filterMap λi=>(m[i]?).map (·.1))=(vis.filterMap λi=>(m[i]?).map (·.1))++[p.1]:=by
   rw[List.filterMap_append];simp[hp]
  refine Q.r ?_;refine S.y (Y.en rfl hp) ?_;refine S.y (Y.ext rfl rfl) ?_;refine S.y (Y.as rfl) ?_;refine qO ?_;refine N.tn ?_;refine wl ?_;refine zT ?_;refine qy (λ_ h=>by cases h) rfl ?_;refine Q.r ?_;refine qy (λ_ h=>by cases h) rfl ?_;refine Q.r ?_;refine J8 rfl rfl ((hJ _ p.1 zo).frame (R:=_)) ?_;refine qy (λ_ h=>by cases h) rfl ?_;refine Q.r ?_;refine wB ?_;refine Q.r ?_;refine ⟨vis++[i],zt,?_,⟨hm1,hm2⟩,by simp;omega⟩;rw[happ];exact eG
theorem Zi (mo:Option Nat)(L:HL):qh kY 134 [.map mo] L
  (λv L'=>∃bm,v=.func (.func 187) #[] [.pointer (some ⟨bm,0,none⟩)].toArray∧L'=pt bm (cl [.map mo] 128)::L):=by
 refine qg Tryz.func134 rfl rfl rfl ?_;refine Q.r ?_;(repeat (intro b1;refine Q.r ?_));refine S.y (Y.mf rfl rfl) ?_;refine Q.r ?_;exact N.t rfl (kZ _) ⟨_,rfl,rfl⟩
theorem YK (M:OM)(p:Nat)(j:JG)(L:HL)(hn:j.tr.length≤1000000):
  qh kY 68 [vI p] (qE M p j::L) (λr L'=>∃a c,r=.slice a j.tr.length c∧L'=slO 31 1 a j.tr.length c ((vo (j.tr.map (·.1))).map U64)::qE M p j::L):=by
 refine wC λmt md ts hq=> ?_
 have hlen:j.tr.length=ts.length:=by rw[←hq.tr,jf]
 have hkeys:j.tr.map (·.1)=ts.map (·.1):=by rw[←hq.tr,kE];rfl
 rw[hlen,hkeys];rw[hlen] at hn;refine qg Tryz.func68 rfl rfl rfl ?_;refine Q.r ?_;refine S.cr rfl (Zi (some mt) _) ?_;rintro _ _ ⟨bm,rfl,rfl⟩;refine Q.r ?_;refine qm (L':=pt bm (cl [.map (some mt)] 128)::gT mt ts::gP p j mt md::qD ts::gD md j.done::L) eG ?_;have hs:=m5 W5 bm mt ts (gP p j mt md::qD ts::gD md j.done::L);refine S.cr rfl (WL _ _ (ts.map (·.1)) _ _ (by rw[jf];omega) (by rw[jf];exact hs)) ?_;rintro _ _ ⟨a,c,rfl,rfl⟩;refine Q.r ?_;rw[jf];refine N.t rfl (qi.cons ?_) ⟨a,c,rfl,rfl⟩;exact qi.trans (M:=gP p j mt md::gT mt ts::qD ts::gD md j.done::L) eG (qR hq)
end Go.Proofs.YtlnfjhiphlfkjaaGreatDoor
namespace Go.SX
open Go
section
variable {κ α : Type} {g : κ → Value} {rr : α → Value}
def itQ (g:κ→Value)(rr:α→Value)(m:List (κ×α))(done:List κ)(last:Option κ)(x:Array MapEntry×Nat×Array Nat):Prop:=
 yC g rr m x.1.toList x.2.1∧(∀y∈x.1.toList.zip m,y.1.born∈x.2.2.toList↔y.2.1∈done)∧∀k,last=some k→∃y∈x.1.toList.zip m,y.2.1=k∧∃v0:Array Nat,x.2.2=v0.push y.1.born
def mn (g:κ→Value)(rr:α→Value)(b r:Nat)(m:List (κ×α))(done:List κ)(last:Option κ):HP:=
 cQ λx:Array MapEntry×Nat×Array Nat=>xO [wv (itQ g rr m done last x),pt b (.map x.1 x.2.1),pt r (.mapIter (some b) x.2.1 x.2.2 x.2.1)]
end
class Jm (r:Nat)(L:HL){κ α:outParam Type}(g:outParam (κ→Value))(rr:outParam (α→Value))(b:outParam Nat)(m:outParam (List (κ×α)))(done:outParam (List κ))(last:outParam (Option κ))(L':outParam (HP→HL)):Prop where
 at_:∃R,L.Perm (mn g rr b r m done last::R)∧∀x,(x::R).Perm (L' x)
instance Jm.here {κ α:Type}{r b:Nat}{g:κ→Value}{rr:α→Value}{m:List (κ×α)}{done:List κ}{last:Option κ}{L:HL}:Jm r (mn g rr b r m done last::L) g rr b m done last (λx=>x::L):=⟨L,.refl _,λ_=>.refl _⟩
instance (priority :=low) Jm.there {κ α:Type} {r b:Nat} {g:κ→Value} {rr:α→Value} {m:List (κ×α)} {done:List κ} {last:Option κ} {A:HP} {L:HL} {L':HP→HL} [h:Jm r L g rr b m done last L']:Jm r (A::L) g rr b m done last (λx=>A::L' x):=by
 obtain ⟨R,h1,h2⟩:=h.at_;exact ⟨A::R,(h1.cons A).trans (.swap _ _ _),λx=>List.Perm.trans (.swap _ _ _) ((h2 x).cons A)⟩
section
variable {κ α : Type} {g : κ → Value} {rr : α → Value} {m : List (κ × α)} {done : List κ} {last : Option κ}
theorem VI {b r:Nat}{L:HL}{x:Array MapEntry×Nat×Array Nat}(h:itQ g rr m done last x):qi (pt b (.map x.1 x.2.1)::pt r (.mapIter (some b) x.2.1 x.2.2 x.2.1)::L) (mn g rr b r m done last::L):=
 qi.trans (qi.shut_pure h) (qi.trans (qi.shut_all (L:=[_,_,_])) (qi.shut_ex (P:=λx:Array MapEntry×Nat×Array Nat=>xO [wv (itQ g rr m done last x),pt b (.map x.1 x.2.1),pt r (.mapIter (some b) x.2.1 x.2.2 x.2.1)]) x))
theorem St.ik_open {w:World}{b r:Nat}{L:HL}(H:St w (mn g rr b r m done last::L)):∃x,itQ g rr m done last x∧St w (pt b (.map x.1 x.2.1)::pt r (.mapIter (some b) x.2.1 x.2.2 x.2.1)::L):=by
 obtain ⟨x,H⟩:=St.open_ex H;have H:=qi.open_all (L:=[_,_,_]) (M:=L) w [] (by simpa using H);obtain ⟨h,H⟩:=St.open_pure (by simpa using H);exact ⟨x,h,H⟩
theorem jDp {b r:Nat}{L:HL}:qi (mn g rr b r m done last::L) (Vp g rr b m::L):=λw F H=>by
 obtain ⟨x,h,H⟩:=St.ik_open (L:=L++F) H;refine St.mp_shut (es:=x.1) (clock:=x.2.1) h.1 ?_;exact (St.perm (.swap _ _ _) H).tail
theorem jDo {b r:Nat}{L:HL}:qi (ZO g rr b r m []::L) (mn g rr b r m [] none::L):=λw F H=>by
 obtain ⟨x,h,H⟩:=St.it_open (L:=L++F) H;exact VI (L:=L) (x:=(x.1,x.2,#[])) ⟨h.1,λy _=>by simp,λk hk=>by cases hk⟩ w F (by simpa using H)
theorem Jm.open_ {r b:Nat}{L F:HL}{L':HP→HL}(h:Jm r L g rr b m done last L'){w:World}(H:St w (L++F)):∃R x,itQ g rr m done last x∧St w (pt b (.map x.1 x.2.1)::pt r (.mapIter (some b) x.2.1 x.2.2 x.2.1)::(R++F))∧∀y w,St w (y::(R++F))→St w (L' y++F):=by
 obtain ⟨R,p1,p2⟩:=h.at_;have H1:St w (mn g rr b r m done last::(R++F)):=by simpa using St.perm (p1.append_right F) H
 obtain ⟨x,k,H2⟩:=St.ik_open H1;exact ⟨R,x,k,H2,λx w H=>St.perm ((p2 x).append_right F) (by simpa using H)⟩
theorem XA {es:List MapEntry}{m:List (κ×α)}{y:MapEntry×(κ×α)}(h:y∈es.zip m):∃i:Nat,es[i]? =some y.1∧m[i]? =some y.2:=by
 obtain ⟨i,hi⟩:=List.mem_iff_getElem?.1 h;exact ⟨i,(List.getElem?_zip_eq_some.1 hi).1,(List.getElem?_zip_eq_some.1 hi).2⟩
theorem nK {es:List MapEntry}{m:List (κ×α)}{i:Nat}{e:MapEntry}{p:κ×α}(h1:es[i]? =some e)(h2:m[i]? =some p):(e,p)∈es.zip m:=
 List.mem_iff_getElem?.2 ⟨i,List.getElem?_zip_eq_some.2 ⟨h1,h2⟩⟩
theorem f7 {es:List MapEntry}{clock:Nat}(h:yC g rr m es clock){i:Nat}{e:MapEntry}(he:es[i]? =some e):∃p:κ×α,m[i]? =some p∧e.key=g p.1∧e.val=rr p.2:=by
 have h1:=jj (λl=>l[i]?) h.1;simp only[jZ,he,Option.map_some] at h1
 cases hm:m[i]? with
 |none=>rw[hm] at h1;cases h1
 |some p=>
  rw[hm] at h1;simp only[Option.map_some,jk,js] at h1;exact ⟨p,rfl,h1.1,h1.2⟩
theorem Qm {β:Type}{l:List β}(h:l.Nodup){i j:Nat}{x:β}(hi:l[i]? =some x)(hj:l[j]? =some x):i=j:=by
 have h1:=(jm.1 hi).1;exact (List.getElem?_inj h1 h).1 (hi.trans hj.symm)
theorem jAj {es:List MapEntry}{clock:Nat}(h:yC g rr m es clock){y z:MapEntry×(κ×α)}(hy:y∈es.zip m)(hz:z∈es.zip m)(e:y.1.born=z.1.born):y=z:=by
 obtain ⟨i,i1,i2⟩:=XA hy;obtain ⟨j,j1,j2⟩:=XA hz;have hn:(es.map (·.born)).Nodup:=h.2.2.1.imp λh=>Nat.ne_of_lt h
 have hij:i=j:=Qm hn (x:=y.1.born) (by rw[jZ,i1];rfl) (by rw[jZ,j1,e];rfl);subst hij;rw[i1] at j1;rw[i2] at j2
 injection j1 with j1;injection j2 with j2
 exact Prod.ext j1 j2
theorem jCG {es:List MapEntry}{clock:Nat}(h:yC g rr m es clock){y z:MapEntry×(κ×α)}(hy:y∈es.zip m)(hz:z∈es.zip m)(e:y.2.1=z.2.1):y=z:=by
 obtain ⟨i,i1,i2⟩:=XA hy;obtain ⟨j,j1,j2⟩:=XA hz;have hij:i=j:=Qm h.2.1 (x:=y.2.1) (by rw[jZ,i2];rfl) (by rw[jZ,j2,e];rfl);subst hij;rw[i1] at j1;rw[i2] at j2
 injection j1 with j1;injection j2 with j2
 exact Prod.ext j1 j2
end
section
variable {P : Program} {n : Nat} {ops rest : List Oper} {Q : vk} {f : vF} {L : HL} {d : Nat} {ty : TypeId} {pos : String} {af : Array Edge}
variable {κ α : Type} {g : κ → Value} {rr : α → Value} {m : List (κ × α)} {done : List κ} {last : Option κ}
theorem S.nxK {x:Operand}{r b:Nat}{L':HP→HL}[hm:Jm r L g rr b m done last L'](hx:ev f x=some (.pointer (some ⟨r,0,none⟩)))
  (hend:(∀p∈m,p.1∈done)→qq P n ops rest Q (upd f d (.tuple #[.bool false])) (L' (mn g rr b r m done last)))
  (hstep:∀p∈m,p.1∉done→qq P n ops rest Q (upd f d (.tuple #[.bool true,g p.1,rr p.2])) (L' (mn g rr b r m (done++[p.1]) (some p.1)))):
  qq P n ops (⟨some d,.next x false,ty,pos,af,none⟩::rest) Q f L:=by
 refine vB (R:=λv L1=>((∀p∈m,p.1∈done)∧v=.tuple #[.bool false]∧L1=L' (mn g rr b r m done last))∨∃p,p∈m∧p.1∉done∧v=.tuple #[.bool true,g p.1,rr p.2]∧L1=L' (mn g rr b r m (done++[p.1]) (some p.1)))
  (fun F a w s t0 => ?_) (by
   rintro _ _ (⟨h,rfl,rfl⟩|⟨p,h1,h2,rfl,rfl⟩)
   ·exact hend h
   ·exact hstep p h1 h2)
 obtain ⟨R,⟨es,clock,vs⟩,hes,H,hback⟩:=hm.open_ t0;have hb:=St.pt_read H;have hr:=St.pt_read (St.perm (.swap _ _ _) H);dsimp only at hb hr;have hlen:es.toList.length=m.length:=by have:=jj List.length hes.1.1;simpa using this
 rcases run_next_at (P:=P) w ty r b clock clock _ es clock hr hb (λx hx=>hes.1.2.2.2 x hx) (jz _) with ⟨h0,hrun⟩|⟨e,he,w1,hw1,hrun⟩
 ·refine ⟨_,w,_,by simp[execOp,s.eval hx,hrun],hback _ _ (VI (L:=R) hes w F H),.inl ⟨λp hp=> ?_,rfl,rfl⟩⟩
  obtain ⟨i,hi⟩:=List.mem_iff_getElem?.1 hp;have hil:i<es.toList.length:=by rw[hlen];exact (jm.1 hi).1
  have hy:=nK (jY hil) hi;refine (hes.2.1 _ hy).1 ?_;have h1:leftOf es vs= #[]:=Array.eq_empty_of_size_eq_zero h0;unfold leftOf at h1;rw[Array.filter_eq_empty_iff] at h1;have:=h1 es.toList[i] (by rw[←Array.mem_toList_iff];exact List.getElem_mem hil)
  simpa using this
 ·unfold leftOf at he
  simp only[Array.toList_filter,jB,Array.mem_toList_iff] at he;obtain ⟨h1,h2⟩:=he;obtain ⟨i,hi⟩:=List.mem_iff_getElem?.1 (Array.mem_toList_iff.2 h1);obtain ⟨p,hp,hk,hv⟩:=f7 hes.1 hi;have hy:=nK hi hp;have hpn:p.1∉done:=λhd=>by
   have:=(hes.2.1 _ hy).2 hd
   simp at h2
   exact h2 (by simpa using this)
  refine ⟨.tuple #[.bool true,g p.1,rr p.2],@ChangeMaps.setBlock w1 r (.mapIter (some b) clock (vs.push e.born) clock),_,by simp[execOp,s.eval hx,hrun,hk,hv],hback _ _ ?_,.inr ⟨p,jn hp,hpn,rfl,rfl⟩⟩;have e1:w1.heap=w.heap:=by rcases hw1 with rfl|rfl<;>rfl
  have e2:SX.ext w1=SX.ext w:=by rcases hw1 with rfl|rfl<;>rfl
  have hlt:r<w.heap.size:=(kj.1 hr).1;have H1:=St.perm (.swap _ _ _) H;have H2:=St.pt_write (w':= @ChangeMaps.setBlock w1 r (.mapIter (some b) clock (vs.push e.born) clock)) (o':=.mapIter (some b) clock (vs.push e.born) clock) H1
   (by simp[ChangeMaps.setBlock,e1,hlt]) (λk hk=>by simp[ChangeMaps.setBlock,e1,Ne.symm hk]) (by rw[←e2];rfl)
  exact VI (L:=R) (x:=(es,clock,vs.push e.born)) ⟨hes.1,λy hy'=>by
   simp only[Array.toList_push,jy,ji];refine ⟨λh=>h.imp (hes.2.1 y hy').1 λh=> ?_,λh=>h.imp (hes.2.1 y hy').2 λh=> ?_⟩
   ·rw[jAj hes.1 hy' hy h]
   ·rw[jCG hes.1 hy' hy h],λk hk'=>by
   injection hk' with hk'
   exact ⟨_,hy,hk',vs,rfl⟩⟩ _ F (St.perm (.swap _ _ _) H2)
theorem Y.enK {A:HL}{x:Operand}{r b:Nat}{p:κ×α}{A':HP→HL}[hm:Jm r A g rr b m done (some p.1) A'](hx:ev f x=some (.pointer (some ⟨r,0,none⟩)))(hp:p∈m):
  qk P n ops ⟨some d,.entry x,ty,pos,af,none⟩ f A (.tuple #[g p.1,rr p.2]):=by
 refine Y.of' λa w F s t0=> ?_
 obtain ⟨R,⟨es,clock,vs⟩,hes,H,hback⟩:=hm.open_ t0;have hb:=St.pt_read H;have hr:=St.pt_read (St.perm (.swap _ _ _) H);dsimp only at hb hr;obtain ⟨y,hy,hyk,v0,hv0⟩:=hes.2.2 p.1 rfl;dsimp only at hy hv0;obtain ⟨i,i1,i2⟩:=XA hy;obtain ⟨p',g2,g4,g5⟩:=f7 hes.1 i1;rw[i2] at g2
 injection g2 with g2
 have hpp:y.2=p:=by
  obtain ⟨j,hj⟩:=List.mem_iff_getElem?.1 hp;have hij:i=j:=Qm hes.1.2.1 (x:=p.1) (by rw[jZ,i2];exact jj some hyk) (by rw[jZ,hj];rfl);subst hij;rw[i2] at hj
  injection hj
 rw[←g2,hpp] at g4 g5;subst hv0;have:=run_entry_at (P:=P) w r b clock _ es clock y.1 hr hb (jn i1) ((hes.1.2.2.1.imp λh=>Nat.ne_of_lt h))
 simp[execOp,s.eval hx,this,g4,g5]
theorem p9 {ep eq:List MapEntry}{ee:MapEntry}{p q:List (κ×α)}{u:κ×α}(hl:ep.length=p.length){y:MapEntry×(κ×α)}(h:y∈(ep++eq).zip (p++q)):y∈(ep++ee::eq).zip (p++u::q):=by
 rw[List.zip_append hl] at h ⊢
 rcases jy.1 h with h|h
 ·exact jy.2 (.inl h)
 ·exact jy.2 (.inr (by rw[List.zip_cons_cons];exact jV _ h))
theorem S.dlK [DecidableEq κ]{x y:Operand}{t t' kt e:TypeId}{dd:TypeDesc}{b:Nat}{q:κ}{L':HP→HL}[h:QP P t kt e][h1:KTy P kt dd][K:gI dd g](r:Nat)[hm:Jm r L g rr b m done last L']
  (hx:ev f x=some (.map (some b))) (hy:ev f y=some (g q)) (hk:qq P n ops rest Q f (L' (mn g rr b r (qT m q) done none))):
  qq P n ops (⟨none,.call ⟨.builtin .delete,#[x,y],#[t,t']⟩,ty,pos,af,none⟩::rest) Q f L:=by
 intro ok F a w s t0;simp only[wj,List.all_cons,jF] at ok;refine wpList_plain rfl λK' hK=> ?_
 obtain ⟨R,⟨es,clock,vs⟩,⟨⟨he,hkk,hbo,hcl⟩,hz,hlast⟩,H,hback⟩:=hm.open_ t0;dsimp only at he hbo hcl hz hlast H;have hb:=St.pt_read H;have hget:(getObj b).run P w=.ok (.map es clock) w:=MapKept.run_getObj_map hb;have hset:∀o,(setObj b o).run P w=.ok () {w with heap:=w.heap.setIfInBounds b o}:=λo=>MapKept.run_setObj_map o hb
 have hpl:=K.plain P kt h1.und es.isEmpty q w;have hlt:b<w.heap.size:=(kj.1 hb).1;have key:∃w',(execOp a.eval ⟨none,.call ⟨.builtin .delete,#[x,y],#[t,t']⟩,ty,pos,af,none⟩).run P w=.ok (.value (.tuple #[])) w'∧St w' (L' (mn g rr b r (qT m q) done none)++F):=by
  have fin:∀es':Array MapEntry,itQ g rr (qT m q) done none (es',clock,vs)→St {w with heap:=w.heap.setIfInBounds b (.map es' clock)} (L' (mn g rr b r (qT m q) done none)++F):=λes' hq=>by
   refine hback _ _ (VI (L:=R) (x:=(es',clock,vs)) hq _ F ?_);exact St.pt_write (o':=.map es' clock) H (by simp[hlt]) (λk hk=>by simp[Ne.symm hk]) rfl
  rcases w9 m hkk q with ⟨p,v,q',rfl,hp,hq⟩|hn
  ·obtain ⟨ep,eq,e1,e2,e3⟩:=VN he
   cases eq with
   |nil=>simp at e3
   |cons ee eq=>
    simp only[jL,List.cons.injEq,js] at e3;have hf:=JI (d:=dd) q ep ee eq 0 (xR e2 hp) e3.1.1;rw[←e1,kR] at hf;have hfk:=wF (P:=P) (kt:=kt) h1.und hf w;refine ⟨_,?_,fin (es.eraseIdxIfInBounds (ep.length)) ?_⟩
    ·simp[execOp,resolve,invoke,builtin,s.eval hx,s.eval hy,Builtin.delete_,h.und,hget,hpl,hfk,hset]
    ·have el:(es.eraseIdxIfInBounds (ep.length)).toList=ep++eq:=by
      have hl:ep.length<es.size:=by have:=jj List.length e1;simp at this;omega
      rw[Array.eraseIdxIfInBounds,dif_pos hl,Array.toList_eraseIdx,e1,List.eraseIdx_append_of_length_le (jz _)]
      simp
     have hpl2:ep.length=p.length:=by have:=jj List.length e2;simpa using this
     refine ⟨⟨?_,ze hkk q,?_,λe' he'=> ?_⟩,λy hy=> ?_,λk hk=>by cases hk⟩
     ·dsimp only
      rw[el,KX hp hq];simp only[jq,e2,e3.2]
     ·dsimp only
      rw[el];rw[e1] at hbo;refine List.Pairwise.sublist ?_ hbo;exact List.Sublist.map _ (List.Sublist.append_left (List.sublist_cons_self _ _) _)
     ·dsimp only at he'
      rw[el] at he';rw[e1] at hcl;simp only[jy] at he';exact hcl _ (by simp only[jy,j9];exact he'.imp id .inr)
     ·dsimp only at hy ⊢
      rw[el,KX hp hq] at hy;exact hz y (by rw[e1];exact p9 hpl2 hy)
  ·have hf:=JJ (d:=dd) q es.toList 0 (xR he hn)
   have hfk:=wF (P:=P) (kt:=kt) h1.und hf w;refine ⟨_,?_,fin es ?_⟩
   ·simp[execOp,resolve,invoke,builtin,s.eval hx,s.eval hy,Builtin.delete_,h.und,hget,hpl,hfk,hset]
   ·rw[Wg hn];exact ⟨⟨he,hkk,hbo,hcl⟩,hz,λk hk=>by cases hk⟩
 obtain ⟨w',hr,ht⟩:=key;simp only[Oper.wp,hr,Oper.upon];exact hK _ _ (hk ok.2 F _ _ (s.put ok.1 _) ht)
end
theorem jBj {κ α:Type}[DecidableEq κ]{g:κ→Value}{r:α→Value}{b:Nat}{m m':List (κ×α)}(h:m.map (λp=>(g p.1,r p.2))=m'.map (λp=>(g p.1,r p.2)))(hk:m.map (·.1)=m'.map (·.1)){L:HL}:qi (Vp g r b m::L) (Vp g r b m'::L):=λw F H=>
 St.of_sep (L:=Vp g r b m::(L++F)) (λhh ⟨h1,h2,ok,e,⟨es,c,⟨a1,a2,a3⟩,a4⟩,l⟩=>⟨h1,h2,ok,e,⟨es,c,⟨a1.trans h,by unfold qn at*;rw[←hk];exact a2,a3⟩,a4⟩,l⟩) H
end Go.SX
namespace Go.Proofs.YtlnfjhiphlfkjaaGreatDoor
open Go Go.SX
attribute [local irreducible] swp qq qM qL vX qh St qi qk vu qG
theorem jE8 {ts:List TB}{k b mt:Nat}{x:Int}{t t':TV}(h:ts[k]? =some (x,b,t)){L:HL}:qi (gT mt ts::L) (gT mt (ts.set k (x,b,t'))::L):=by
 have hk:k<ts.length:=(jm.1 h).1;have he:=(jm.1 h).2;refine jBj ?_ ?_
 ·rw[List.map_set]
  have:(U64 x,W5 (b,t'))=(ts.map λp:TB=>(U64 p.1,W5 p.2))[k]'(by simpa using hk):=by rw[List.getElem_map,he]
  rw[this,List.set_getElem_self]
 ·rw[List.map_set]
  have:x=(ts.map λp:TB=>p.1)[k]'(by simpa using hk):=by rw[List.getElem_map,he]
  rw[this,List.set_getElem_self]
theorem nO {ts:List TB}{k b mt p md:Nat}{x:Int}{t t':TV}{M:OM}{j:JG}(h:ts[k]? =some (x,b,t))(hq:QR M j (ts.set k (x,b,t'))){L:HL}:qi (gP p j mt md::gT mt ts::vi (b,t')::qD (ts.eraseIdx k)::gD md j.done::L) (qE M p j::L):=by
 have hk:k<ts.length:=(jm.1 h).1;exact qi.trans (qi.cons ((jE8 (t':=t') h).trans (qi.cons (lB hk (x,b,t'))))) (qR hq)
theorem QR.upd {M:OM}{j j':JG}{ts:List TB}(h:QR M j ts)(hk:qn j.tr){k:Nat}{x:Int}{b:Nat}{t t':TV}(hx:ts[k]? =some (x,b,t))(ht:ZE M t')(hs:j'.shards=j.shards)(htr:j'.tr=qZ j.tr x t'.abs):QR M j' (ts.set k (x,b,t')):=by
 refine ⟨by rw[hs];exact h.s1,by rw[hs];exact h.s2,?_,λu hu=> ?_⟩
 ·rw[htr,List.map_set,h.tr]
  have hkl:k<ts.length:=(jm.1 hx).1;have hkt:k<j.tr.length:=by rw[←h.tr,jf];exact hkl
  have he:j.tr[k]=(x,t.abs):=by
   have e2:=(jm.1 hx).2;simp only[←h.tr,List.getElem_map,e2]
  rcases w9 j.tr hk x with ⟨p,a,q,hpq,hp,hqn⟩|hn
  ·rw[hpq,wS hp hqn]
   have hkp:k=p.length:=by
    have hm:j.tr[k]? =some (x,t.abs):=by rw[jY hkt,he]
    rw[hpq] at hm
    rcases Nat.lt_trichotomy k p.length with h1|h1|h1
    ·rw[ko h1] at hm
     exact absurd rfl (hp _ (jn hm))
    ·exact h1
    ·rw[kG zo] at hm
     obtain ⟨d,hd⟩:∃d,k - p.length=d+1:=⟨k - p.length - 1,by omega⟩;rw[hd,jg] at hm;exact absurd rfl (hqn _ (jn hm))
   subst hkp;rw[List.set_append_right _ _ (jz _),Nat.sub_self,List.set_cons_zero]
  ·exact absurd rfl (hn (x,t.abs) (by rw[←he];exact List.getElem_mem hkt))
 ·rcases List.mem_or_eq_of_mem_set hu with hu|hu
  ·exact h.ok u hu
  ·subst hu;exact ht
theorem YM (n:NV)(u:Nat×TV)(x:Int)(M:OM)(L:HL)(ht:ZE M u.2)(hw:WT x u.2.abs)(hk:n.kind=20∨n.kind=21):
  qh kY 152 [W5 u,n.val] (vi u::qo M::L) (λr L'=>∃(M':OM) (t':TV),r=.int .i64 (ym u.2.abs n.abs)∧qU M M'∧ZE M' t'∧t'.abs=(if ym u.2.abs n.abs=0 then zW u.2.abs n.abs else u.2.abs)∧(ym u.2.abs n.abs≠0→t'=u.2)∧L'=vi (u.1,t')::qo M'::L):=by
 have hpl:=ht.pl;have hyl:=ht.yl;have hkl:=ht.kl;have hy4:u.2.yes.length≤4:=ke (X5 (XR hw.yr) hw.ys) hw.pl;have hk4:u.2.acked.length≤4:=ke (X5 (XR hw.kr) hw.ks) hw.pl;refine qg Tryz.func152 rfl rfl rfl ?_;have e:∀(E:Int),ym u.2.abs n.abs=E→(if ym u.2.abs n.abs=0 then zW u.2.abs n.abs else u.2.abs)=if E=0 then zW u.2.abs n.abs else u.2.abs:=λE h=>by rw[h]
 rcases hk with hk|hk
 ·have hE:ym u.2.abs n.abs=if 0<u.2.stamp then 10 else if n.who∉u.2.parts∨n.who∈u.2.yes then 1 else 0:=by
   unfold ym;rw[show n.abs.kind=20 from hk]
   by_cases h:0<u.2.stamp<;>simp[h]
  have hT:zW u.2.abs n.abs={u.2.abs with yes:=yI u.2.yes n.who}:=by
   unfold zW;rw[show n.abs.kind=20 from hk];rfl
  by_cases h1:0<u.2.stamp
  ·rw[jb h1] at hE
   refine Q.r ?_;(repeat (intro b1;refine Q.r ?_));refine Q.dgo [true,true] [] [] [0,1,2,3,4,5,6,7,8,9,10] ?_;refine Q.rd ?_;refine Q.r ?_;exact N.t rfl (qi.drop (kZ _)) ⟨M,u.2,by rw[hE],qU.refl M,ht,by rw[e _ hE];rfl,λ_=>rfl,rfl⟩
  rw[ja h1] at hE
  by_cases h2:n.who∈u.2.parts
  ·by_cases h3:n.who∈u.2.yes
   ·rw[jb (.inr h3)] at hE
    refine Q.r ?_;(repeat (intro b1;refine Q.r ?_));refine Q.dgo [true,true] [] [] [0,1,2,3,4,5,6,7,8,9,10] ?_;refine Q.rd ?_;refine Q.r ?_;refine Q.dgo [true,true] [7,15] [] [0,1,2,3,4,5,6,7,8,9,10,11,12,13,14,15,16,17] ?_;refine Q.rd ?_;refine D.e rfl rfl rfl ?_;refine S.cr rfl (qN u.2.pa u.2.pc u.2.parts n.who _ ht.p.rd hpl) ?_;rintro _ _ ⟨rfl,rfl⟩;rw[jo h2];refine Q.r ?_;refine Q.rd ?_;refine D.e rfl rfl rfl ?_;refine S.guard rfl ?_;refine S.cr rfl (qN u.2.ya u.2.yc u.2.yes n.who _ ht.y.rd hyl) ?_;rintro _ _ ⟨rfl,rfl⟩;rw[jo h3];refine Q.r ?_;refine Q.rd ?_;refine Q.r ?_;exact N.t rfl (qi.trans (M:=vi u::qo M::L) eG (kZ _)) ⟨M,u.2,by rw[hE],qU.refl M,ht,by rw[e _ hE];rfl,λ_=>rfl,rfl⟩
   ·rw[ja (λh=>h.elim (λh=>h h2) h3)] at hE
    refine Q.r ?_;(repeat (intro b1;refine Q.r ?_));refine Q.dgo [true,true] [] [] [0,1,2,3,4,5,6,7,8,9,10] ?_;refine Q.rd ?_;refine Q.r ?_;refine Q.dgo [true,true] [7,15] [] [0,1,2,3,4,5,6,7,8,9,10,11,12,13,14,15,16,17] ?_;refine Q.rd ?_;refine D.e rfl rfl rfl ?_;refine S.cr rfl (qN u.2.pa u.2.pc u.2.parts n.who _ ht.p.rd hpl) ?_;rintro _ _ ⟨rfl,rfl⟩;rw[jo h2];refine Q.r ?_;refine Q.rd ?_;refine D.e rfl rfl rfl ?_;refine S.guard rfl ?_;refine S.cr rfl (qN u.2.ya u.2.yc u.2.yes n.who _ ht.y.rd hyl) ?_;rintro _ _ ⟨rfl,rfl⟩;rw[jv h3];refine Q.r ?_;refine Q.rd ?_;refine Q.r ?_;refine Q.dgo [true,true] [6,8] [8] [0,1,2,3,4,5,6,7,8] ?_;refine Q.rd ?_;refine D.e rfl rfl rfl ?_;refine S.cr rfl (bh u.2.ya u.2.yc u.2.yes n.who _ ht.y.rd hyl hw.yr) ?_;rintro _ _ ⟨na,nc,rfl,rfl⟩;refine qQ na (λM1 hl1 hs1=> ?_);refine Q.r ?_;refine Q.rd ?_;refine Q.dc rfl rfl rfl rfl ?_;refine Q.r ?_;refine Q.rd ?_;refine Q.r ?_;rw[←Jt (l:=u.2.yes) (n:=n.who)];have ht1:=ht.mono hl1;refine N.t rfl (qi.trans (M:=vi (u.1,{u.2 with ya:=na,yc:=nc,yes:=yI u.2.yes n.who})::qo M1::L) eG (kZ _)) ⟨M1,{u.2 with ya:=na,yc:=nc,yes:=yI u.2.yes n.who},by rw[hE],hl1,?_,by rw[e _ hE,hT];rfl,λh=>absurd hE h,rfl⟩;exact ⟨ht1.p,(by have h:=hs1;rw[←Jt (l:=u.2.yes) (n:=n.who)] at h;exact h),ht1.k,ht1.o,ht1.ov,ht1.pl,by show (yI u.2.yes n.who).length≤_;rw[Jt];omega,ht1.kl,ht1.ol⟩
  ·rw[jb (.inl h2)] at hE
   refine Q.r ?_;(repeat (intro b1;refine Q.r ?_));refine Q.dgo [true,true] [] [] [0,1,2,3,4,5,6,7,8,9,10] ?_;refine Q.rd ?_;refine Q.r ?_;refine Q.dgo [true,true] [7,15] [] [0,1,2,3,4,5,6,7,8,9,10,11,12,13,14,15,16,17] ?_;refine Q.rd ?_;refine D.e rfl rfl rfl ?_;refine S.cr rfl (qN u.2.pa u.2.pc u.2.parts n.who _ ht.p.rd hpl) ?_;rintro _ _ ⟨rfl,rfl⟩;rw[jv h2];refine Q.r ?_;refine Q.rd ?_;refine Q.r ?_;exact N.t rfl (qi.trans (M:=vi u::qo M::L) eG (kZ _)) ⟨M,u.2,by rw[hE],qU.refl M,ht,by rw[e _ hE];rfl,λ_=>rfl,rfl⟩
 ·have hE:ym u.2.abs n.abs=if ¬0<u.2.stamp then 10 else if n.who∉u.2.parts∨n.who∈u.2.acked then 1 else 0:=by
   unfold ym;rw[show n.abs.kind=21 from hk]
   by_cases h:0<u.2.stamp<;>simp[h]
  have hT:zW u.2.abs n.abs={u.2.abs with acked:=yI u.2.acked n.who}:=by
   unfold zW;rw[show n.abs.kind=21 from hk];rfl
  by_cases h1:¬0<u.2.stamp
  ·rw[jb h1] at hE
   refine Q.r ?_;(repeat (intro b1;refine Q.r ?_));refine Q.dgo [true,true] [] [] [0,1,2,3,4,5,6,7,8,9,10] ?_;refine Q.rd ?_;refine Q.r ?_;exact N.t rfl (qi.drop (kZ _)) ⟨M,u.2,by rw[hE],qU.refl M,ht,by rw[e _ hE];rfl,λ_=>rfl,rfl⟩
  rw[ja h1] at hE
  by_cases h2:n.who∈u.2.parts
  ·by_cases h3:n.who∈u.2.acked
   ·rw[jb (.inr h3)] at hE
    refine Q.r ?_;(repeat (intro b1;refine Q.r ?_));refine Q.dgo [true,true] [] [] [0,1,2,3,4,5,6,7,8,9,10] ?_;refine Q.rd ?_;refine Q.r ?_;refine Q.dgo [true,true] [7,15] [] [0,1,2,3,4,5,6,7,8,9,10,11,12,13,14,15,16,17] ?_;refine Q.rd ?_;refine D.e rfl rfl rfl ?_;refine S.cr rfl (qN u.2.pa u.2.pc u.2.parts n.who _ ht.p.rd hpl) ?_;rintro _ _ ⟨rfl,rfl⟩;rw[jo h2];refine Q.r ?_;refine Q.rd ?_;refine D.e rfl rfl rfl ?_;refine S.guard rfl ?_;refine S.cr rfl (qN u.2.ka u.2.kc u.2.acked n.who _ ht.k.rd hkl) ?_;rintro _ _ ⟨rfl,rfl⟩;rw[jo h3];refine Q.r ?_;refine Q.rd ?_;refine Q.r ?_;exact N.t rfl (qi.trans (M:=vi u::qo M::L) eG (kZ _)) ⟨M,u.2,by rw[hE],qU.refl M,ht,by rw[e _ hE];rfl,λ_=>rfl,rfl⟩
   ·rw[ja (λh=>h.elim (λh=>h h2) h3)] at hE
    refine Q.r ?_;(repeat (intro b1;refine Q.r ?_));refine Q.dgo [true,true] [] [] [0,1,2,3,4,5,6,7,8,9,10] ?_;refine Q.rd ?_;refine Q.r ?_;refine Q.dgo [true,true] [7,15] [] [0,1,2,3,4,5,6,7,8,9,10,11,12,13,14,15,16,17] ?_;refine Q.rd ?_;refine D.e rfl rfl rfl ?_;refine S.cr rfl (qN u.2.pa u.2.pc u.2.parts n.who _ ht.p.rd hpl) ?_;rintro _ _ ⟨rfl,rfl⟩;rw[jo h2];refine Q.r ?_;refine Q.rd ?_;refine D.e rfl rfl rfl ?_;refine S.guard rfl ?_;refine S.cr rfl (qN u.2.ka u.2.kc u.2.acked n.who _ ht.k.rd hkl) ?_;rintro _ _ ⟨rfl,rfl⟩;rw[jv h3];refine Q.r ?_;refine Q.rd ?_;refine Q.r ?_;refine Q.dgo [true,true] [6,8] [8] [0,1,2,3,4,5,6,7,8] ?_;refine Q.rd ?_;refine D.e rfl rfl rfl ?_;refine S.cr rfl (bh u.2.ka u.2.kc u.2.acked n.who _ ht.k.rd hkl hw.kr) ?_;rintro _ _ ⟨na,nc,rfl,rfl⟩;refine qQ na (λM1 hl1 hs1=> ?_);refine Q.r ?_;refine Q.rd ?_;refine Q.dc rfl rfl rfl rfl ?_;refine Q.r ?_;refine Q.rd ?_;refine Q.r ?_;rw[←Jt (l:=u.2.acked) (n:=n.who)];have ht1:=ht.mono hl1;refine N.t rfl (qi.trans (M:=vi (u.1,{u.2 with ka:=na,kc:=nc,acked:=yI u.2.acked n.who})::qo M1::L) eG (kZ _)) ⟨M1,{u.2 with ka:=na,kc:=nc,acked:=yI u.2.acked n.who},by rw[hE],hl1,?_,by rw[e _ hE,hT];rfl,λh=>absurd hE h,rfl⟩;exact ⟨ht1.p,ht1.y,(by have h:=hs1;rw[←Jt (l:=u.2.acked) (n:=n.who)] at h;exact h),ht1.o,ht1.ov,ht1.pl,ht1.yl,by show (yI u.2.acked n.who).length≤_;rw[Jt];omega,ht1.ol⟩
  ·rw[jb (.inl h2)] at hE
   refine Q.r ?_;(repeat (intro b1;refine Q.r ?_));refine Q.dgo [true,true] [] [] [0,1,2,3,4,5,6,7,8,9,10] ?_;refine Q.rd ?_;refine Q.r ?_;refine Q.dgo [true,true] [7,15] [] [0,1,2,3,4,5,6,7,8,9,10,11,12,13,14,15,16,17] ?_;refine Q.rd ?_;refine D.e rfl rfl rfl ?_;refine S.cr rfl (qN u.2.pa u.2.pc u.2.parts n.who _ ht.p.rd hpl) ?_;rintro _ _ ⟨rfl,rfl⟩;rw[jv h2];refine Q.r ?_;refine Q.rd ?_;refine Q.r ?_;exact N.t rfl (qi.trans (M:=vi u::qo M::L) eG (kZ _)) ⟨M,u.2,by rw[hE],qU.refl M,ht,by rw[e _ hE];rfl,λ_=>rfl,rfl⟩
theorem dw (n:NV)(M:OM)(p:Nat)(j:JG)(L:HL)(hw:WG j)(hn:xt M n)(hN:OkN n)(h0:0≤n.stamp)(hr:qu n.abs=true)(hk:n.kind=17):
  qh kY 151 [vI p,n.val] (qE M p j::qo M::L) (Zc n.abs M p j L):=by
 unfold Zc;refine wC λmt md ts hq=> ?_
 refine qg Tryz.func151 rfl rfl rfl ?_;have hnp:=hN.p;have hE:=pW (j:=j) hr (n:=n.abs) hk;unfold jDI at hE;refine Q.r ?_;(repeat (intro b1;refine Q.r ?_));refine Q.dgo [true,true,true,true,true,true] [] [] [0,1,2,3,4,5,6,7] ?_;refine Q.rd ?_;refine D.y rfl rfl rfl zk (Y.lk false rfl rfl (λw=>Tryz.zeroValue148 w)) ?_;have hlk:=WD hq.tr n.txn;rw[show n.abs.txn=n.txn from rfl] at hE
 by_cases hs0:n.stamp=0
 ·rw[jb hs0] at hE
  have fin:∀{f:vF} {Q:vk},True:=trivial
  cases hz:qJ (α:=Nat×TV) ts n.txn with
  |some u=>
   dsimp only;refine Q.rd ?_;refine Q.r ?_;exact N.t rfl (qi.trans (M:=gP p j mt md::gT mt ts::qD ts::gD md j.done::qo M::L) eG (qR hq)) ⟨M,by rw[hE],qU.refl M,by rw[xC (by rw[hE];decide)]⟩
  |none=>
   dsimp only;refine Q.rd ?_;refine Q.r ?_;exact N.t rfl (qi.trans (M:=gP p j mt md::gT mt ts::qD ts::gD md j.done::qo M::L) eG (qR hq)) ⟨M,by rw[hE],qU.refl M,by rw[xC (by rw[hE];decide)]⟩
 rw[ja hs0] at hE
 cases hz:qJ (α:=Nat×TV) ts n.txn with
 |some u=>
  obtain ⟨k,hkk⟩:=Q5 hz;rw[hz] at hlk;rw[show qJ j.tr n.txn=some u.2.abs from hlk] at hE;dsimp only at hE ⊢;have hwt:=hw.lk hlk;have htv:=hq.ok _ (jn hkk);refine Q.rd ?_;refine Q.r ?_;refine xX hkk ?_
  by_cases hst:0<u.2.stamp
  ·rw[jb hst] at hE
   refine Q.r ?_;exact N.t rfl (qi.trans (M:=gP p j mt md::gT mt ts::vi u::qD (ts.eraseIdx k)::gD md j.done::qo M::L) eG (vq hkk hq)) ⟨M,by rw[hE],qU.refl M,by rw[xC (by rw[hE];decide)]⟩
  rw[ja hst] at hE;have hS:=Yz hE hk;rw[show n.abs.txn=n.txn from rfl,show qJ j.tr n.txn=some u.2.abs from hlk] at hS;dsimp only[Option.getD_some] at hS;refine Q.r ?_;refine Q.dgo [true,false,true,true] [11] [] [0,1,2,3,4,5,6,7,8,9,10,11] ?_;refine Q.rd ?_;refine D.e rfl rfl rfl ?_;refine S.mu (r:=U64) (u:=n.stamp) rfl rfl rfl ?_;refine Q.r ?_;refine Q.rd ?_;refine Q.r ?_;refine Q.dgo [false,true,true] [10] [10] [0,1,2,3,4,5,6,7,8,9,10] ?_;refine Q.rd ?_;refine Q.dc rfl rfl rfl rfl ?_;refine Q.r ?_;refine Q.rd ?_;refine Q.r ?_;have hq2:QR M {j with tr:=qZ j.tr n.txn {u.2.abs with stamp:=n.stamp},done:=qZ j.done u.2.batch n.stamp,last:=max j.last n.stamp} (ts.set k (n.txn,u.1,{u.2 with stamp:=n.stamp})):=hq.upd hw.kt hkk (t':={u.2 with stamp:=n.stamp}) ⟨htv.p,htv.y,htv.k,htv.o,htv.ov,htv.pl,htv.yl,htv.kl,htv.ol⟩ rfl rfl;refine N.t rfl (qi.trans (M:=gP p {j with tr:=qZ j.tr n.txn {u.2.abs with stamp:=n.stamp},done:=qZ j.done u.2.batch n.stamp,last:=max j.last n.stamp} mt md::gT mt ts::vi (u.1,{u.2 with stamp:=n.stamp})::qD (ts.eraseIdx k)::gD md (qZ j.done u.2.batch n.stamp)::qo M::L) eG (nO hkk hq2)) ⟨M,by rw[hE],qU.refl M,by rw[hS]⟩
 |none=>
  rw[hz] at hlk;rw[show qJ j.tr n.txn=none from hlk] at hE;dsimp only at hE ⊢;have hS:=Yz hE hk;rw[show n.abs.txn=n.txn from rfl,show qJ j.tr n.txn=none from hlk] at hS;dsimp only[Option.getD_none] at hS;have hput:∀v:Nat×TV,qZ ts n.txn v=ts++[(n.txn,v)]:=λv=>vH (cH hq.tr hlk)
  refine Q.rd ?_;refine Q.r ?_;refine Q.dgo [true] [6,9] [] [0,1,2,3,4,5,6,7,8,9,10] ?_;refine Q.rd ?_;refine D.e rfl rfl rfl ?_;refine S.cr rfl (xS n.pa n.pc n.parts _ hn.rd.p hnp) ?_;rintro _ _ ⟨pa,pc,rfl,rfl⟩;refine qQ pa (λM1 hl1 hs1=> ?_);refine Q.r ?_;refine Q.rd ?_;(repeat (intro b1;refine Q.rd ?_));refine Q.r ?_;refine Q.dgo [true,false,false,true] [7] [] [0,1,2,3,4,5,6,7] ?_;refine Q.rd ?_;refine D.e rfl rfl rfl ?_;refine S.mu (r:=W5) (u:=(b1,(⟨n.txn,n.batch,n.stamp,0,0,pa,pc,n.parts,none,0,[],none,0,[],none,0,[]⟩:TV))) rfl rfl rfl ?_;rw[hput];refine Q.r ?_;refine Q.rd ?_;refine Q.r ?_;refine Q.dgo [true,true,true] [11] [] [0,1,2,3,4,5,6,7,8,9,10,11] ?_;refine Q.rd ?_;refine D.e rfl rfl rfl ?_;refine S.mu (g:=U64) (q:=n.batch) (r:=U64) (u:=n.stamp) rfl rfl rfl ?_;refine Q.r ?_;refine Q.rd ?_;refine Q.r ?_;refine Q.dgo [true,true,true] [10] [10] [0,1,2,3,4,5,6,7,8,9,10] ?_;refine Q.rd ?_;refine Q.dc rfl rfl rfl rfl ?_;refine Q.r ?_;refine Q.rd ?_;refine Q.r ?_;have hq2:QR M1 {j with tr:=qZ j.tr n.txn {sK n.abs with stamp:=n.stamp},done:=qZ j.done n.batch n.stamp,last:=max j.last n.stamp} (ts++[(n.txn,b1,⟨n.txn,n.batch,n.stamp,0,0,pa,pc,n.parts,none,0,[],none,0,[],none,0,[]⟩)]):=(hq.mono hl1).new hlk ⟨hs1,qH.nil0,qH.nil0,qH.nil0,λo ho=>(by cases ho),hnp,jw _,jw _,jw _⟩ rfl rfl;refine N.t rfl (qi.trans (M:=vi (b1,(⟨n.txn,n.batch,n.stamp,0,0,pa,pc,n.parts,none,0,[],none,0,[],none,0,[]⟩:TV))::qD ts::gP p {j with tr:=qZ j.tr n.txn {sK n.abs with stamp:=n.stamp},done:=qZ j.done n.batch n.stamp,last:=max j.last n.stamp} mt md::gT mt (ts++[(n.txn,b1,⟨n.txn,n.batch,n.stamp,0,0,pa,pc,n.parts,none,0,[],none,0,[],none,0,[]⟩)])::gD md (qZ j.done n.batch n.stamp)::qo M1::L) eG (qi.trans (bJ ts (n.txn,b1,_)) (qi.trans eG (qR (p:=p) (mt:=mt) (md:=md) (L:=qo M1::L) hq2)))) ⟨M1,by rw[hE],hl1,by rw[hS]⟩
theorem Wf {ts:List TB}(hk:qn ts){k:Nat}{u:TB}(h:ts[k]? =some u):qT ts u.1=ts.eraseIdx k:=by
 have hkl:k<ts.length:=(jm.1 h).1;have he:=(jm.1 h).2
 rcases w9 ts hk u.1 with ⟨p,a,q,hpq,hp,hqn⟩|hn
 ·have hkp:k=p.length:=by
   rw[hpq] at h
   rcases Nat.lt_trichotomy k p.length with h1|h1|h1
   ·rw[ko h1] at h
    exact absurd rfl (hp _ (jn h))
   ·exact h1
   ·rw[kG zo] at h
    obtain ⟨d,hd⟩:∃d,k - p.length=d+1:=⟨k - p.length - 1,by omega⟩;rw[hd,jg] at h;exact absurd rfl (hqn _ (jn h))
  rw[hpq,KX hp hqn,hkp,List.eraseIdx_append_of_length_le (jz _),Nat.sub_self,List.eraseIdx_cons_zero]
 ·exact absurd rfl (hn u (jn h))
theorem bH {ts:List TB}{tr:List (Int×TR)}(h:ts.map (λu=>(u.1,u.2.2.abs))=tr)(hk:qn tr):qn ts:=by
 have:tr.map (·.1)=ts.map (·.1):=by rw[←h,kE];rfl
 unfold qn at*;rw[←this];exact hk
theorem QR.del {M:OM}{j j':JG}{ts:List TB}(h:QR M j ts){x:Int}(hs:j'.shards=j.shards)(htr:j'.tr=qT j.tr x):QR M j' (qT ts x):=
 ⟨by rw[hs];exact h.s1,by rw[hs];exact h.s2,by rw[htr,←h.tr];exact jBV (λu:Nat×TV=>u.2.abs) ts x,λu hu=>h.ok u (jB.1 hu).1⟩
theorem dB (n:NV)(M:OM)(p:Nat)(j:JG)(L:HL)(hw:WG j)(hn:xt M n)(hN:OkN n)(hT:yE M)(hu:Zf n)(hu2:n.txn<18446744073709551616)
  (hR:n.kind=16→qu n.abs=true→∀L:HL,qh kY 149 [vI p,.int .u64 n.mark] (qE M p j::qo M::L) (Zc n.abs M p j L)):
  qh kY 78 [vI p,n.val] (qE M p j::qo M::L) (Zc n.abs M p j L):=by
 unfold Zc at*;refine qg Tryz.func78 rfl rfl rfl ?_;refine Q.r ?_;(repeat (intro b1;refine Q.r ?_));refine S.cr rfl (Je n _ hn.rd hN hT.rd hu.kind) ?_;rintro _ _ ⟨rfl,rfl⟩
 cases hr:qu n.abs with
 |false=>
  have hE:vm j n.abs=4:=by unfold vm;rw[jb hr]
  refine Q.r ?_;exact N.t rfl (show qi _ (qE M p j::qo M::L) by exact eG) ⟨M,by rw[hE],qU.refl M,by rw[xC (by rw[hE];decide)]⟩
 |true=>
 refine Q.r ?_;refine Vs p (λmt md ts hq=> ?_);have hlk:=WD hq.tr n.txn;revert b1;intro b3;refine vn (σ:=Unit) (λ_=> [(0,vI p),(3,.pointer (some ⟨b3,0,none⟩)),(5,match qJ (α:=Nat×TV) ts n.txn with|none=>.pointer none|some u=>W5 u)])
  (λ_=>pt b3 (cl n.cells 82)::gP p j mt md::gT mt ts::qD ts::gD md j.done::qo M::L) (λ_=>True) ?_ ?_
 ·refine Q.dgo [true,true,true,true,true,true] [] [] [0,1,2,3,4,5,6,7] ?_
  refine Q.rd ?_;refine D.y rfl rfl rfl zk (Y.lk false rfl rfl (λw=>Tryz.zeroValue148 w)) ?_
  cases hz:qJ (α:=Nat×TV) ts n.txn with
  |some u=>
   dsimp only;refine Q.rd ?_;exact N.tn ⟨(),zt,by (try dsimp only);exact eG,trivial⟩
  |none=>
   dsimp only;refine Q.rd ?_;exact N.tn ⟨(),zt,by (try dsimp only);exact eG,trivial⟩
 rintro _ _
 by_cases h16:n.kind=16
 ·refine Q.r ?_
  refine qm (Ye (p:=p) (mt:=mt) (md:=md) (ts:=ts) hq) ?_;refine S.cg p rfl (hR h16 hr _) ?_;rintro _ _ ⟨M1,rfl,hl,rfl⟩;refine Q.r ?_;exact N.t rfl (show qi _ (qE M1 p (vC j n.abs)::qo M1::L) by exact eG) ⟨M1,rfl,hl,rfl⟩
 by_cases h19:n.kind=19
 ·refine Q.r ?_
  refine qm (Ye (p:=p) (mt:=mt) (md:=md) (ts:=ts) hq) ?_;refine S.cg p rfl (gO n M p j _ hw hn hN hu.txn hu2 hr h19) ?_;rintro _ _ ⟨M1,rfl,hl,rfl⟩;refine Q.r ?_;exact N.t rfl (show qi _ (qE M1 p (vC j n.abs)::qo M1::L) by exact eG) ⟨M1,rfl,hl,rfl⟩
 by_cases h17:n.kind=17
 ·refine Q.r ?_
  refine qm (Ye (p:=p) (mt:=mt) (md:=md) (ts:=ts) hq) ?_;refine S.cg p rfl (dw n M p j _ hw hn hN hu.stamp hr h17) ?_;rintro _ _ ⟨M1,rfl,hl,rfl⟩;refine Q.r ?_;exact N.t rfl (show qi _ (qE M1 p (vC j n.abs)::qo M1::L) by exact eG) ⟨M1,rfl,hl,rfl⟩
 have hE0:∀E,(¬(n.kind=20∨n.kind=21∨n.kind=18∨n.kind=22)→E=4)→(n.kind=20∨n.kind=21∨n.kind=18∨n.kind=22→qJ j.tr n.txn=none→E=6)→True:=λ_ _ _=>trivial
 by_cases hk:n.kind=20∨n.kind=21∨n.kind=18∨n.kind=22
 ·cases hz:qJ (α:=Nat×TV) ts n.txn with
  |none=>
   rw[hz] at hlk;have hlk1:qJ j.tr n.txn=none:=hlk;have hE:vm j n.abs=6:=by
    unfold vm;rw[ja (by rw[hr];decide),ja (show ¬n.abs.kind=16 from h16),ja (show ¬n.abs.kind=19 from h19),ja (show ¬n.abs.kind=17 from h17),jb (show n.abs.kind=20∨n.abs.kind=21∨n.abs.kind=18∨n.abs.kind=22 from hk),show qJ j.tr n.abs.txn=none from hlk1]
   have fin:qi (pt b3 (cl n.cells 82)::gP p j mt md::gT mt ts::qD ts::gD md j.done::qo M::L) (qE M p j::qo M::L):=qi.drop (qR hq);dsimp only
   rcases hk with hk|hk|hk|hk
   ·refine Q.r ?_
    exact N.t rfl fin ⟨M,by rw[hE],qU.refl M,by rw[xC (by rw[hE];decide)]⟩
   ·refine Q.r ?_
    exact N.t rfl fin ⟨M,by rw[hE],qU.refl M,by rw[xC (by rw[hE];decide)]⟩
   ·refine Q.r ?_
    exact N.t rfl fin ⟨M,by rw[hE],qU.refl M,by rw[xC (by rw[hE];decide)]⟩
   ·refine Q.r ?_
    exact N.t rfl fin ⟨M,by rw[hE],qU.refl M,by rw[xC (by rw[hE];decide)]⟩
  |some u=>
   obtain ⟨k,hkk⟩:=Q5 hz;rw[hz] at hlk;have hlk1:qJ j.tr n.txn=some u.2.abs:=hlk;have hwt:=hw.lk hlk1;have htv:=hq.ok _ (jn hkk);dsimp only
   by_cases hk1:n.kind=20∨n.kind=21
   ·have hE:=de (j:=j) hr (show n.abs.kind=20∨n.abs.kind=21 from hk1)
    rw[show qJ j.tr n.abs.txn=some u.2.abs from hlk1] at hE;dsimp only at hE;have key:∀(L2:HL) (r:Value) (M1:OM) (t':TV),r=.int .i64 (ym u.2.abs n.abs)→qU M M1→ZE M1 t'→t'.abs=(if ym u.2.abs n.abs=0 then zW u.2.abs n.abs else u.2.abs)→(ym u.2.abs n.abs≠0→t'=u.2)→
      qi (vi (u.1,t')::qo M1::pt b3 (cl n.cells 82)::gP p j mt md::gT mt ts::qD (ts.eraseIdx k)::gD md j.done::L2) (qE M1 p (vC j n.abs)::qo M1::L2):=by
     intro L2 r M1 t' _ hl ht hta hne
     by_cases hs:ym u.2.abs n.abs=0
     ·rw[jb hs] at hta
      rw[pU (by rw[hE];exact hs) (show n.abs.kind=20∨n.abs.kind=21 from hk1) (show qJ j.tr n.abs.txn=some u.2.abs from hlk1)];have hq2:QR M1 {j with tr:=qZ j.tr n.abs.txn (zW u.2.abs n.abs)} (ts.set k (n.txn,u.1,t')):=(hq.mono hl).upd hw.kt hkk ht rfl (by rw[hta]);exact qi.trans (M:=gP p {j with tr:=qZ j.tr n.abs.txn (zW u.2.abs n.abs)} mt md::gT mt ts::vi (u.1,t')::qD (ts.eraseIdx k)::gD md j.done::qo M1::L2) eG (nO hkk hq2)
     ·rw[xC (by rw[hE];exact hs),hne hs]
      exact qi.trans (M:=gP p j mt md::gT mt ts::vi u::qD (ts.eraseIdx k)::gD md j.done::qo M1::L2) eG (vq hkk (hq.mono hl))
    rcases hk1 with hk1|hk1
    ·refine Q.r ?_
     refine xX hkk ?_;refine S.c2 (A:=vi u) (B:=qo M) rfl (YM n u n.txn M _ htv hwt (.inl hk1)) ?_;rintro _ _ ⟨M1,t',rfl,hl,ht,hta,hne,rfl⟩;refine Q.r ?_;exact N.t rfl (qi.trans eG (key L (.int .i64 (ym u.2.abs n.abs)) M1 t' rfl hl ht hta hne)) ⟨M1,by rw[hE],hl,rfl⟩
    ·refine Q.r ?_
     refine xX hkk ?_;refine S.c2 (A:=vi u) (B:=qo M) rfl (YM n u n.txn M _ htv hwt (.inr hk1)) ?_;rintro _ _ ⟨M1,t',rfl,hl,ht,hta,hne,rfl⟩;refine Q.r ?_;exact N.t rfl (qi.trans eG (key L (.int .i64 (ym u.2.abs n.abs)) M1 t' rfl hl ht hta hne)) ⟨M1,by rw[hE],hl,rfl⟩
   ·have hk2:n.kind=18∨n.kind=22:=by omega
    have hE:=jFy (j:=j) hr (show n.abs.kind=18∨n.abs.kind=22 from hk2);rw[show qJ j.tr n.abs.txn=some u.2.abs from hlk1,show n.abs.kind=n.kind from rfl] at hE;dsimp only at hE
    rcases hk2 with hk2|hk2
    ·by_cases hst:¬0<u.2.stamp
     ·have hE1:vm j n.abs=10:=by rw[hE,hk2,jb (by simp[hst])]
      refine Q.r ?_;refine Qe hkk ?_;refine Q.dgo [true,false,true] [] [] [0,1,2,3,4,5,6,7,8,9,10] ?_;refine Q.rd ?_;refine Q.r ?_;exact N.t rfl (qi.trans (M:=gP p j mt md::gT mt ts::vi u::qD (ts.eraseIdx k)::gD md j.done::qo M::L) eG (vq hkk hq)) ⟨M,by rw[hE1],qU.refl M,by rw[xC (by rw[hE1];decide)]⟩
     ·have hE1:vm j n.abs=0:=by rw[hE,hk2,ja (by simp[hst])]
      have hS:=gk hE1 (show n.abs.kind=18∨n.abs.kind=22 from .inl hk2);refine Q.r ?_;refine Qe hkk ?_;refine Q.dgo [true,false,true] [] [] [0,1,2,3,4,5,6,7,8,9,10] ?_;refine Q.rd ?_;refine Q.r ?_;refine Q.dgo [false,true,false,true] [6] [] [0,1,2,3,4,5,6] ?_;refine Q.rd ?_;refine D.e rfl rfl rfl ?_;refine S.dl (g:=U64) (q:=n.txn) rfl rfl ?_;refine Q.r ?_;refine Q.rd ?_;refine Q.r ?_;have hq2:QR M {j with tr:=qT j.tr n.txn} (qT ts n.txn):=hq.del rfl rfl;refine N.t rfl (qi.trans (M:=gP p {j with tr:=qT j.tr n.txn} mt md::gT mt (qT ts n.txn)::qD (qT ts n.txn)::gD md j.done::qo M::L) ?_ (qR hq2)) ⟨M,by rw[hE1],qU.refl M,by rw[hS]⟩;rw[show qD (qT ts n.txn)=qD (ts.eraseIdx k) from jj qD (Wf (bH hq.tr hw.kt) hkk)];exact eG
    ·by_cases hst:0<u.2.stamp
     ·have hE1:vm j n.abs=10:=by rw[hE,hk2,jb (by simp[hst])]
      refine Q.r ?_;refine Qe hkk ?_;refine Q.dgo [true,false,true] [] [] [0,1,2,3,4,5,6,7,8,9,10] ?_;refine Q.rd ?_;refine Q.r ?_;exact N.t rfl (qi.trans (M:=gP p j mt md::gT mt ts::vi u::qD (ts.eraseIdx k)::gD md j.done::qo M::L) eG (vq hkk hq)) ⟨M,by rw[hE1],qU.refl M,by rw[xC (by rw[hE1];decide)]⟩
     ·have hE1:vm j n.abs=0:=by rw[hE,hk2,ja (by simp[hst])]
      have hS:=gk hE1 (show n.abs.kind=18∨n.abs.kind=22 from .inr hk2);refine Q.r ?_;refine Qe hkk ?_;refine Q.dgo [true,false,true] [] [] [0,1,2,3,4,5,6,7,8,9,10] ?_;refine Q.rd ?_;refine Q.r ?_;refine Q.dgo [false,true,false,true] [6] [] [0,1,2,3,4,5,6] ?_;refine Q.rd ?_;refine D.e rfl rfl rfl ?_;refine S.dl (g:=U64) (q:=n.txn) rfl rfl ?_;refine Q.r ?_;refine Q.rd ?_;refine Q.r ?_;have hq2:QR M {j with tr:=qT j.tr n.txn} (qT ts n.txn):=hq.del rfl rfl;refine N.t rfl (qi.trans (M:=gP p {j with tr:=qT j.tr n.txn} mt md::gT mt (qT ts n.txn)::qD (qT ts n.txn)::gD md j.done::qo M::L) ?_ (qR hq2)) ⟨M,by rw[hE1],qU.refl M,by rw[hS]⟩;rw[show qD (qT ts n.txn)=qD (ts.eraseIdx k) from jj qD (Wf (bH hq.tr hw.kt) hkk)];exact eG
 ·have hE:vm j n.abs=4:=by
   unfold vm;rw[ja (by rw[hr];decide),ja (show ¬n.abs.kind=16 from h16),ja (show ¬n.abs.kind=19 from h19),ja (show ¬n.abs.kind=17 from h17),ja (show ¬(n.abs.kind=20∨n.abs.kind=21∨n.abs.kind=18∨n.abs.kind=22) from hk)]
  have k1:¬n.kind=20:=λh=>hk (.inl h)
  have k2:¬n.kind=21:=λh=>hk (.inr (.inl h))
  have k3:¬n.kind=18:=λh=>hk (.inr (.inr (.inl h)))
  have k4:¬n.kind=22:=λh=>hk (.inr (.inr (.inr h)))
  refine Q.r ?_;exact N.t rfl (qi.drop (qR hq)) ⟨M,by rw[hE],qU.refl M,by rw[xC (by rw[hE];decide)]⟩
theorem m8 (x:Int)(u:Nat×TV)(L:HL):qh kY 197 [.int .u64 x,W5 u] (vi u::L) (λr L'=>r=.bool (decide (u.2.stamp=0))∧L'=vi u::L):=by
 refine qg Tryz.func197 rfl rfl rfl ?_;refine Q.r ?_;exact N.t rfl eG ⟨rfl,rfl⟩
def yP (done:List Int)(u:TB):Bool:= !(decide (u.1∈done)&&decide (u.2.2.stamp=0))
theorem jBw (ts:List TB):ts.filter (yP [])=ts:=List.filter_eq_self.2 λu _=>by simp[yP]
theorem fO {ts:List TB}(hk:qn ts){u v:TB}(hu:u∈ts)(hv:v∈ts)(e:u.1=v.1):u=v:=by
 obtain ⟨i,hi⟩:=List.mem_iff_getElem?.1 hu;obtain ⟨k,hj⟩:=List.mem_iff_getElem?.1 hv;have hij:i=k:=Qm hk (x:=u.1) (by rw[jZ,hi];rfl) (by rw[jZ,hj,e];rfl);subst hij;rw[hi] at hj
 injection hj
theorem sm {ts:List TB}(hk:qn ts){done:List Int}{u:TB}(hu:u∈ts)(hs:¬u.2.2.stamp=0):ts.filter (yP (done++[u.1]))=ts.filter (yP done):=by
 refine List.filter_congr λv hv=> ?_
 unfold yP
 by_cases h:v.1=u.1
 ·rw[fO hk hv hu h];simp[hs]
 ·simp[h]
theorem jDn {ts:List TB}(hk:qn ts){done:List Int}{u:TB}(hu:u∈ts)(hs:u.2.2.stamp=0):ts.filter (yP (done++[u.1]))=qT (ts.filter (yP done)) u.1:=by
 unfold qT;rw[List.filter_filter];refine List.filter_congr λv hv=> ?_
 unfold yP
 by_cases h:v.1=u.1
 ·rw[fO hk hv hu h];simp[hs]
 ·simp[h]
theorem jBx {ts:List TB}{done:List Int}(h:∀u∈ts.filter (yP done),u.1∈done):ts.filter (yP done)=ts.filter (λu=> !decide (u.2.2.stamp=0)):=by
 refine List.filter_congr λv hv=> ?_
 by_cases hs:v.2.2.stamp=0
 ·cases hk:yP done v with
  |false=>simp[hs]
  |true=>
   have:=h v (jB.2 ⟨hv,hk⟩);unfold yP at hk
   simp[this,hs] at hk
 ·simp[yP,hs]
theorem fP {ts:List TB}(hk:qn ts)(p:TB→Bool):qn (ts.filter p):=by
 unfold qn at*;exact List.Nodup.sublist (List.Sublist.map _ (List.filter_sublist ..)) hk
theorem tQ (mt:Nat)(ts:List TB)(hk:qn ts)(L:HL):
  qh kY 196 [.map (some mt),.func (.func 197) #[] #[]] (gT mt ts::qD ts::L)
   (λ_ L'=>L'=gT mt (ts.filter λu=> !decide (u.2.2.stamp=0))::qD (ts.filter λu=> !decide (u.2.2.stamp=0))::L):=by
 refine qg Tryz.func196 rfl rfl rfl ?_;refine Q.r ?_;refine S.rg rfl (λr=> ?_);refine qm jDo ?_;refine Q.r ?_;refine ql (σ:=List Int×Option Int) (λ_=> [(0,.map (some mt)),(1,.func (.func 197) #[] #[]),(7,.pointer (some ⟨r,0,none⟩))])
  (λs=>mn U64 W5 mt r (ts.filter (yP s.1)) s.1 s.2::qD (ts.filter (yP s.1))::L) (λs=>s.1.Nodup∧∀x∈s.1,x∈ts.map (·.1)) (λs=>ts.length - s.1.length) ([],none) zt (by rw[jBw];exact eG) ⟨List.nodup_nil,λ_ h=>by cases h⟩ ?_
 rintro ⟨done,last⟩ ⟨hd1,hd2⟩;dsimp only at hd1 hd2 ⊢;refine Q.r ?_;refine S.nxK rfl (λhend=> ?_) (λu hu hn=> ?_)
 ·have he:=jBx (λu hu=>hend u hu)
  refine Q.r ?_;rw[he];refine N.n0 RV.nil jDp ?_;rfl
 ·obtain ⟨k,hkk⟩:=List.mem_iff_getElem?.1 hu
  have hut:=(jB.1 hu).1;have hnd:(done++[u.1]).Nodup:=List.nodup_append.2 ⟨hd1,by simp,λx hx y hy=>by simp at hy;subst hy;exact λe=>hn (e▸hx)⟩;have hmm:∀x∈done++[u.1],x∈ts.map (·.1):=λx hx=>by
   rcases jy.1 hx with h|h
   ·exact hd2 x h
   ·rw[ji.1 h];exact jA (f:=λu:TB=>u.1) hut
  have hlen:(done++[u.1]).length≤ts.length:=by
   have:=List.Nodup.length_le_of_subset hnd (λx hx=>hmm x hx)
   rwa [jf] at this
  rw[jc,kT] at hlen;refine Q.r ?_;refine S.y (Y.enK rfl hu) ?_;refine Q.r ?_;refine xX hkk ?_;refine S.crF (fs:=[]) (cs:=[]) rfl rfl (m8 u.1 u.2 _) ?_;rintro _ _ ⟨rfl,rfl⟩
  by_cases hs:u.2.2.stamp=0
  ·rw[jo hs]
   refine Q.r ?_;refine S.dlK r (g:=U64) (q:=u.1) rfl rfl ?_;refine Q.r ?_;refine ⟨(done++[u.1],none),zt,?_,⟨hnd,hmm⟩,by dsimp only;rw[jc,kT];omega⟩;dsimp only;rw[jDn hk hut hs,show qD (qT (ts.filter (yP done)) u.1)=qD ((ts.filter (yP done)).eraseIdx k) from jj qD (Wf (fP hk _) hkk)];exact eG
  ·rw[jv hs]
   refine Q.r ?_;refine ⟨(done++[u.1],some u.1),zt,?_,⟨hnd,hmm⟩,by dsimp only;rw[jc,kT];omega⟩;dsimp only;rw[sm hk hut hs];exact qi.trans (zn hkk) eG
theorem gL (n:NA)(M:OM)(p:Nat)(j:JG)(L:HL)(hw:WG j)(hr:qu n=true)(hk:n.kind=16):
  qh kY 149 [vI p,.int .u64 n.mark] (qE M p j::qo M::L) (Zc n M p j L):=by
 unfold Zc;refine wC λmt md ts hq=> ?_
 refine qg Tryz.func149 rfl rfl rfl ?_;have hE:=pX (j:=j) hr hk
 by_cases hle:n.mark≤j.epoch
 ·rw[jb hle] at hE
  refine Q.r ?_;exact N.t rfl (qi.trans (M:=gP p j mt md::gT mt ts::qD ts::gD md j.done::qo M::L) eG (qR hq)) ⟨M,by rw[hE],qU.refl M,by rw[xC (by rw[hE];decide)]⟩
 ·rw[ja hle] at hE
  refine Q.r ?_;refine S.c2 (A:=gT mt ts) (B:=qD ts) rfl (tQ mt ts (bH hq.tr hw.kt) _) ?_;rintro _ _ rfl;refine Q.r ?_;have hq2:QR M {j with epoch:=n.mark,seq:=0,tr:=j.tr.filter λu=> !decide (u.2.stamp=0)} (ts.filter λu=> !decide (u.2.2.stamp=0)):=⟨hq.s1,hq.s2,by rw[←hq.tr,List.filter_map];rfl,λu hu=>hq.ok u (jB.1 hu).1⟩;refine N.t rfl (qi.trans (M:=gP p {j with epoch:=n.mark,seq:=0,tr:=j.tr.filter λu=> !decide (u.2.stamp=0)} mt md::gT mt (ts.filter λu=> !decide (u.2.2.stamp=0))::qD (ts.filter λu=> !decide (u.2.2.stamp=0))::gD md j.done::qo M::L) eG (qR hq2)) ⟨M,by rw[hE],qU.refl M,by rw[dh hE hk]⟩
theorem Jg (n:NV)(M:OM)(p:Nat)(j:JG)(L:HL)(hw:WG j)(hn:xt M n)(hN:OkN n)(hT:yE M)(hu:Zf n)(hu2:n.txn<18446744073709551616):
  qh kY 78 [vI p,n.val] (qE M p j::qo M::L) (Zc n.abs M p j L):=
 dB n M p j L hw hn hN hT hu hu2 (λhk hr L=>gL n.abs M p j L hw hr hk)
abbrev TV.c8 (t:TV):List Value:=[.int .u64 t.txn,.int .u64 t.batch,.int .u64 t.stamp,.int .u64 t.after,.int .i64 t.who,.slice t.pa t.parts.length t.pc,.slice t.ya t.yes.length t.yc,.slice t.ka t.acked.length t.kc]
theorem bQ {j:JG}{x:Int}(h:x∈vo (j.tr.map (·.1)))(hk:qn j.tr):∃t,qJ j.tr x=some t:=by
 have h1:x∈j.tr.map (·.1):=(vK _).mem_iff.1 h;obtain ⟨u,hu,rfl⟩:=jM.1 h1;exact ⟨u.2,(vQ hk).2 hu⟩
def jEc (j:JG)(xs:List Int):List TR:=(xs.filterMap λx=>qJ j.tr x).filter λt=>decide (t.stamp=0)
def jGc (j:JG):PG:=⟨[],(jEc j (vo (j.tr.map (·.1)))).map λt=>yd t.txn,(jEc j (vo (j.tr.map (·.1)))).flatMap λt=>zS t 0 12,[],[]⟩
theorem sa (xs:List (Int×NA)):(xs.flatMap y8).all (·.oneCell')=true:=by
 rw[List.all_eq_true];intro v hv;obtain ⟨o,_,ho⟩:=List.mem_flatMap.1 hv;simp only[y8,j9,List.mem_nil_iff,or_false] at ho
 rcases ho with rfl|rfl|rfl|rfl|rfl|rfl|rfl|rfl|rfl|rfl|rfl|rfl|rfl|rfl|rfl|rfl|rfl<;>rfl
section
variable {n : Nat} {ops rest : List Oper} {cd : Code} {Q : vk} {f : vF} {L L0 : HL} {M : OM}
end
theorem OkN.right {n:NV}(h:qu n.abs=true):OkN n:=by
 have hv:∀v:List Int,xu v=true→v.length≤1000000:=by
  intro v hv;unfold xu wK at hv;simp only[kU,jF,jS] at hv;omega
 unfold qu wQ at h;simp only[jF,kL,Bool.or_eq_false_iff,j5,Bool.not_eq_false'] at h;obtain ⟨_,⟨⟨⟨⟨_,⟨⟨h1,h2⟩,h3⟩,h4⟩,_⟩,h5⟩,h6⟩⟩:=h;have h1':n.parts.length≤1000000:=by
  have h:¬4<n.parts.length:=h1;omega
 have h2':n.ops.length≤1000000:=by
  have h:¬16<(n.ops.map OV.abs).length:=h2;rw[jf] at h;omega
 have h3':n.hits.length≤1000000:=by
  have h:¬16<(n.hits.map HV.abs).length:=h3;rw[jf] at h;omega
 refine ⟨h1',h2',λo ho=> ?_,hv _ h4,h3',λo ho=> ?_⟩
 ·have:=List.any_eq_false.1 h5 o.abs (jA (f:=OV.abs) ho)
  unfold yi at this;simp only[kU,jS,kL,not_or,Bool.not_eq_false] at this;exact hv _ this.2
 ·have:=List.any_eq_false.1 h6 o.abs (jA (f:=HV.abs) ho)
  unfold xA at this;simp only[kU,jS,kL,not_or,Bool.not_eq_false] at this;exact hv _ (by unfold xu;rw[this.2];simp)
theorem Zf.right {n:NV}(h:qu n.abs=true)(hz:NZ n.abs):Zf n:=by
 have hk:1≤n.kind∧n.kind≤22:=by
  unfold qu at h;simp only[jF,jS] at h;exact h.1.1
 exact ⟨by omega,hz.t0,hz.s,hz.m,hz.a⟩
theorem bS {j:JG}{n:NA}(h:vm j n=0):qu n=true:=by
 cases hr:qu n with
 |true=>rfl
 |false=>unfold vm at h;rw[jb hr] at h;cases h
theorem jDf {α β:Type}{f:α→β}{l:List α}{b:β}(h:l.map f=[b]):∃x,l=[x]∧f x=b:=by
 match l,h with
 | [x],h=>exact ⟨x,rfl,List.head_eq_of_cons_eq h⟩
abbrev jGs (t:TV):Int×TR:=(t.txn,t.abs)
structure okC (t:TV):Prop where
 y:t.yes.length≤t.yc
 k:t.acked.length≤t.kc
structure RG (M:OM)(j:JG)(ta:OA)(tc:Nat)(ts:List TV)(da:OA)(ds:List (Int×Int)):Prop where
 s1:1≤j.shards
 s2:j.shards≤4
 tp:(ts.map jGs).Perm j.tr
 sT:(ts.map (·.txn)).Pairwise (· < ·)
 ok:∀t∈ts,ZE M t
 oc:∀t∈ts,okC t
 tS:qH M ta ts.length 9 (ts.flatMap TV.cells)
 tc:ts.length≤tc
 dp:ds.Perm j.done
 sD:(ds.map (·.1)).Pairwise (· < ·)
 dS:qH M da ds.length 2 (ds.flatMap dC)
theorem RG.mono {M M':OM}{j:JG}{ta da:OA}{tc:Nat}{ts:List TV}{ds:List (Int×Int)}(h:RG M j ta tc ts da ds)(hl:qU M M'):RG M' j ta tc ts da ds:=
 ⟨h.s1,h.s2,h.tp,h.sT,λt ht=>(h.ok t ht).mono hl,h.oc,h.tS.mono hl,h.tc,h.dp,h.sD,h.dS.mono hl⟩
structure RGX where
 ta:OA
 tc:Nat
 ts:List TV
 da:OA
 dc:Nat
 ds:List (Int×Int)
section
variable {n : Nat} {ops rest : List Oper} {cd : Code} {Q : vk} {f : vF} {L L0 : HL} {M : OM} {j : JG}
end
section
variable {M M' : OM} {j j' : JG} {ta ta' da da' : OA} {tc tc' : Nat} {ts ts' : List TV} {ds ds' : List (Int × Int)}
theorem RG.len (h:RG M j ta tc ts da ds):ts.length=j.tr.length:=by have:=h.tp.length_eq;rwa [jf] at this
theorem RG.has (h:RG M j ta tc ts da ds)(hk:qn j.tr){u:TV}(hu:u∈ts):qJ j.tr u.txn=some u.abs:=
 (vQ hk).2 (h.tp.mem_iff.1 (jM.2 ⟨u,hu,rfl⟩))
theorem RG.no (h:RG M j ta tc ts da ds){x:Int}(hn:∀u∈ts,u.txn≠x):qJ j.tr x=none:=by
 refine zB λw hw=> ?_
 obtain ⟨u,hu,rfl⟩:=jM.1 (h.tp.mem_iff.2 hw);exact hn u hu
theorem RG.any (h:RG M j ta tc ts da ds)(b:Int):(j.tr.any λu=>decide (u.2.batch=b))=ts.any λu=>decide (u.batch=b):=by
 rw[←h.tp.any_eq,List.any_map];rfl
theorem RG.keys (h:RG M j ta tc ts da ds):vo (j.tr.map (·.1))=ts.map (·.txn):=by
 refine xP ((vK _).trans ?_) (wJ _) (h.sT.imp λh=>Int.le_of_lt h);have:=(h.tp.map (·.1)).symm
 rwa [kE] at this
theorem RG.abs (h:RG M j ta tc ts da ds)(hk:qn j.tr):(vo (j.tr.map (·.1))).filterMap (λx=>qJ j.tr x)=ts.map TV.abs:=by
 rw[h.keys,List.filterMap_map];have:∀l:List TV,(∀u∈l,u∈ts)→l.filterMap ((λx=>qJ j.tr x)∘λt=>t.txn)=l.map TV.abs:=by
  intro l
  induction l with
  |nil=>exact λ_=>rfl
  |cons u l ih=>
   intro hl;rw[List.filterMap_cons];have e:((λx=>qJ j.tr x)∘λt:TV=>t.txn) u=some u.abs:=h.has hk (hl u kg);rw[e,jL,←ih λv hv=>hl v (jV _ hv)]
 exact this ts λ_ h=>h
theorem RG.of (h:RG M j ta tc ts da ds)(hl:qU M M')(hs:j'.shards=j.shards)(tp:(ts'.map jGs).Perm j'.tr)(sT:(ts'.map (·.txn)).Pairwise (· < ·))(ok:∀t∈ts',ZE M' t∧okC t)(tS:qH M' ta' ts'.length 9 (ts'.flatMap TV.cells))(hc:ts'.length≤tc')(hd:j'.done=j.done):RG M' j' ta' tc' ts' da ds:=
 ⟨hs▸h.s1,hs▸h.s2,tp,sT,λt ht=>(ok t ht).1,λt ht=>(ok t ht).2,tS,hc,hd▸h.dp,h.sD,h.dS.mono hl⟩
theorem RG.same (h:RG M j ta tc ts da ds)(hs:j'.shards=j.shards)(htr:j'.tr=j.tr)(hd:j'.done=j.done):RG M j' ta tc ts da ds:=
 ⟨hs▸h.s1,hs▸h.s2,htr▸h.tp,h.sT,h.ok,h.oc,h.tS,h.tc,hd▸h.dp,h.sD,h.dS⟩
end
end Go.Proofs.YtlnfjhiphlfkjaaGreatDoor
namespace Go.Proofs.YtlnfjhiphlfkjaaGreatDoor
open Go Go.SX
structure OkA (r:NA):Prop where
 p:r.parts.length≤1000000
 o:r.ops.length≤1000000
 ov:∀o∈r.ops,o.2.length≤1000000
 v:r.vec.length≤1000000
 h:r.hits.length≤1000000
 hv:∀h∈r.hits,h.2.2.length≤1000000
theorem OkN.of {n:NV}(h:OkA n.abs):OkN n:=
 ⟨h.p,by have:=h.o;rwa [jf] at this,λo ho=>h.ov o.abs (jA (f:=OV.abs) ho),h.v,by have:=h.h;rwa [jf] at this,λo ho=>h.hv o.abs (jA (f:=HV.abs) ho)⟩
theorem yF.of {r:NA}(k0:0≤r.kind)(k1:r.kind≤255)(t0:0≤r.txn)(t1:r.txn≤18446744073709551615)(b0:0≤r.batch)(b1:r.batch≤18446744073709551615)(s0:0≤r.stamp)(s1:r.stamp≤18446744073709551615)(a0:0≤r.after)(a1:r.after≤18446744073709551615)(w:r.who≤9223372036854775807)
  (m0:0≤r.mark) (m1:r.mark≤18446744073709551615) (h2:r.query=0) (h3:r.id=0) (h4:r.k=0) (h5:r.ef=0) (h6:r.code=0):yF r:=
 ⟨⟨k0,k1⟩,⟨t0,t1⟩,⟨b0,b1⟩,⟨s0,s1⟩,⟨a0,a1⟩,⟨m0,m1⟩,by rw[h2];decide,by rw[h3];decide,by rw[h4];decide,by rw[h5];decide,by rw[h6];decide,w⟩
theorem yF.nv {n:NV}(h:yF n.abs):Zf n:=⟨h.kind,h.txn.1,h.stamp.1,h.mark.1,h.after.1⟩
structure NT (x:Int)(t:TR):Prop where
 x1:x≤18446744073709551615
 b0:0≤t.batch
 b1:t.batch≤18446744073709551615
 s1:t.stamp≤1099511627776
 a0:0≤t.after
 a1:t.after≤1099511627776
 w0:0≤t.who
 w1:t.who<16
 ov:∀o∈t.ops,o.2.length≤64
structure WN (j:JG):Prop where
 g:WG j
 t:∀u∈j.tr,NT u.1 u.2
 d:∀u∈j.done,0≤u.1∧u.1≤18446744073709551615∧u.2≤1099511627776
theorem WN.lk {j:JG}(h:WN j){x:Int}{t:TR}(ht:qJ j.tr x=some t):NT x t:=h.t _ ((vQ h.g.kt).1 ht)
theorem jCi {v:List Int}(h:xu v=true):v.length≤64:=by have:=pP h;omega
theorem lS {n:NA}(h:qu n=true):n.after≤1099511627776∧0≤n.who∧n.who<16∧(∀o∈n.ops,o.2.length≤64)∧0≤n.code∧n.code≤13:=by
 unfold qu wQ at h;simp only[jF,kL,Bool.or_eq_false_iff,j5] at h;refine ⟨by omega,by omega,by omega,λo ho=> ?_,by omega,by omega⟩;have h1:=h.2.1.2;have:=List.any_eq_false.1 h1 o ho;unfold yi at this;simp only[kU,jS,kL,not_or,Bool.not_eq_false] at this;exact jCi this.2
theorem WN.app {j:JG}(h:WN j){n:NA}(u:yF n):WN (vC j n):=by
 have hG:=h.g.app u.txn.1 u.stamp.1 u.mark.1
 by_cases hE:¬vm j n=0
 ·rw[xC hE];exact h
 have hE:vm j n=0:=kv.1 hE;have hr:=bS hE;have hm:=Zu hr;have hq:=lS hr;refine ⟨hG,?_,?_⟩
 ·by_cases h16:n.kind=16
  ·rw[dh hE h16];exact λv hv=>h.t v (jB.1 hv).1
  by_cases h19:n.kind=19
  ·rw[df hE h19]
   intro v hv
   rcases wy hv with hv|rfl
   ·exact h.t v hv
   ·exact ⟨u.txn.2,u.batch.1,u.batch.2,(show (0:Int)≤1099511627776 by decide),u.after.1,hq.1,hq.2.1,hq.2.2.1,hq.2.2.2.1⟩
  by_cases h17:n.kind=17
  ·rw[Yz hE h17]
   intro v hv
   rcases wy hv with hv|rfl
   ·exact h.t v hv
   ·cases hz:qJ j.tr n.txn with
    |some t=>
     have ht:=h.lk hz;exact ⟨ht.x1,ht.b0,ht.b1,hm.1,ht.a0,ht.a1,ht.w0,ht.w1,ht.ov⟩
    |none=>exact ⟨u.txn.2,u.batch.1,u.batch.2,hm.1,ki _,(show (0:Int)≤1099511627776 by decide),ki _,(show (0:Int)<16 by decide),λ_ h=>(by cases h)⟩
  by_cases hw:n.kind=20∨n.kind=21
  ·have hE2:=hE
   rw[de hr hw] at hE2
   cases hz:qJ j.tr n.txn with
   |none=>rw[hz] at hE2;cases hE2
   |some t=>
    have ht:=h.lk hz;rw[pU hE hw hz];intro v hv
    rcases wy hv with hv|rfl
    ·exact h.t v hv
    ·unfold zW
     split<;>exact ⟨ht.x1,ht.b0,ht.b1,ht.s1,ht.a0,ht.a1,ht.w0,ht.w1,ht.ov⟩
  ·by_cases he:n.kind=18∨n.kind=22
   ·rw[gk hE he];exact λv hv=>h.t v (jB.1 hv).1
   ·unfold vm at hE
    rw[ja (by rw[hr];decide),ja h16,ja h19,ja h17,ja zo] at hE
    cases hE
 ·by_cases h16:n.kind=16
  ·rw[dh hE h16];exact h.d
  by_cases h19:n.kind=19
  ·rw[df hE h19];exact h.d
  by_cases h17:n.kind=17
  ·rw[Yz hE h17]
   intro v hv
   rcases wy hv with hv|rfl
   ·exact h.d v hv
   ·cases hz:qJ j.tr n.txn with
    |some t=>
     have ht:=h.lk hz;exact ⟨ht.b0,ht.b1,hm.1⟩
    |none=>exact ⟨u.batch.1,u.batch.2,hm.1⟩
  by_cases hw:n.kind=20∨n.kind=21
  ·have hE2:=hE
   rw[de hr hw] at hE2
   cases hz:qJ j.tr n.txn with
   |none=>rw[hz] at hE2;cases hE2
   |some t=>rw[pU hE hw hz];exact h.d
  ·by_cases he:n.kind=18∨n.kind=22
   ·rw[gk hE he];exact h.d
   ·unfold vm at hE
    rw[ja (by rw[hr];decide),ja h16,ja h19,ja h17,ja zo] at hE
    cases hE
theorem jFx {j:JG}{n:NA}:(vC j n).tr.length≤j.tr.length+1∧(vC j n).done.length≤j.done.length+1∧(vC j n).shards=j.shards∧(vC j n).dim=j.dim:=by
 unfold vC
 split
 ·exact ⟨Nat.le_succ _,Nat.le_succ _,rfl,rfl⟩
 split
 ·exact ⟨Nat.le_succ_of_le (kw _ _),Nat.le_succ _,rfl,rfl⟩
 split
 ·exact ⟨Js _ _ _,Nat.le_succ _,rfl,rfl⟩
 split
 ·exact ⟨Js _ _ _,Js _ _ _,rfl,rfl⟩
 split
 ·split
  ·exact ⟨Js _ _ _,Nat.le_succ _,rfl,rfl⟩
  ·exact ⟨Nat.le_succ _,Nat.le_succ _,rfl,rfl⟩
 ·exact ⟨Nat.le_succ_of_le (jBW _ _),Nat.le_succ _,rfl,rfl⟩
structure PN (pl:PG):Prop where
 r:∀r∈pl.rec_,yF r∧OkA r
 n:∀r∈pl.notes,yF r∧OkA r
 i:∀r∈pl.inst,yF r∧OkA r
 m:∀m∈pl.mail,OkA m.2
 e:∀m∈pl.els,OkA m.2
theorem PN.none :PN PG.none:=⟨λ_ h=>(by cases h),λ_ h=>(by cases h),λ_ h=>(by cases h),λ_ h=>(by cases h),λ_ h=>(by cases h)⟩
def xB (j:JG)(l:List NA):JG:=l.foldl vC j
abbrev qv (m:Int):NA:={NA.zero with kind:=16,mark:=m}
def jFX (j:JG)(d fr:Int)(n:NA)(w:Bool):List NA:=
 if d % 11=8 then [n]
 else if d % 11=9 then (jGc j).notes
 else if d % 11=10 then [qv (j.epoch+1)]
 else if w=false∧0<(xW j fr n).rec_.length then (xW j fr n).inst
 else (xW j fr n).rec_++(xW j fr n).notes
def jHS (j:JG)(d fr:Int)(n:NA)(w:Bool):JG:=xB j (jFX j d fr n w)
theorem Xz {l:List NA}:∀{j:JG},WN j→(∀r∈l,yF r)→WN (xB j l)∧(xB j l).tr.length≤j.tr.length+l.length∧(xB j l).done.length≤j.done.length+l.length∧(xB j l).shards=j.shards∧(xB j l).dim=j.dim:=by
 induction l with
 |nil=>exact λh _=>⟨h,jz _,jz _,rfl,rfl⟩
 |cons r l ih=>
  intro j h hl;have h1:=h.app (hl r kg);obtain ⟨i1,i2,i3,i4,i5⟩:=ih h1 λx hx=>hl x (jV _ hx)
  obtain ⟨a1,a2,a3,a4⟩:=jFx (j:=j) (n:=r);refine ⟨i1,?_,?_,i4.trans a3,i5.trans a4⟩
  ·rw[jC];show (xB (vC j r) l).tr.length≤_;omega
  ·rw[jC];show (xB (vC j r) l).done.length≤_;omega
structure LS (j:JG)(k:Nat):Prop where
 w:WN j
 s:j.shards=3
 dm:j.dim=2
 t:j.tr.length≤2*min k 40
 d:j.done.length≤2*min k 40
theorem LS.zero :LS (ww 3 2) 0:=⟨⟨WG.zero zd zd,λ_ h=>(by cases h),λ_ h=>(by cases h)⟩,rfl,rfl,jw _,jw _⟩
theorem LS.b {j:JG}{k:Nat}(h:LS j k):j.tr.length≤80∧j.done.length≤80:=by
 have ht:=h.t;have hd:=h.d;omega
def bK (j:JG):List TR:=(vo (j.tr.map (·.1))).filterMap λx=>qJ j.tr x
theorem Zr {j:JG}(hk:qn j.tr):(bK j).Perm (j.tr.map (·.2)):=by
 unfold bK;refine ((vK _).filterMap _).trans ?_;have:∀l:List (Int×TR),(∀u∈l,u∈j.tr)→(l.map (·.1)).filterMap (λx=>qJ j.tr x)=l.map (·.2):=by
  intro l
  induction l with
  |nil=>exact λ_=>rfl
  |cons u l ih=>
   intro hl;rw[jL,List.filterMap_cons,(vQ hk).2 (hl u kg),jL,←ih λv hv=>hl v (jV _ hv)]
 rw[this j.tr λ_ h=>h]
attribute [local irreducible] swp qq qM qL vX qh St qi qk vu qG
def QD (s:Int)(t:TR)(q:Int):List (Int×NA):=if t.stamp=0∧q∉t.yes then [fm s t q] else if 0<t.stamp∧q∉t.acked then [KY q t.txn t.stamp 0] else []
def jD4 (s:Int)(t:TR):List (Int×NA):=t.parts.flatMap (QD s t)
def Zm (j:JG)(xs:List Int):List (Int×NA):=(xs.filterMap λx=>qJ j.tr x).flatMap (jD4 j.shards)
def XF (j:JG):List (Int×NA):=Zm j (vo (j.tr.map (·.1)))
theorem lu {j:JG}{xs:List Int}{i:Nat}{x:Int}{t:TR}(hx:xs[i]? =some x)(ht:qJ j.tr x=some t):Zm j (xs.take (i+1))=Zm j (xs.take i)++jD4 j.shards t:=by
 unfold Zm;rw[qz hx,List.filterMap_append,List.filterMap_cons,ht,kS]
 simp
theorem qW.row1g {L:HL}{b n:Nat}{l:List Value}{t:TypeId}[h:y9 b L (cl l t)](hl:l.length=n):qW L (some ⟨b,0,none⟩) n 1 l:=⟨by rw[hl,jX],.inr ⟨b,0,rfl,vg.row⟩⟩
abbrev jDg (m:Int×NV):Int×NA:=(m.1,m.2.abs)
theorem nf (M:OM)(p:Nat)(j:JG)(L:HL)(hw:WG j)(hn:j.tr.length≤100000):
  qh kY 50 [vI p] (qE M p j::qo M::L)
   (λr L'=>∃(a:OA) (c:Nat) (ms:List (Int×NV)) (M':OM),r=.slice a ms.length c∧qU M M'∧(∀m∈ms,xt M' m.2)∧ms.map jDg=XF j∧L'=slO 176 17 a ms.length c (ms.flatMap vx)::qE M' p j::qo M'::L):=by
 refine qg Tryz.func50 rfl rfl rfl ?_;refine Q.r ?_;refine S.cgn p rfl (YK M p j _ zo) ?_;rintro _ _ ⟨a,c,rfl,rfl⟩;have hsl:(vo (j.tr.map (·.1))).length=j.tr.length:=by rw[(vK _).length_eq,jf]
 refine Q.r ?_;refine wm a (λM1 hl1 hs1=> ?_);refine lD p hl1 ?_;refine ql (σ:=Nat×OA×Nat×List (Int×NV)×(OM)) (λs=> [(0,vI p),(12,.slice a j.tr.length c),(13,.int .i64 j.tr.length),(3,.slice s.2.1 s.2.2.2.1.length s.2.2.1),(14,.int .i64 s.1)])
  (λs=>slO 176 17 s.2.1 s.2.2.2.1.length s.2.2.1 (s.2.2.2.1.flatMap vx)::qE s.2.2.2.2 p j::qo s.2.2.2.2::L)
  (λs=>s.1≤j.tr.length∧qU M1 s.2.2.2.2∧(∀m∈s.2.2.2.1,xt s.2.2.2.2 m.2)∧s.2.2.2.1.map jDg=Zm j ((vo (j.tr.map (·.1))).take s.1)∧s.2.2.2.1.length≤s.1*1000001) (λs=>j.tr.length - s.1) (0,none,0,[],M1) zt (qi.trans vh eG) ⟨jw _,qU.refl M1,λ_ h=>(by cases h),rfl,jw _⟩ ?_
 rintro ⟨i,a3,c3,ms,M2⟩ ⟨hi,hl2,hmo,hms,hml⟩;dsimp only at hi hl2 hmo hms hml ⊢
 by_cases hlt:i<j.tr.length
 ·obtain ⟨x,hx⟩:=qw (l:=vo (j.tr.map (·.1))) (k:=i) zo
  obtain ⟨t,ht⟩:=bQ (jn hx) hw.kt;obtain ⟨ba,oa,haa,cr⟩:=qH.cm1 (g:=U64) (hs1.mono hl2) hx hsl.symm;rw[haa];refine Vs p (λmt md ts hq=> ?_);have hlk:=WD hq.tr x;rw[ht] at hlk;refine Q.rn ?_;refine S.y (Y.lk false rfl rfl (λw=>Tryz.zeroValue148 w)) ?_
  cases hz:qJ (α:=Nat×TV) ts x with
  |none=>rw[hz] at hlk;cases hlk
  |some u=>
   rw[hz] at hlk;obtain ⟨k,hkk⟩:=Q5 hz;have hok:=hq.ok _ (jn hkk);have htu:t=u.2.abs:=Option.some.inj hlk;have hpl:u.2.parts.length≤1000000:=hok.pl;dsimp only;refine Q.rn ?_;refine xX hkk ?_;refine Q.rn ?_;refine ql (σ:=Nat×OA×Nat×List (Int×NV)×(OM)) (λs=> [(0,vI p),(6,W5 u),(12,.slice (some ⟨ba,oa,none⟩) j.tr.length c),(13,.int .i64 j.tr.length),(14,.int .i64 i),(28,.slice u.2.pa u.2.parts.length u.2.pc),(29,.int .i64 u.2.parts.length),(3,.slice s.2.1 s.2.2.2.1.length s.2.2.1),(30,.int .i64 s.1)])
    (λs=>slO 176 17 s.2.1 s.2.2.2.1.length s.2.2.1 (s.2.2.2.1.flatMap vx)::vi u::qD (ts.eraseIdx k)::gP p j mt md::gT mt ts::gD md j.done::qo s.2.2.2.2::L)
    (λs=>s.1≤u.2.parts.length∧qU M2 s.2.2.2.2∧(∀m∈s.2.2.2.1,xt s.2.2.2.2 m.2)∧s.2.2.2.1.map jDg=Zm j ((vo (j.tr.map (·.1))).take i)++(u.2.parts.take s.1).flatMap (QD j.shards u.2.abs)∧s.2.2.2.1.length≤i*1000001+s.1) (λs=>u.2.parts.length - s.1) (0,a3,c3,ms,M2) zt eG ⟨jw _,qU.refl M2,hmo,by simpa using hms,ke hml (Nat.le_add_right _ _)⟩ ?_
   rintro ⟨n,a5,c5,ns,M3⟩ ⟨hn1,hl3,hno,hns,hnl⟩;dsimp only at hn1 hl3 hno hns hnl ⊢;have hnb:ns.length≤100001000000:=by
    have h1:i*1000001≤99999*1000001:=Nat.mul_le_mul_right _ zo;omega
   by_cases hnt:n<u.2.parts.length
   ·obtain ⟨q,hq1⟩:=qw hnt
    obtain ⟨bp,op,hpa,cp⟩:=qH.cm1 (g:=I64) (hok.p.mono hl3) hq1 rfl;rw[hpa];have hstn:0≤u.2.stamp:=by have:=(hw.lk ht).st;rw[htu] at this;exact this
    by_cases hs:u.2.stamp=0
    ·refine Q.rn ?_
     first|refine S.cr rfl (qN u.2.ya u.2.yc u.2.yes q _ (hok.y.mono hl3).rd hok.yl) ?_|(refine S.guard rfl ?_;refine S.cr rfl (qN u.2.ya u.2.yc u.2.yes q _ (hok.y.mono hl3).rd hok.yl) ?_)
     rintro _ _ ⟨rfl,rfl⟩
     by_cases hm:q∈u.2.yes
     ·have hwq:QD j.shards u.2.abs q=[]:=by
       unfold QD;rw[ja (λh=>h.2 hm),ja (λh=>by have h1:0<u.2.stamp:=h.1;omega)]
      rw[jo hm];refine Q.rn ?_;refine ⟨(n+1,a5,c5,ns,M3),zt,by exact eG,⟨hnt,hl3,hno,?_,?_⟩,?_⟩
      ·dsimp only
       rw[hns,qz hq1,kS,jK,hwq];simp
      ·exact Nat.le_succ_of_le hnl
      ·show u.2.parts.length - (n+1)<u.2.parts.length - n
       omega
     ·have hwq:QD j.shards u.2.abs q=[fm j.shards u.2.abs q]:=by
       unfold QD;rw[jb ⟨hs,hm⟩]
      rw[jv hm];refine Q.rn ?_;refine S.c3 (A:=gP p j mt md) (B:=vi u) (C:=qo M3) rfl (QQ p j mt md u q M3 _ (hok.mono hl3) hq.s1 hq.s2) ?_;rintro _ _ ⟨m,M4,rfl,hl4,hm4,hma,rfl⟩;refine Q.rn ?_;(repeat (intro b1;refine Q.rn ?_));refine S.app rfl rfl (vA.sl vg.row zr zr) zr zo zo (λa7 c7=> ?_);refine Q.rn ?_;refine ⟨(n+1,a7,c7,ns++[(q,m)],M4),⟨rfl,rfl,rfl,rfl,rfl,by rw[←hpa];rfl,rfl,jj some (by simp),rfl,trivial⟩,?_,⟨hnt,hl3.trans hl4,λw hw=> ?_,?_,?_⟩,jr u.2.parts.length n hnt⟩
      ·dsimp only
       rw[qF,vE];exact eG
      ·rcases jy.1 hw with hw|hw
       ·exact (hno w hw).mono hl4
       ·rw[ji] at hw;subst hw;exact hm4
      ·dsimp only
       rw[jq,hns,qz hq1,kS,jK,hwq,ju];exact jj (λz=>_++(_++[z])) hma
      ·dsimp only
       rw[qF];omega
    ·have hs0:0<u.2.stamp:=by omega
     refine Q.rn ?_;refine S.cr rfl (qN u.2.ka u.2.kc u.2.acked q _ (hok.k.mono hl3).rd hok.kl) ?_;rintro _ _ ⟨rfl,rfl⟩
     by_cases hm:q∈u.2.acked
     ·have hwq:QD j.shards u.2.abs q=[]:=by
       unfold QD;rw[ja (λh=>hs h.1),ja (λh=>h.2 hm)]
      rw[jo hm];refine Q.rn ?_;refine ⟨(n+1,a5,c5,ns,M3),zt,by exact eG,⟨hnt,hl3,hno,?_,?_⟩,jr u.2.parts.length n hnt⟩
      ·dsimp only
       rw[hns,qz hq1,kS,jK,hwq];simp
      ·exact Nat.le_succ_of_le hnl
     ·have hwq:QD j.shards u.2.abs q=[KY q u.2.txn u.2.stamp 0]:=by
       unfold QD;rw[ja (λh=>hs h.1),jb ⟨hs0,hm⟩]
      rw[jv hm];refine Q.rn ?_;refine Q.dgo [false,true] [12,13,14] [] [0,1,2,3,4,5,6,7,8,9,10,11,12,13,14,15] ?_;refine Q.rdn ?_;(repeat (intro b1;refine Q.rdn ?_));refine D.e rfl rfl rfl ?_;refine S.cr rfl (zh u.2.txn u.2.stamp 0 (some ⟨b1,0,none⟩) 1 [q] _ (qW.row1g rfl) (show 1≤1000000 by decide)) ?_;rintro _ _ ⟨a9,c9,rfl,rfl⟩;rw[kT];refine Q.rn ?_;refine Q.rdn ?_;refine D.e rfl rfl rfl ?_;refine qX a9 (λh9=> ?_);refine S.app rfl rfl (vA.rd (qW.own h9 (by rw[fX (sz:=17) (λ_=>rfl)];rfl)) (sa _)) zr zo zo (λa8 c8=> ?_);refine Q.rn ?_;refine Q.rdn ?_;refine Q.rn ?_;refine ⟨(n+1,a8,c8,ns++[((KY q u.2.txn u.2.stamp 0).1,(KY q u.2.txn u.2.stamp 0).2.nv)],M3),⟨rfl,rfl,rfl,rfl,rfl,by rw[←hpa];rfl,rfl,jj some (by simp),rfl,trivial⟩,?_,⟨hnt,hl3,λw hw=> ?_,?_,?_⟩,jr u.2.parts.length n hnt⟩
      ·dsimp only
       rw[qF,vE];have e9:List.map (λp=>KY p u.2.txn u.2.stamp 0) [q]=[KY q u.2.txn u.2.stamp 0]:=rfl;rw[e9];refine qi.trans (M:=slO 176 17 a8 (ns.length+1) c8 (ns.flatMap vx++[KY q u.2.txn u.2.stamp 0].flatMap y8)::vi u::qD (ts.eraseIdx k)::gP p j mt md::gT mt ts::gD md j.done::qo M3::L) eG ?_;rw[jK,j3,jG];exact kZ _
      ·rcases jy.1 hw with hw|hw
       ·exact hno w hw
       ·rw[ji] at hw;subst hw;exact xt.nv _
      ·dsimp only
       rw[jq,hns,qz hq1,kS,jK,hwq,ju];rfl
      ·dsimp only
       rw[qF];omega
   ·have hne:n=u.2.parts.length:=by omega
    rw[hne,jI] at hns;refine Q.rn ?_;refine ⟨(i+1,a5,c5,ns,M3),zt,?_,⟨hlt,hl2.trans hl3,hno,?_,?_⟩,jr j.tr.length i hlt⟩
    ·dsimp only
     exact qi.trans (jDr (p:=p) (mt:=mt) (md:=md) hkk (hq.mono hl3)) eG
    ·dsimp only
     rw[hns,lu hx ht,htu];rfl
    ·dsimp only
     have h1:ns.length≤i*1000001+u.2.parts.length:=by omega
     have h2:(i+1)*1000001=i*1000001+1000001:=Nat.succ_mul ..;omega
 ·have hie:i=(vo (j.tr.map (·.1))).length:=by omega
  rw[hie,jI] at hms;refine Q.rn ?_;exact N.t rfl (kZ _) ⟨a3,c3,ms,M2,rfl,hl1.trans hl2,hmo,hms,rfl⟩
def packD (d:Int×Int):List UInt8:=numI d.1++numI d.2
def wI (t:TR):List UInt8:=numI t.txn++numI t.batch++numI t.stamp++numI (t.parts.length:Int)++t.parts.flatMap numI
def Jk (j:JG):List (Int×Int):=(vo (j.done.map (·.1))).map λb=>(b,(qJ j.done b).getD 0)
def mJ (t:TR):Bool:=decide (0<t.stamp)
def xr (j:JG):List TR:=(bK j).filter mJ
def QM (j:JG):List UInt8:=numI j.epoch++numI j.last++numI (j.done.length:Int)
def qt (j:JG):List UInt8:=QM j++(Jk j).flatMap packD++numI ((xr j).length:Int)++(xr j).flatMap wI
theorem pC {j:JG}{b:Int}(h:b∈vo (j.done.map (·.1)))(hk:qn j.done):∃s,qJ j.done b=some s:=by
 obtain ⟨u,hu,rfl⟩:=jM.1 ((vK _).mem_iff.1 h);exact ⟨u.2,(vQ hk).2 hu⟩
theorem ZC {d:Int×Int}(h1:d.1≤18446744073709551615)(h2:d.2≤18446744073709551615):(packD d).length≤20:=by
 have:=qp h1;have:=qp h2;unfold packD;rw[jc];omega
structure PT (x:Int)(t:TR):Prop where
 xx:t.txn=x
 x1:x≤18446744073709551615
 b1:t.batch≤18446744073709551615
 s1:t.stamp≤1099511627776
 pl:t.parts.length≤4
 pb:∀q∈t.parts,0≤q∧q<16
structure PB (j:JG):Prop where
 e0:0≤j.epoch
 e1:j.epoch≤1099511627776
 l0:0≤j.last
 l1:j.last≤1099511627776
 kt:qn j.tr
 kd:qn j.done
 tx:∀u∈j.tr,PT u.1 u.2
 d:∀u∈j.done,u.1≤18446744073709551615∧u.2≤1099511627776
theorem PB.lk {j:JG}(h:PB j){x:Int}{t:TR}(ht:qJ j.tr x=some t):PT x t:=h.tx _ ((vQ h.kt).1 ht)
theorem WN.pb {j:JG}(h:WN j):PB j:=⟨h.g.b.e0,h.g.b.e1,h.g.b.l0,h.g.b.l1,h.g.kt,h.g.kd,λu hu=>⟨(h.g.tx u hu).xx,(h.t u hu).x1,(h.t u hu).b1,(h.t u hu).s1,(h.g.tx u hu).pl,(h.g.tx u hu).pb⟩,λu hu=>(h.d u hu).2⟩
theorem XX {j:JG}(h:PB j){x:Int}{t:TR}(ht:qJ j.tr x=some t):(wI t).length≤80:=by
 have hW:=h.lk ht;have hx:=hW.xx;have hx1:=hW.x1;have hs1:=hW.s1;have hpl:=hW.pl;have h1:=qp (z:=t.txn) zo;have h2:=qp hW.b1;have h3:=qp (z:=t.stamp) zo;have h4:=qp (z:=(t.parts.length:Int)) zo;have h5:(t.parts.flatMap numI).length≤t.parts.length*10:=yg λq hq=>qp (by have:=hW.pb q hq;omega)
 unfold wI;simp only[jc];omega
theorem dX {j:JG}(h:PB j){t:TR}(ht:t∈bK j):qJ j.tr t.txn=some t:=by
 obtain ⟨w,hw,rfl⟩:=jM.1 ((Zr h.kt).mem_iff.1 ht);rw[(h.tx w hw).xx];exact (vQ h.kt).2 hw
theorem rS {j:JG}(h:WN j){x:Int}{t:TR}(ht:qJ j.tr x=some t):(wI t).length≤80:=XX h.pb ht
theorem jCO {j:JG}(h:WN j){t:TR}(ht:t∈bK j):qJ j.tr t.txn=some t:=dX h.pb ht
theorem rp {j:JG}{xs:List Int}{i:Nat}{x:Int}{t:TR}(hx:xs[i]? =some x)(ht:qJ j.tr x=some t):(((xs.take (i+1)).filterMap λx=>qJ j.tr x).filter mJ)=(((xs.take i).filterMap λx=>qJ j.tr x).filter mJ)++if 0<t.stamp then [t] else []:=by
 rw[qz hx,List.filterMap_append,List.filterMap_cons,ht,jU]
 by_cases h:0<t.stamp
 ·rw[jb h];simp[mJ,h]
 ·rw[ja h];simp[mJ,h]
theorem jBk {α β:Type}{f:α→β}{l:List α}{m:List β}(h:l.map f=m):l.length=m.length:=by rw[←h,jf]
abbrev ptU (u:TB):Value:=W5 u.2
theorem yU (M:OM)(p:Nat)(j:JG)(L:HL)(hw:PB j)(htl:j.tr.length≤100000)(hdl:j.done.length≤100000):
  qh kY 26 [vI p] (qE M p j::qo M::L) (λr L'=>∃(a:OA) (c:Nat) (M':OM),r=.slice a (qt j).length c∧qU M M'∧L'=slO 5 1 a (qt j).length c ((qt j).map B)::qE M' p j::qo M'::L):=by
 have e0:=hw.e0;have e1:=hw.e1;have l0:=hw.l0;have l1:=hw.l1;refine qg Tryz.func26 rfl rfl rfl ?_;refine Q.r ?_;(repeat (intro b1;refine Q.r ?_));revert b1;intro bw;refine vf jAo ?_;refine Vs p (λmt md ts hq=> ?_);have hlts:ts.length=j.tr.length:=by rw[←hq.tr,jf]
 refine Q.dgo [true,false,false,true] [15,16] [] [0,1,2,3,4,5,6,7,8,9,10,11,12,13,14,15,16] ?_;refine Q.rd ?_;refine D.y rfl rfl rfl zk (Y.cvi rfl) ?_;rw[wrap_u64 zo zo];refine Q.rd ?_;(repeat (intro b1;refine Q.rd ?_));refine D.e rfl rfl rfl ?_;refine S.c1 (A:=wH bw []) rfl (vw bw [] (some ⟨b1,0,none⟩) 3 [j.epoch,j.last,(j.done.length:Int)] _ (qW.row1 rfl) (by intro z hz;rcases (by simpa using hz:z=j.epoch∨z=j.last∨z=(j.done.length:Int)) with rfl|rfl|rfl<;>omega) (by simp)) ?_;rintro _ _ ⟨rfl,rfl⟩;have eW:[]++[j.epoch,j.last,(j.done.length:Int)].flatMap numI=QM j:=by simp[QM]
 rw[eW];have hWl:(QM j).length≤30:=by
  have h1:=qp (z:=j.epoch) zo;have h2:=qp (z:=j.last) zo;have h3:=qp (z:=(j.done.length:Int)) zo;unfold QM;simp only[jc];omega
 obtain ⟨W0,hW0⟩:∃W0,W0=QM j:=⟨_,rfl⟩;rw[←hW0] at hWl ⊢;refine Q.r ?_;refine Q.rd ?_;refine Q.r ?_;refine S.cr rfl (Zg (some md) _) ?_;rintro _ _ ⟨bm,rfl,rfl⟩;refine Q.r ?_;refine qm (L':=pt bm (cl [.map (some md)] 129)::gD md j.done::gP p j mt md::wH bw W0::gT mt ts::qD ts::qo M::L) eG ?_;have hs:=mY U64 bm md j.done (gP p j mt md::wH bw W0::gT mt ts::qD ts::qo M::L);refine S.cr rfl (WL _ _ (j.done.map (·.1)) _ _ (by rw[jf];omega) (by rw[jf];exact hs)) ?_;rintro _ _ ⟨a1,c1,rfl,rfl⟩;rw[jf];have hdk:(vo (j.done.map (·.1))).length=j.done.length:=by rw[wW,jf]
 have hdnl:(Jk j).length=j.done.length:=by unfold Jk;rw[jf,hdk]
 have hdm:∀d∈Jk j,d.1≤18446744073709551615∧d.2≤18446744073709551615:=λd hd=>by
  obtain ⟨b,hb,rfl⟩:=jM.1 hd;obtain ⟨s,hs⟩:=pC hb hw.kd;have hm:=hw.d _ (Jb hs);dsimp only;rw[hs];have:=hm.2;exact ⟨hm.1,by show s≤_;omega⟩
 have hpd:∀d∈Jk j,(packD d).length≤20:=λd hd=>ZC (hdm d hd).1 (hdm d hd).2
 refine Q.r ?_;refine wm a1 (λM1 hl1 hs1=> ?_);refine qx (σ:=Unit) (λ_=> [(0,vI p),(3,.pointer (some ⟨bw,0,none⟩))])
  (λ_=>wH bw (W0++(Jk j).flatMap packD)::qE M1 p j::qo M1::L) (λ_=>True) ?_ ?_
 ·refine ql (σ:=Nat) (λi=> [(0,vI p),(3,.pointer (some ⟨bw,0,none⟩)),(40,.slice a1 j.done.length c1),(41,.int .i64 j.done.length),(42,.int .i64 i)])
   (λi=>wH bw (W0++((Jk j).take i).flatMap packD)::gP p j mt md::gD md j.done::gT mt ts::qD ts::qo M1::L) (λi=>i≤j.done.length) (λi=>j.done.length - i) 0 zt (by simp only[kB,j3,jG];exact eG) (jw _) ?_
  intro i hi
  by_cases hlt:i<j.done.length
  ·obtain ⟨b,hb⟩:=qw (l:=vo (j.done.map (·.1))) (k:=i) zo
   obtain ⟨s,hsb⟩:=pC (jn hb) hw.kd;have hd:(Jk j)[i]? =some (b,s):=by unfold Jk;rw[jZ,hb];simp[hsb]
   obtain ⟨ba,oa,haa,cr⟩:=qH.cm1 (g:=U64) hs1 hb hdk.symm;have hbs:=hdm _ (jn hd);have hXl:(((Jk j).take i).flatMap packD).length≤(Jk j).length*20:=yG i hpd;have hnx:((Jk j).take (i+1)).flatMap packD=((Jk j).take i).flatMap packD++packD (b,s):=QN hd;generalize hX:((Jk j).take i).flatMap packD=X at hXl hnx ⊢;rw[haa];refine Q.r ?_;refine S.y (Y.lk false rfl rfl (λw=>Tryz.zeroValue31 w)) ?_;rw[hsb];dsimp only;refine Q.r ?_;(repeat (intro b1;refine Q.r ?_));refine S.c1 (A:=wH bw (W0++X)) rfl (vw bw (W0++X) (some ⟨b1,0,none⟩) 2 [b,s] _ (qW.row1 rfl) (by intro z hz;rcases (by simpa using hz:z=b∨z=s) with rfl|rfl;exact hbs.1;exact hbs.2) (by rw[jc];simp only[jC,j7];omega)) ?_;rintro _ _ ⟨rfl,rfl⟩;have eX:W0++X++[b,s].flatMap numI=W0++((Jk j).take (i+1)).flatMap packD:=by rw[hnx];simp[packD]
   rw[eX];refine Q.r ?_;rw[←haa];refine ⟨i+1,zt,by exact eG,hlt,jr j.done.length i hlt⟩
  ·have hie:i=(Jk j).length:=by omega
   rw[hie,jI];refine Q.r ?_;exact ⟨(),zt,qi.trans (Ye (p:=p) (mt:=mt) (md:=md) (hq.mono hl1)) eG,trivial⟩
 rintro _ _;clear hs hs1;have hW1:(W0++(Jk j).flatMap packD).length≤3000000:=by
  have h1:((Jk j).flatMap packD).length≤(Jk j).length*20:=yg hpd;rw[jc];omega
 obtain ⟨W1,hW1e⟩:∃W1,W1=W0++(Jk j).flatMap packD:=⟨_,rfl⟩;rw[←hW1e] at hW1 ⊢;have hsl:(vo (j.tr.map (·.1))).length=j.tr.length:=by rw[wW,jf]
 refine Q.r ?_;refine S.cgn p rfl (YK M1 p j _ zo) ?_;rintro _ _ ⟨a2,c2,rfl,rfl⟩;refine Q.r ?_;refine wm a2 (λM2 hl2 hs2=> ?_);refine lD p hl2 ?_;clear hq;clear hlts;refine Vs p (λmt md ts hq=> ?_);refine qx (σ:=OA×Nat×List TB) (λs=> [(3,.pointer (some ⟨bw,0,none⟩)),(6,.slice s.1 s.2.2.length s.2.1)])
  (λs=>slO 148 1 s.1 s.2.2.length s.2.1 (s.2.2.map ptU)::gP p j mt md::gT mt ts::qD ts::gD md j.done::wH bw W1::qo M2::L) (λs=>s.2.2.map (λu=>u.2.2.abs)=xr j∧(∀u∈s.2.2,∃k:Nat,ts[k]? =some u)∧s.2.2.length≤100000) ?_ ?_
 ·refine ql (σ:=Nat×OA×Nat×List TB) (λs=> [(0,vI p),(3,.pointer (some ⟨bw,0,none⟩)),(58,.slice a2 j.tr.length c2),(59,.int .i64 j.tr.length),(6,.slice s.2.1 s.2.2.2.length s.2.2.1),(60,.int .i64 s.1)])
   (λs=>slO 148 1 s.2.1 s.2.2.2.length s.2.2.1 (s.2.2.2.map ptU)::gP p j mt md::gT mt ts::qD ts::gD md j.done::wH bw W1::qo M2::L) (λs=>s.1≤j.tr.length∧s.2.2.2.map (λu=>u.2.2.abs)=((((vo (j.tr.map (·.1))).take s.1).filterMap λx=>qJ j.tr x).filter mJ)∧(∀u∈s.2.2.2,∃k:Nat,ts[k]? =some u)∧s.2.2.2.length≤s.1) (λs=>j.tr.length - s.1) (0,none,0,[]) zt (qi.trans (vh (t:=148) (sz:=1)) eG) ⟨jw _,rfl,λ_ h=>(by cases h),jz _⟩ ?_
  rintro ⟨i,a3,c3,us⟩ ⟨hi,hus,huk,hul⟩;dsimp only at hi hus huk hul ⊢
  by_cases hlt:i<j.tr.length
  ·obtain ⟨x,hx⟩:=qw (l:=vo (j.tr.map (·.1))) (k:=i) zo
   obtain ⟨t,ht⟩:=bQ (jn hx) hw.kt;obtain ⟨ba,oa,haa,cr⟩:=qH.cm1 (g:=U64) hs2 hx hsl.symm;have hsn:=rp hx ht;have hlk:=WD hq.tr x;rw[ht] at hlk;rw[haa];refine Q.r ?_;refine S.y (Y.lk false rfl rfl (λw=>Tryz.zeroValue148 w)) ?_
   cases hz:qJ (α:=Nat×TV) ts x with
   |none=>rw[hz] at hlk;cases hlk
   |some u=>
    rw[hz] at hlk;obtain ⟨k,hkk⟩:=Q5 hz;have htu:t=u.2.abs:=Option.some.inj hlk;dsimp only;refine Q.r ?_;refine xX hkk ?_
    by_cases hs:0<u.2.stamp
    ·have hs':0<t.stamp:=by rw[htu];exact hs
     rw[jb hs'] at hsn;refine Q.r ?_;(repeat (intro b1;refine Q.r ?_));refine S.app rfl rfl (vA.sl vg.row zr zr) zr zo zo (λa7 c7=> ?_);refine Q.r ?_;rw[←haa];refine ⟨(i+1,a7,c7,us++[(x,u)]),⟨rfl,rfl,rfl,rfl,jj some (by simp),rfl,trivial⟩,?_,⟨hlt,?_,?_,?_⟩,jr j.tr.length i hlt⟩
     ·dsimp only
      have e9:(us++[((x,u):TB)]).map ptU=us.map ptU++[W5 u]:=by rw[jq];rfl
      rw[qF,e9];refine qi.trans (M:=vi u::qD (ts.eraseIdx k)::slO 148 1 a7 (us.length+1) c7 (us.map ptU++[W5 u])::gP p j mt md::gT mt ts::gD md j.done::wH bw W1::qo M2::L) eG (qi.trans (zn hkk) ?_);exact eG
     ·dsimp only
      rw[hsn,jq,hus,htu];rfl
     ·intro w hw
      rcases jy.1 hw with hw|hw
      ·exact huk w hw
      ·rw[ji] at hw;subst hw;exact ⟨k,hkk⟩
     ·dsimp only
      rw[qF];omega
    ·have hs':¬0<t.stamp:=by rw[htu];exact hs
     rw[ja hs',jG] at hsn;refine Q.r ?_;rw[←haa];refine ⟨(i+1,a3,c3,us),zt,?_,⟨hlt,by dsimp only;rw[hsn];exact hus,huk,Nat.le_succ_of_le hul⟩,jr j.tr.length i hlt⟩;dsimp only;refine qi.trans (M:=vi u::qD (ts.eraseIdx k)::slO 148 1 a3 us.length c3 (us.map ptU)::gP p j mt md::gT mt ts::gD md j.done::wH bw W1::qo M2::L) eG (qi.trans (zn hkk) ?_);exact eG
  ·have hie:i=(vo (j.tr.map (·.1))).length:=by omega
   rw[hie,jI] at hus;refine Q.r ?_;exact ⟨(a3,c3,us),zt,by exact eG,hus,huk,by dsimp only;omega⟩
 rintro ⟨a3,c3,us⟩ ⟨hus,huk,hul⟩;dsimp only at hus huk hul ⊢;refine wm a3 (λM3 hl3 hs3=> ?_);have hcl:us.length=(xr j).length:=jBk hus;refine Q.r ?_;refine S.y (Y.cvi rfl) ?_;rw[wrap_u64 zo zo];refine Q.r ?_;(repeat (intro b1;refine Q.r ?_));refine S.c1 (A:=wH bw W1) rfl (vw bw W1 (some ⟨b1,0,none⟩) 1 [(us.length:Int)] _ (qW.row1 rfl) (by intro z hz;rw[ji.1 hz];omega) (by simp only[jC,j7];omega)) ?_;rintro _ _ ⟨rfl,rfl⟩;have hW2:(W1++[(us.length:Int)].flatMap numI).length≤3000010:=by
  have h1:=qp (z:=(us.length:Int)) zo;simp only[jK,j3,jG,jc];omega
 have hW2p:qt j=W1++[(us.length:Int)].flatMap numI++us.flatMap λu=>wI u.2.2.abs:=by
  unfold qt;rw[←hW0,←hW1e,←hcl,←hus,List.flatMap_map];simp
 obtain ⟨W2,hW2e⟩:∃W2,W2=W1++[(us.length:Int)].flatMap numI:=⟨_,rfl⟩;rw[←hW2e] at hW2 hW2p ⊢;have hpt:∀u∈us,(wI u.2.2.abs).length≤80:=λu hu=>by
  have hm:u.2.2.abs∈xr j:=hus▸jA (f:=λu:TB=>u.2.2.abs) hu;exact XX hw (dX hw (jB.1 hm).1)
 have hq3:=hq.mono hl3;refine Q.r ?_;refine qx (σ:=Unit) (λ_=> [(3,.pointer (some ⟨bw,0,none⟩))])
  (λ_=>wH bw (qt j)::gP p j mt md::gT mt ts::qD ts::gD md j.done::qo M3::L) (λ_=>True) ?_ ?_
 ·refine ql (σ:=Nat) (λi=> [(3,.pointer (some ⟨bw,0,none⟩)),(87,.slice a3 us.length c3),(88,.int .i64 us.length),(89,.int .i64 i)])
   (λi=>wH bw (W2++(us.take i).flatMap λu=>wI u.2.2.abs)::gP p j mt md::gT mt ts::qD ts::gD md j.done::qo M3::L) (λi=>i≤us.length) (λi=>us.length - i) 0 zt (by simp only[kB,j3,jG];exact eG) (jw _) ?_
  intro i hi
  by_cases hlt:i<us.length
  ·obtain ⟨u,hu⟩:=qw hlt
   obtain ⟨k,hkk⟩:=huk u (jn hu);have hum:=jn hkk;have hok:=hq3.ok u hum;obtain ⟨ba,oa,haa,cr⟩:=qH.cm1 (g:=ptU) hs3 hu rfl;have hlku:qJ j.tr u.1=some u.2.2.abs:=by
    refine (vQ hw.kt).2 ?_;rw[←hq.tr];exact jA (f:=λu:TB=>(u.1,u.2.2.abs)) hum
   have hWu:=hw.lk hlku;have hTu:=hw.lk hlku;have hxx:u.2.2.txn=u.1:=hWu.xx;have hx1:=hTu.x1;have hb1:u.2.2.batch≤18446744073709551615:=hTu.b1;have hs1':u.2.2.stamp≤1099511627776:=hTu.s1;have hp4:u.2.2.parts.length≤4:=hWu.pl;have hpb:∀q∈u.2.2.parts,0≤q∧q<16:=hWu.pb;have hXl:((us.take i).flatMap λu=>wI u.2.2.abs).length≤us.length*80:=yG i hpt;have hnx:((us.take (i+1)).flatMap λu=>wI u.2.2.abs)=((us.take i).flatMap λu=>wI u.2.2.abs)++wI u.2.2.abs:=QN hu;generalize hX:((us.take i).flatMap λu=>wI u.2.2.abs)=X at hXl hnx ⊢;rw[haa];refine Q.r ?_;refine Qe hkk ?_;refine Q.dgo [true] [23,24] [] [0,1,2,3,4,5,6,7,8,9,10,11,12,13,14,15,16,17,18,19,20,21,22,23,24] ?_;refine Q.rd ?_;refine D.y rfl rfl rfl zk (Y.cvi rfl) ?_;rw[wrap_u64 zo zo];refine Q.rd ?_;(repeat (intro b1;refine Q.rd ?_));refine D.e rfl rfl rfl ?_;refine S.c1 (A:=wH bw (W2++X)) rfl (vw bw (W2++X) (some ⟨b1,0,none⟩) 4 [u.2.2.txn,u.2.2.batch,u.2.2.stamp,(u.2.2.parts.length:Int)] _ (qW.row1 rfl) (by intro z hz;rcases (by simpa using hz:z=u.2.2.txn∨z=u.2.2.batch∨z=u.2.2.stamp∨z=(u.2.2.parts.length:Int)) with rfl|rfl|rfl|rfl<;>omega) (by rw[jc];simp only[jC,j7];omega)) ?_;rintro _ _ ⟨rfl,rfl⟩;have hYl:(W2++X++[u.2.2.txn,u.2.2.batch,u.2.2.stamp,(u.2.2.parts.length:Int)].flatMap numI).length≤20000000:=by
    have h1:=qp (z:=u.2.2.txn) zo;have h2:=qp hb1;have h3:=qp (z:=u.2.2.stamp) zo;have h4:=qp (z:=(u.2.2.parts.length:Int)) zo;simp only[jK,j3,jG,jc];omega
   have hY2:W2++X++[u.2.2.txn,u.2.2.batch,u.2.2.stamp,(u.2.2.parts.length:Int)].flatMap numI++u.2.2.parts.flatMap numI=W2++((us.take (i+1)).flatMap λu=>wI u.2.2.abs):=by
    rw[hnx];simp[wI]
   generalize W2++X++[u.2.2.txn,u.2.2.batch,u.2.2.stamp,(u.2.2.parts.length:Int)].flatMap numI=Y1 at hYl hY2 ⊢;refine Q.r ?_;refine Q.rd ?_;refine Q.r ?_;refine ql (σ:=Nat) (λm=> [(3,.pointer (some ⟨bw,0,none⟩)),(87,.slice (some ⟨ba,oa,none⟩) us.length c3),(88,.int .i64 us.length),(89,.int .i64 i),(122,.slice u.2.2.pa u.2.2.parts.length u.2.2.pc),(123,.int .i64 u.2.2.parts.length),(124,.int .i64 m)])
    (λm=>wH bw (Y1++(u.2.2.parts.take m).flatMap numI)::vi u.2::qD (ts.eraseIdx k)::gP p j mt md::gT mt ts::gD md j.done::qo M3::L) (λm=>m≤u.2.2.parts.length) (λm=>u.2.2.parts.length - m) 0 zt (by simp only[kB,j3,jG];exact eG) (jw _) ?_
   intro m hm
   by_cases hmt:m<u.2.2.parts.length
   ·obtain ⟨q,hq1⟩:=qw hmt
    obtain ⟨bp,op,hpa,cp⟩:=qH.cm1 (g:=I64) hok.p hq1 rfl;have hqb:=hpb q (jn hq1);have hZl:((u.2.2.parts.take m).flatMap numI).length≤u.2.2.parts.length*10:=yG m λq hq=>qp (by have:=hpb q hq;omega)
    have hnz:(u.2.2.parts.take (m+1)).flatMap numI=(u.2.2.parts.take m).flatMap numI++numI q:=QN hq1;generalize (u.2.2.parts.take m).flatMap numI=Z at hZl hnz ⊢;rw[hpa];refine Q.r ?_;refine S.y (Y.cvi rfl) ?_;rw[wrap_u64 zo zo];refine Q.r ?_;(repeat (intro b1;refine Q.r ?_));refine S.c1 (A:=wH bw (Y1++Z)) rfl (vw bw (Y1++Z) (some ⟨b1,0,none⟩) 1 [q] _ (qW.row1 rfl) (by intro z hz;rw[ji.1 hz];omega) (by rw[jc];simp only[jC,j7];omega)) ?_;rintro _ _ ⟨rfl,rfl⟩;have eZ:Y1++Z++[q].flatMap numI=Y1++(u.2.2.parts.take (m+1)).flatMap numI:=by rw[hnz];simp
    rw[eZ];refine Q.r ?_;refine ⟨m+1,⟨rfl,rfl,rfl,rfl,by rw[←hpa];rfl,rfl,rfl,trivial⟩,by exact eG,hmt,jr u.2.2.parts.length m hmt⟩
   ·have hme:m=u.2.2.parts.length:=by omega
    rw[hme,jI,hY2];refine Q.r ?_;refine ⟨i+1,zt,?_,hlt,jr us.length i hlt⟩;refine qi.trans (M:=vi u.2::qD (ts.eraseIdx k)::wH bw (W2++((us.take (i+1)).flatMap λu=>wI u.2.2.abs))::gP p j mt md::gT mt ts::gD md j.done::qo M3::L) eG (qi.trans (zn hkk) ?_);exact eG
  ·have hie:i=us.length:=by omega
   rw[hie,jI,←hW2p];refine Q.r ?_;exact ⟨(),zt,by exact eG,trivial⟩
 rintro _ _;have hpl:(qt j).length≤140737488355328:=by
  rw[hW2p,jc];have h1:(us.flatMap λu=>wI u.2.2.abs).length≤us.length*80:=yg hpt;omega
 refine Q.r ?_;refine S.c1 (A:=wH bw (qt j)) rfl (Wu bw (qt j) _ hpl) ?_;rintro _ _ ⟨a9,c9,rfl,rfl⟩;refine Q.r ?_;refine N.t rfl (qi.trans (Ye (p:=p) (mt:=mt) (md:=md) hq3) ?_) ⟨a9,c9,M3,rfl,hl1.trans (hl2.trans hl3),rfl⟩;exact eG
structure RS where
 bs:List UInt8
 bad:Int
 good:Bool
def vt (most:Nat)(s:RS):Nat×RS:=((JA most s.bs s.bad).1,⟨(JA most s.bs s.bad).2.1,(JA most s.bs s.bad).2.2,s.good⟩)
def stF (last:Nat)(s:RS):Nat×RS:=((vt 1099511627776 s).1,{(vt 1099511627776 s).2 with good:=s.good&&decide (0<(vt 1099511627776 s).1)&&decide ((vt 1099511627776 s).1≤last)})
def mB (last:Nat):Nat→RS×List (Int×Int)→RS×List (Int×Int)
 |0,s=>s
 |k+1,s=>if (stF last (vt 18446744073709551615 s.1).2).2.bs.length=0 then ((stF last (vt 18446744073709551615 s.1).2).2,qZ s.2 ((vt 18446744073709551615 s.1).1:Int) ((stF last (vt 18446744073709551615 s.1).2).1:Int))
  else mB last k ((stF last (vt 18446744073709551615 s.1).2).2,qZ s.2 ((vt 18446744073709551615 s.1).1:Int) ((stF last (vt 18446744073709551615 s.1).2).1:Int))
def gY (sh:Nat):Nat→RS×List Int→RS×List Int
 |0,s=>s
 |k+1,s=>gY sh k ((vt sh s.1).2,s.2++[((vt sh s.1).1:Int)])
def zv (ps:List Int)(k:Nat):Bool:=decide (∀i,i<k→i=0∨ps.getD (i - 1) 0<ps.getD i 0)
def JF (ps:List Int):Bool:=decide (0<ps.length)&&decide (0<ps.getD 0 0)
def Qv (sh last:Nat)(s:RS):RS×TR:=
 let x:=vt 18446744073709551615 s
 let y:=vt 18446744073709551615 x.2
 let z:=stF last y.2
 let n:=vt 4 z.2
 let q:=gY sh n.1 (n.2,[])
 ({q.1 with good:=q.1.good&&JF q.2&&zv q.2 q.2.length},⟨x.1,y.1,z.1,0,0,q.2,[],[],[]⟩)
def nR (sh last:Nat):Nat→RS×List (Int×TR)→RS×List (Int×TR)
 |0,s=>s
 |k+1,s=>nR sh last k ((Qv sh last s.1).1,qZ s.2 (Qv sh last s.1).2.txn (Qv sh last s.1).2)
theorem Vy (most:Nat)(s:RS):(vt most s).2.bs.length≤s.bs.length:=by
 unfold vt JA
 split
 ·exact jz _
 ·split
  ·exact jz _
  ·simp only[jE];omega
theorem fu :∀(bs:List UInt8) (i n:Nat),(vN bs i n).2.2=0→n<2^(7*i)→i≤9→(vN bs i n).1<18446744073709551616
 | [],i,n,h,_,_=>by simp[vN] at h
 |b::bs,i,n,h,hn,hi=>by
  rw[xL] at h ⊢;have hb:b.toNat % 128<128:=Nat.mod_lt _ zd
  split at h
  ·simp at h
  ·rename_i h9
   rw[ja h9]
   split at h
   ·rename_i h1
    rw[jb h1]
    split at h
    ·simp at h
    ·rename_i h0
     rw[ja h0];exact (mO hn hi hb λe=>by omega).1
   ·rename_i h1
    rw[ja h1];exact fu bs (i+1) _ h (di hn hb) (by have:=b.toNat_lt;omega)
theorem vT (most:Nat)(s:RS):(vt most s).1≤most∧(vt most s).1<18446744073709551616:=by
 unfold vt JA
 split
 ·simp
 ·split
  ·simp
  ·rename_i h
   have h2:(qA s.bs most).2.2=0:=by simpa using h
   dsimp only;unfold qA at h2 ⊢
   by_cases he:(vN s.bs 0 0).2.2≠0
   ·rw[jb he];simp
   ·rw[ja he] at h2 ⊢
    by_cases hm:most<(vN s.bs 0 0).1
    ·rw[jb hm];simp
    ·rw[ja hm]
     exact ⟨by dsimp only;omega,fu s.bs 0 0 (by simpa using he) (by simp) zo⟩
theorem jCT (last:Nat)(s:RS):(stF last s).2.bs.length≤s.bs.length:=Vy _ s
abbrev JV (b r:Nat):HP:=pt b (cl [.pointer (some ⟨r,0,none⟩)] 171)
abbrev cP (b q:Nat):HP:=pt b (cl [vI q] 65)
abbrev fS (b:Nat)(g:Bool):HP:=pt b (cl [.bool g] 4)
set_option maxRecDepth 100000 in
theorem lJ (b7 b8 b5 r q mt md:Nat)(a:OA)(c:Nat)(s:RS)(j:JG)(last:Nat)(M:OM)(L:HL)(h:qH M a s.bs.length 1 (s.bs.map B))(hc:s.bs.length≤c)(hb:s.bs.length≤1000000000000)(hl:j.last=last):
  qh kY 146 [.pointer (some ⟨b7,0,none⟩),.pointer (some ⟨b8,0,none⟩),.pointer (some ⟨b5,0,none⟩)] (dH r a s.bs.length c s.bad::fS b8 s.good::JV b7 r::cP b5 q::gP q j mt md::qo M::L)
   (λv L'=>v=.int .u64 (stF last s).1∧∃a' c',qH M a' (stF last s).2.bs.length 1 ((stF last s).2.bs.map B)∧(stF last s).2.bs.length≤c'∧L'=dH r a' (stF last s).2.bs.length c' (stF last s).2.bad::fS b8 (stF last s).2.good::JV b7 r::cP b5 q::gP q j mt md::qo M::L):=by
 refine qg Tryz.func146 rfl rfl rfl ?_;have hn:=Zw r a c s.bs s.bad 1099511627776 M (fS b8 s.good::JV b7 r::cP b5 q::gP q j mt md::qo M::L) h hc hb;have hx:(JA 1099511627776 s.bs s.bad).1≤1099511627776:=(vT 1099511627776 s).1;unfold stF vt;dsimp only;generalize JA 1099511627776 s.bs s.bad=z at hn hx ⊢;obtain ⟨x,bs',bad'⟩:=z;dsimp only at hn hx ⊢;refine Q.r ?_;refine S.cr rfl hn ?_;rintro _ _ ⟨rfl,a',c',hs',hc',rfl⟩;clear hn;obtain ⟨sbs,sbad,g⟩:=s;dsimp only at*
 cases g with
 |false=>
  refine Q.r ?_;exact N.t rfl (kZ _) ⟨rfl,a',c',hs',hc',by simp⟩
 |true=>
  by_cases h0:0<x
  ·have h0':(0:Int)<(x:Int):=by omega
   by_cases h1:x≤last
   ·have h1':(x:Int)≤j.last:=by omega
    refine Q.r ?_;exact N.t rfl (kZ _) ⟨rfl,a',c',hs',hc',by simp[h0,h1,hl]⟩
   ·have h1':¬(x:Int)≤j.last:=by omega
    refine Q.r ?_;exact N.t rfl (kZ _) ⟨rfl,a',c',hs',hc',by simp[h0,h1,hl]⟩
  ·have h0':¬(0:Int)<(x:Int):=by omega
   refine Q.r ?_;exact N.t rfl (kZ _) ⟨rfl,a',c',hs',hc',by simp[h0]⟩
end Go.Proofs.YtlnfjhiphlfkjaaGreatDoor
namespace Go.Proofs.YtlnfjhiphlfkjaaGreatDoor
open Go Go.SX
theorem ZA :∀(bs:List UInt8) (i n:Nat),(vN bs i n).2.2=0→i+1≤(vN bs i n).2.1
 | [],i,n,h=>by simp[vN] at h
 |b::bs,i,n,h=>by
  rw[xL] at h ⊢
  split at h
  ·simp at h
  ·rename_i h9
   rw[ja h9]
   split at h
   ·rename_i h1
    rw[jb h1]
    split at h
    ·simp at h
    ·rename_i h0
     rw[ja h0];exact jz _
   ·rename_i h1
    rw[ja h1];have:=ZA bs (i+1) _ h;omega
theorem zX {m:Nat}{s:RS}(h:(vt m s).2.bad=0):s.bad=0∧(vt m s).2.bs.length+1≤s.bs.length:=by
 unfold vt JA at h ⊢
 by_cases h1:s.bad≠0
 ·rw[jb h1] at h
  exact absurd h h1
 ·rw[ja h1] at h ⊢
  by_cases h2:(qA s.bs m).2.2≠0
  ·rw[jb h2] at h
   exact absurd h h2
  ·rw[ja h2]
   refine ⟨kv.1 h1,?_⟩;have h3:=xJ s.bs m;have h4:1≤(qA s.bs m).2.1:=by
    have h5:(qA s.bs m).2.2=0:=kv.1 h2;unfold qA at h5 ⊢
    by_cases h6:(vN s.bs 0 0).2.2≠0
    ·rw[jb h6] at h5
     exact absurd h5 h6
    ·rw[ja h6] at h5 ⊢
     by_cases h7:m<(vN s.bs 0 0).1
     ·rw[jb h7] at h5
      simp at h5
     ·rw[ja h7]
      have:=ZA s.bs 0 0 (kv.1 h6);dsimp only;omega
   dsimp only;rw[jE];omega
theorem bP {l:Nat}{s:RS}(h:(stF l s).2.bad=0):s.bad=0∧(stF l s).2.bs.length+1≤s.bs.length:=zX (m:=1099511627776) h
theorem pD (l:Nat):∀(k:Nat) (s:RS×List (Int×Int)),(mB l k s).1.bad=0→s.1.bad=0∧(mB l k s).1.bs.length+(mB l k s).2.length≤s.1.bs.length+s.2.length
 |0,s,h=>⟨h,jz _⟩
 |k+1,s,h=>by
  have hp:=Js s.2 ((vt 18446744073709551615 s.1).1:Int) ((stF l (vt 18446744073709551615 s.1).2).1:Int);unfold mB at h ⊢
  split at h
  ·rename_i h0
   rw[jb h0];have h1:=bP h;have h2:=zX h1.1;refine ⟨h2.1,?_⟩;dsimp only;omega
  ·rename_i h0
   rw[ja h0];have h3:=pD l k _ h;have h1:=bP h3.1;have h2:=zX h1.1;refine ⟨h2.1,ke h3.2 ?_⟩;dsimp only;omega
theorem nZ (sh:Nat):∀(k:Nat) (s:RS×List Int),(gY sh k s).1.bad=0→s.1.bad=0
 |0,s,h=>h
 |k+1,s,h=>by
  unfold gY at h;exact (zX (nZ sh k _ h)).1
theorem jAA {sh l:Nat}{s:RS}(h:(Qv sh l s).1.bad=0):s.bad=0:=by
 unfold Qv at h;dsimp only at h;exact (zX (zX (bP (zX (nZ sh _ _ h)).1).1).1).1
theorem nQ (sh l:Nat):∀(k:Nat) (s:RS×List (Int×TR)),(nR sh l k s).1.bad=0→s.1.bad=0
 |0,s,h=>h
 |k+1,s,h=>by
  unfold nR at h;exact jAA (nQ sh l k _ h)
theorem jAY (sh:Nat):∀(k:Nat) (s:RS×List Int),(gY sh k s).2.length=s.2.length+k∧∀v∈(gY sh k s).2,v∈s.2∨(0≤v∧v≤sh)
 |0,s=>⟨rfl,λv h=>.inl h⟩
 |k+1,s=>by
  unfold gY;obtain ⟨h1,h2⟩:=jAY sh k ((vt sh s.1).2,s.2++[((vt sh s.1).1:Int)]);refine ⟨by rw[h1];dsimp only;rw[jc,kT];omega,λv hv=> ?_⟩
  rcases h2 v hv with h|h
  ·dsimp only at h
   rcases jy.1 h with h|h
   ·exact .inl h
   ·rw[ji] at h
    have:=(vT sh s.1).1;subst h;exact .inr ⟨by omega,by omega⟩
  ·exact .inr h
theorem jCP {sh l:Nat}(hs:sh≤4)(s:RS):PT (Qv sh l s).2.txn (Qv sh l s).2:=by
 unfold Qv;dsimp only;have hx:=(vT 18446744073709551615 s).1;have hy:=(vT 18446744073709551615 (vt 18446744073709551615 s).2).1;have hst:(stF l (vt 18446744073709551615 (vt 18446744073709551615 s).2).2).1≤1099511627776:=(vT 1099511627776 _).1;have hn:=(vT 4 (stF l (vt 18446744073709551615 (vt 18446744073709551615 s).2).2).2).1;obtain ⟨h1,h2⟩:=jAY sh (vt 4 (stF l (vt 18446744073709551615 (vt 18446744073709551615 s).2).2).2).1 ((vt 4 (stF l (vt 18446744073709551615 (vt 18446744073709551615 s).2).2).2).2,[]);refine ⟨rfl,by (try dsimp only);omega,by (try dsimp only);omega,by (try dsimp only);omega,?_,λv hv=> ?_⟩
 ·dsimp only
  rw[h1]
  show 0+_≤4
  omega
 ·rcases h2 v hv with h|h
  ·cases h
  ·omega
theorem jAC {sh l:Nat}(hs:sh≤4):∀(k:Nat) (s:RS×List (Int×TR)),qn s.2→(∀u∈s.2,PT u.1 u.2)→qn (nR sh l k s).2∧(∀u∈(nR sh l k s).2,PT u.1 u.2)∧(nR sh l k s).2.length≤s.2.length+k
 |0,s,h1,h2=>⟨h1,h2,jz _⟩
 |k+1,s,h1,h2=>by
  unfold nR;have hp := Js s.2 (Qv sh l s.1).2.txn (Qv sh l s.1).2;obtain ⟨a,b,c⟩ := jAC hs k ((Qv sh l s.1).1,qZ s.2 (Qv sh l s.1).2.txn (Qv sh l s.1).2) (vL h1 _ _) (fun u hu => by
   rcases wy hu with h|rfl
   ·exact h2 u h
   ·exact jCP hs s.1)
  exact ⟨a,b,by dsimp only at c;omega⟩
theorem jBU (l:Nat):∀(k:Nat) (s:RS×List (Int×Int)),qn s.2→(∀u∈s.2,u.1≤18446744073709551615∧u.2≤1099511627776)→qn (mB l k s).2∧∀u∈(mB l k s).2,u.1≤18446744073709551615∧u.2≤1099511627776
 |0,s,h1,h2=>⟨h1,h2⟩
 |k+1,s,h1,h2=>by
  have h3:=vL h1 ((vt 18446744073709551615 s.1).1:Int) ((stF l (vt 18446744073709551615 s.1).2).1:Int);have hx:=(vT 18446744073709551615 s.1).1;have hst:(stF l (vt 18446744073709551615 s.1).2).1≤1099511627776:=(vT 1099511627776 _).1;have h4:∀u∈qZ s.2 ((vt 18446744073709551615 s.1).1:Int) ((stF l (vt 18446744073709551615 s.1).2).1:Int),u.1≤18446744073709551615∧u.2≤1099511627776:=λu hu=>by
   rcases wy hu with h|rfl
   ·exact h2 u h
   ·exact ⟨by dsimp only;omega,by dsimp only;omega⟩
  unfold mB
  split
  ·exact ⟨h3,h4⟩
  ·exact jBU l k _ h3 h4
end Go.Proofs.YtlnfjhiphlfkjaaGreatDoor
