/- Walks of functions, and plain laws, that the last text rests on. No condition. -/
import Derived.Test.YtlnfjhiphlfkjaaGreatDoorPk07
set_option linter.unusedVariables false
set_option linter.unusedSimpArgs false
set_option linter.unusedSectionVars false
set_option maxHeartbeats 4000000
namespace Go.Proofs.YtlnfjhiphlfkjaaGreatDoor
open Go Go.SX
attribute [local irreducible] swp qq qL qJ vZ qh St qi qk vu qH
def wo (p:List UInt8):List (List UInt8):=if h:JD p=0∧V8 p≠[] then V8 p::wo (ZM p) else []
termination_by p.length
decreasing_by exact jCc h.1
theorem dU {p:List UInt8}(h:JD p=0)(h2:V8 p≠[]):wo p=V8 p::wo (ZM p):=by rw[wo,dif_pos ⟨h,h2⟩]
theorem X8 {p:List UInt8}(h:¬(JD p=0∧V8 p≠[])):wo p=[]:=by rw[wo,dif_neg h]
theorem jEo (p:List UInt8):vI (wo p)≤p.length:=by
 induction p using wo.induct with
 |case1 p h ih=>
  rw[dU h.1 h.2];have hn:=YN h.1;have hb:=dG h.1;have:vI (V8 p::wo (ZM p))=6+(V8 p).length+vI (wo (ZM p)):=by simp[vI]
  rw[this];unfold ZM at ih ⊢;rw[jE] at ih;omega
 |case2 p h=>rw[X8 h];exact jw _
def gZ (d:DK)(l:List UInt8):Int×DK:=if 0<zG d l then (Yc d l,VH d l) else (0,d)
def KX (d:DK)(l:List UInt8):Int×DK:=
 if rdE d l≠0 then (0,d)
 else if vI (wo (Kw d l))<(Kw d l).length then (if tmE d l≠0 then (tmE d l,W8 d l (vI (wo (Kw d l)))) else gZ (W8 d l (vI (wo (Kw d l)))) l)
 else gZ d l
def zx (d:DK)(l:List UInt8):List (List UInt8):=if rdE d l≠0∨(KX d l).1≠0 then [] else wo (Kw d l)
theorem jD4 {d:DK}{l:List UInt8}(h:rdE d l=0):Kw d l=(vU d l).1:=by
 unfold rdE at h;unfold Kw vU
 split at h
 ·cases h
 ·next hd=>
  rw[ja hd]
  split at h
  ·cases h
  ·next hl=>
   cases hz:qE d.fs l with
   |none=>exact absurd hz hl
   |some u=>rfl
theorem jBR {d:DK}{ts:List DE}(hd:W5 d ts)(l:List UInt8):(Kw d l).length≤1048576:=by
 unfold Kw
 split
 ·simp
 ·cases hz:qE d.fs l with
  |none=>simp
  |some u=>
   have hk:=Qm hd.fs hd.key;have hm:=(vp hk).1 hz;have h1:u.1.length≤qT d.fs:=QN (jA (f:=λu:FE=>u.2.1.length) hm);have h2:=hd.used;have h3:=hd.rm
   show u.1.length≤_
   omega
theorem jCm (p q n k:Nat)(br:Bool)(d:DK)(M:OM)(L:HL)(hn:n<100)(hT:xL M):
  qh kY 75 [qK q] (zl q p n k br::qt p d::qp M::L) (λr L'=>∃a c,r=.tuple #[.slice a (zx d (nm 108 n)).length c,.int .i64 (KX d (nm 108 n)).1]∧jBP M (zl q p n k br::qt p (KX d (nm 108 n)).2::L) (zx d (nm 108 n)) a c L'):=by
 refine qh.ent (L':=qt p d::zl q p n k br::qp M::L) eG (wm λmp0 ts0 hd0=>qh.ent (vD hd0) ?_);have hBl:=jBR hd0 (nm 108 n);clear hd0;refine qg Tryz.func75 rfl rfl rfl ?_;refine Q.r ?_;refine S.cr rfl (za 108 n hn _) ?_;rintro _ _ ⟨rfl,rfl⟩;generalize nm 108 n=l at*;refine Q.r ?_;refine S.ckm p rfl (cH p d l M _) ?_;rintro _ _ ⟨v,M1,rfl,hv,hvo,hvc,hl1,rfl⟩
 by_cases he:rdE d l=0
 ·rw[he]
  refine Q.r ?_;refine qw (σ:=List YB×(OM)×OA×Nat) (λs=> [(0,qK q),(4,str l),(5,v.val),(7,.slice s.2.2.1 s.1.length s.2.2.2),(8,.int .i64 (vI (wo v.bs)))])
   (λs=>slO 34 1 s.2.2.1 s.1.length s.2.2.2 (s.1.flatMap YB.cells)::zl q p n k br::qt p d::qp s.2.1::L) (λs=>s.1.map YB.bs=wo v.bs∧JV s.2.1 s.1∧qV M1 s.2.1) ?_ ?_
  ·refine ql (σ:=List YB×(OM)×OA×Nat) (λs=> [(0,qK q),(4,str l),(5,v.val),(7,.slice s.2.2.1 s.1.length s.2.2.2),(8,.int .i64 (vI (s.1.map YB.bs)))])
    (λs=>slO 34 1 s.2.2.1 s.1.length s.2.2.2 (s.1.flatMap YB.cells)::zl q p n k br::qt p d::qp s.2.1::L)
    (λs=>vI (s.1.map YB.bs)≤v.bs.length∧s.1.map YB.bs++wo (v.bs.drop (vI (s.1.map YB.bs)))=wo v.bs∧JV s.2.1 s.1∧qV M1 s.2.1) (λs=>v.bs.length - vI (s.1.map YB.bs)) ([],M1,none,0) zt (qi.trans (M:=zl q p n k br::qt p d::qp M1::L) eG (vj (t:=34) (sz:=1))) ⟨jw _,rfl,(λv hv=>by cases hv),qV.refl _⟩ ?_
   rintro ⟨vs,M2,a1,c1⟩ ⟨hat,hall,hok,hl2⟩;dsimp only at*;have hlen:=Yb (vs.map YB.bs);rw[jf] at hlen;have hT2:=(hT.mono hl1).mono hl2;have h1:qI M2 v.a v.bs.length 1 (v.bs.map B):=hvo.mono hl2;have hvl8:v.bs.length≤1048576:=by rw[hv];exact hBl
   have hsub:=qI.fromA (l:=vI (vs.map YB.bs)) h1 hat hvc;rw[jX,←List.map_drop] at hsub;have eln:v.bs.length - vI (vs.map YB.bs)=(v.bs.drop (vI (vs.map YB.bs))).length:=by rw[jE]
   by_cases hlt:vI (vs.map YB.bs)<v.bs.length
   ·generalize hk:vI (vs.map YB.bs)=kk at*
    refine Q.r ?_;refine S.y (Y.slFa (l:=kk) rfl rfl rfl hat (qI.at h1)) ?_;rw[eln] at hsub ⊢;refine S.cq (A:=qp M2) rfl (VP _ (v.c - kk) (v.bs.drop kk) M2 _ hsub hT2 (by rw[jE];omega) (by rw[jE];omega)) ?_;rintro _ _ ⟨u,w,M3,rfl,hu,hw,huo,hwo,huc,hwc,hl3,rfl⟩;have hstop:¬(JD (v.bs.drop kk)=0∧V8 (v.bs.drop kk)≠[])→∃s:List YB×(OM)×OA×Nat,s=(vs,M3,a1,c1)∧s.1.map YB.bs=wo v.bs∧vI (wo v.bs)=kk:=by
     intro h;have e:wo v.bs=vs.map YB.bs:=by rw[←hall,X8 h,jG]
     exact ⟨_,rfl,e.symm,by rw[e];exact hk⟩
    by_cases hne:JD (v.bs.drop kk)=0
    ·rw[jb hne] at hu hw
     rw[hne]
     by_cases hu0:u.bs.length=0
     ·obtain ⟨s,rfl,hs1,hs2⟩:=hstop (by rintro ⟨_,h⟩;rw[←hu] at h;exact h (jO hu0))
      refine Q.r ?_;exact ⟨(vs,M3,a1,c1),⟨rfl,rfl,rfl,rfl,jj some (jj (Value.int .i64) (by rw[hs2])),trivial⟩,by exact eG,hs1,hok.mono hl3,hl2.trans hl3⟩
     ·have hn:=YN hne
      have hbl:=dG hne;rw[jE] at hn;have hul:u.bs.length=Ws (v.bs.drop kk):=by rw[hu,hbl]
      have hcu:qX [u]=u.bs:=by simp
      refine Q.r ?_;(repeat (intro b1;refine Q.r ?_));refine S.cr rfl (Jq (some ⟨b1,0,none⟩) 1 [u] M3 _ _ (qY.row1y rfl) (λx hx=>by rw[ji.1 hx];exact huo.rd) (hT2.mono hl3) (jz _) (by simp) (by rw[hcu];omega)) ?_;rintro _ _ ⟨x,M4,rfl,hxb,hxo,hxc,hl4,rfl⟩;rw[hcu,ja zo] at hxb;rw[hcu,ja zo];have hxl:x.bs.length=6+u.bs.length:=by rw[hxb,yN]
      refine Q.r ?_;(repeat (intro b1;refine Q.r ?_));refine S.app rfl rfl (vG.sl vi.row zr zr) zr zo zo (λa7 c7=> ?_);refine Q.r ?_;have hk2:vI ((vs++[u]).map YB.bs)=kk+(6+u.bs.length):=by rw[jq,lC,hk];exact jj (kk+ ·) (lB _)
      refine ⟨(vs++[u],M4,a7,c7),⟨rfl,rfl,rfl,jj some (by simp),?_,trivial⟩,?_,⟨?_,?_,?_,hl2.trans (hl3.trans hl4)⟩,?_⟩
      ·rw[hk2];exact jj some (jj (Value.int .i64) (by rw[hxl];rfl))
      ·dsimp only
       rw[qG,vK];exact eG
      ·dsimp only
       rw[hk2,hu,hbl];omega
      ·dsimp only
       rw[hk2,←hall,dU hne (by rw[←hu];intro h;exact hu0 (by rw[h];rfl)),jq,ju];refine jj _ ?_;rw[←List.drop_drop,hul]
       show u.bs::_=_
       rw[hu];rfl
      ·intro y hy
       rcases jy.1 hy with hy|hy
       ·exact (hok.mono (hl3.trans hl4)) y hy
       ·rw[ji.1 hy];exact ⟨huo.mono hl4,huc⟩
      ·dsimp only
       rw[hk2];omega
    ·obtain ⟨s,rfl,hs1,hs2⟩:=hstop (λh=>hne h.1)
     refine Q.r ?_;exact ⟨(vs,M3,a1,c1),⟨rfl,rfl,rfl,rfl,jj some (jj (Value.int .i64) (by rw[hs2])),trivial⟩,by exact eG,hs1,hok.mono hl3,hl2.trans hl3⟩
   ·have hke:vI (vs.map YB.bs)=v.bs.length:=by omega
    have e:wo v.bs=vs.map YB.bs:=by
     rw[←hall,hke,kM,X8 (by unfold JD;simp),jG]
    refine Q.r ?_;exact ⟨(vs,M2,a1,c1),⟨rfl,rfl,rfl,rfl,jj some (jj (Value.int .i64) (by rw[e])),trivial⟩,kZ _,e.symm,hok,hl2⟩
  ·rintro ⟨vs,M2,a1,c1⟩ ⟨hvs,hok,hl2⟩
   dsimp only at hvs hok hl2 ⊢;rw[hv] at hvs ⊢
   by_cases hlt:vI (wo (Kw d l))<v.bs.length
   ·have hlt2:(vI (wo (Kw d l)):Int)<v.bs.length:=by omega
    refine Q.r ?_;refine S.ck p rfl (jAM p d l (vI (wo (Kw d l))) _ (by rw[←jD4 he];exact jEo _)) ?_;rintro _ _ ⟨rfl,rfl⟩
    by_cases ht:tmE d l=0
    ·rw[ht]
     refine Q.r ?_;have hlog:KX d l=gZ (W8 d l (vI (wo (Kw d l)))) l:=by
      unfold KX;rw[ja (λh=>h he),jb (by rw[hv] at hlt;exact hlt),ja (λh=>h ht)]
     refine S.cq (A:=qt p (W8 d l (vI (wo (Kw d l))))) rfl (Zp p (W8 d l (vI (wo (Kw d l)))) l _) ?_;rintro _ _ ⟨rfl,rfl⟩
     by_cases hlo:0<zG (W8 d l (vI (wo (Kw d l)))) l
     ·have hlo':(0:Int)<(zG (W8 d l (vI (wo (Kw d l)))) l:Nat):=by omega
      have hlo2:gZ (W8 d l (vI (wo (Kw d l)))) l=(Yc (W8 d l (vI (wo (Kw d l)))) l,VH (W8 d l (vI (wo (Kw d l)))) l):=by unfold gZ;rw[jb hlo]
      refine Q.r ?_;(repeat (intro b1;refine Q.r ?_));refine y9 b1 (t:=9) (l:=[str l]) (m:=1) (cs:=[str l]) (jz _) rfl (λM9 hl9 hs9=> ?_);refine S.ckm p rfl (Q1 p _ l (some ⟨b1,0,none⟩) 1 M9 _ hs9) ?_;rintro _ _ ⟨rfl,rfl⟩
      by_cases hf:Yc (W8 d l (vI (wo (Kw d l)))) l=0
      ·have hR:zx d l=wo (Kw d l):=by unfold zx;rw[ja (by rw[hlog,hlo2];rintro (h|h);exact h he;exact h hf)]
       rw[hf];refine Q.r ?_;refine N.u rfl rfl (L':=slO 34 1 a1 vs.length c1 (vs.flatMap YB.cells)::qp M9::zl q p n k br::qt p (VH (W8 d l (vI (wo (Kw d l)))) l)::L) eG ⟨a1,c1,?_,vs,M9,by rw[hR];exact hvs,hok.mono hl9,(hl1.trans hl2).trans hl9,?_⟩
       ·rw[show (zx d l).length=vs.length from by rw[hR,←hvs,jf],hlog,hlo2];dsimp only;rw[hf]
       ·rw[hlog,hlo2]
      ·have hR:zx d l=[]:=by unfold zx;rw[jb (.inr (by rw[hlog,hlo2];exact hf))]
       refine Q.r ?_;refine N.u rfl rfl (qi.trans (M:=qp M9::zl q p n k br::qt p (VH (W8 d l (vI (wo (Kw d l)))) l)::L) eG (vj (t:=34) (sz:=1))) ⟨none,0,?_,[],M9,by rw[hR];rfl,λv hv=>by simp at hv,(hl1.trans hl2).trans hl9,?_⟩
       ·rw[hR,hlog,hlo2];rfl
       ·rw[hlog,hlo2];rfl
     ·have hlo':¬(0:Int)<(zG (W8 d l (vI (wo (Kw d l)))) l:Nat):=by omega
      have hlo2:gZ (W8 d l (vI (wo (Kw d l)))) l=(0,(W8 d l (vI (wo (Kw d l))))):=by unfold gZ;rw[ja hlo]
      have hR:zx d l=wo (Kw d l):=by unfold zx;rw[ja (by rw[hlog,hlo2];rintro (h|h);exact h he;exact h rfl)]
      refine Q.r ?_;refine N.u rfl rfl (L':=slO 34 1 a1 vs.length c1 (vs.flatMap YB.cells)::qp M2::zl q p n k br::qt p (W8 d l (vI (wo (Kw d l))))::L) eG ⟨a1,c1,?_,vs,M2,by rw[hR];exact hvs,hok,hl1.trans hl2,?_⟩
      ·rw[show (zx d l).length=vs.length from by rw[hR,←hvs,jf],hlog,hlo2]
      ·rw[hlog,hlo2]
    ·have hlog:KX d l=(tmE d l,W8 d l (vI (wo (Kw d l)))):=by unfold KX;rw[ja (λh=>h he),jb (by rw[hv] at hlt;exact hlt),jb ht]
     have hR:zx d l=[]:=by unfold zx;rw[jb (.inr (by rw[hlog];exact ht))]
     refine Q.r ?_;refine N.u rfl rfl (qi.trans (M:=qp M2::zl q p n k br::qt p (W8 d l (vI (wo (Kw d l))))::L) eG (vj (t:=34) (sz:=1))) ⟨none,0,?_,[],M2,by rw[hR];rfl,λv hv=>by simp at hv,hl1.trans hl2,?_⟩
     ·rw[hR,hlog];rfl
     ·rw[hlog];rfl
   ·have hlt2:¬(vI (wo (Kw d l)):Int)<v.bs.length:=by omega
    refine Q.r ?_;have hlog:KX d l=gZ d l:=by
     unfold KX;rw[ja (λh=>h he),ja (by rw[hv] at hlt;exact hlt)]
    refine S.cq (A:=qt p d) rfl (Zp p d l _) ?_;rintro _ _ ⟨rfl,rfl⟩
    by_cases hlo:0<zG d l
    ·have hlo':(0:Int)<(zG d l:Nat):=by omega
     have hlo2:gZ d l=(Yc d l,VH d l):=by unfold gZ;rw[jb hlo]
     refine Q.r ?_;(repeat (intro b1;refine Q.r ?_));refine y9 b1 (t:=9) (l:=[str l]) (m:=1) (cs:=[str l]) (jz _) rfl (λM9 hl9 hs9=> ?_);refine S.ckm p rfl (Q1 p _ l (some ⟨b1,0,none⟩) 1 M9 _ hs9) ?_;rintro _ _ ⟨rfl,rfl⟩
     by_cases hf:Yc d l=0
     ·have hR:zx d l=wo (Kw d l):=by unfold zx;rw[ja (by rw[hlog,hlo2];rintro (h|h);exact h he;exact h hf)]
      rw[hf];refine Q.r ?_;refine N.u rfl rfl (L':=slO 34 1 a1 vs.length c1 (vs.flatMap YB.cells)::qp M9::zl q p n k br::qt p (VH d l)::L) eG ⟨a1,c1,?_,vs,M9,by rw[hR];exact hvs,hok.mono hl9,(hl1.trans hl2).trans hl9,?_⟩
      ·rw[show (zx d l).length=vs.length from by rw[hR,←hvs,jf],hlog,hlo2];dsimp only;rw[hf]
      ·rw[hlog,hlo2]
     ·have hR:zx d l=[]:=by unfold zx;rw[jb (.inr (by rw[hlog,hlo2];exact hf))]
      refine Q.r ?_;refine N.u rfl rfl (qi.trans (M:=qp M9::zl q p n k br::qt p (VH d l)::L) eG (vj (t:=34) (sz:=1))) ⟨none,0,?_,[],M9,by rw[hR];rfl,λv hv=>by simp at hv,(hl1.trans hl2).trans hl9,?_⟩
      ·rw[hR,hlog,hlo2];rfl
      ·rw[hlog,hlo2];rfl
    ·have hlo':¬(0:Int)<(zG d l:Nat):=by omega
     have hlo2:gZ d l=(0,d):=by unfold gZ;rw[ja hlo]
     have hR:zx d l=wo (Kw d l):=by unfold zx;rw[ja (by rw[hlog,hlo2];rintro (h|h);exact h he;exact h rfl)]
     refine Q.r ?_;refine N.u rfl rfl (L':=slO 34 1 a1 vs.length c1 (vs.flatMap YB.cells)::qp M2::zl q p n k br::qt p d::L) eG ⟨a1,c1,?_,vs,M2,by rw[hR];exact hvs,hok,hl1.trans hl2,?_⟩
     ·rw[show (zx d l).length=vs.length from by rw[hR,←hvs,jf],hlog,hlo2]
     ·rw[hlog,hlo2]
 ·have hlog:KX d l=(0,d):=by unfold KX;rw[jb he]
  have hR:zx d l=[]:=by unfold zx;rw[jb (.inl he)]
  refine Q.r ?_;refine N.u rfl rfl (qi.trans (M:=qp M1::zl q p n k br::qt p d::L) eG (vj (t:=34) (sz:=1))) ⟨none,0,?_,[],M1,by rw[hR];rfl,λv hv=>by simp at hv,hl1,?_⟩
  ·rw[hR,hlog];rfl
  ·rw[hlog];rfl
theorem nZ {x:UInt8}{n:List UInt8}{k:Nat}(h:wI x n=some k):k<100∧n=nm x k:=by
 unfold wI at h;have h1:=List.find?_some h;have h2:=List.mem_of_find?_eq_some h;exact ⟨by simpa using h2,(kV h1).symm⟩
theorem jIG (ns:List (List UInt8)):∀m:Int,(ns.foldl XL m=m∨∃k:Nat,k<100∧ns.foldl XL m=k∧nm 99 k∈ns):=by
 induction ns with
 |nil=>intro m;exact .inl rfl
 |cons n ns ih=>
  intro m;rw[List.foldl_cons]
  rcases ih (XL m n) with h|⟨k,h1,h2,h3⟩
  ·rw[h]
   unfold XL
   cases hz:wI 99 n with
   |none=>exact .inl rfl
   |some k=>
    obtain ⟨hk,hn⟩:=nZ hz;dsimp only
    by_cases hm:m≤k
    ·exact .inr ⟨k,hk,by omega,by rw[hn];simp⟩
    ·exact .inl zo
  ·exact .inr ⟨k,h1,h2,jV _ h3⟩
theorem pf (ns:List (List UInt8)):v6 ns= -1∨∃k:Nat,k<100∧v6 ns=k∧nm 99 k∈ns:=jIG ns (-1)
def gK (d:DK):Nat:=(v6 (qM d)).toNat
def fN (d:DK):List (List UInt8):=xT (v6 (qM d)) (qM d)
def rP (d:DK):Option (List UInt8):=if v6 (qM d)<0 then none else unP (Kw d (nm 99 (gK d)))
def VW (d:DK):List (List UInt8):=zx d (nm 108 (gK d))
def YM (d:DK):Int×DK:=KX d (nm 108 (gK d))
def opD (d:DK):Int×DK:=if (YM d).1=0∧fN d≠[] then (drE (YM d).2 (fN d),drS (YM d).2 (fN d)) else YM d
def yR (d:DK):Int:=if d.down then 9 else if rP d=none then 4 else (opD d).1
def zn (d:DK):DK:=if d.down then d else if rP d=none then d else (opD d).2
def jIv (p:Nat)(d:DK)(M:OM)(L:HL)(r:Value)(L':HL):Prop:=
 ∃ M',qV M M' ∧ ((yR d ≠ 0 ∧ r = .tuple #[Kj,.agg #[.slice none 0 0,.slice none 0 0],.int .i64 (yR d)] ∧ L' = qt p (zn d) :: qp M' :: L) ∨
  (yR d = 0 ∧ ∃ (q : Nat) (sv : YB) (a : OA) (c : Nat) (vs : List YB),r = .tuple #[qK q,.agg #[sv.val,.slice a vs.length c],.int .i64 0] ∧ some sv.bs = rP d ∧ wq M' sv ∧ sv.bs.length ≤ sv.c ∧ vs.map YB.bs = VW d ∧ JV M' vs ∧ qI M' a vs.length 1 (vs.flatMap YB.cells) ∧ vs.length ≤ c ∧
   L'=zl q p (gK d) vs.length false::qt p (zn d)::qp M'::L))
theorem jCn {d:DK}{l m:List UInt8}(hk:qm d.fs)(h:we d m):we (gZ d l).2 m∧qm (gZ d l).2.fs:=by
 unfold gZ
 split
 ·dsimp only
  unfold VH
  split
  ·exact ⟨(JK (d:=d) (by rw[qU];exact hk)).2 (.inr (by rw[qU];exact h)),vy (by rw[qU];exact hk) _ _⟩
  ·exact ⟨(wk d m).2 h,by rw[qU];exact hk⟩
 ·exact ⟨h,hk⟩
theorem jEn {d:DK}{l m:List UInt8}(hk:qm d.fs)(h:we d m):we (KX d l).2 m:=by
 have htm:∀x,we (W8 d l x) m∧qm (W8 d l x).fs:=λx=>by
  unfold W8
  split
  ·exact ⟨(JK (d:=d) (by rw[qU];exact hk)).2 (.inr (by rw[qU];exact h)),vy (by rw[qU];exact hk) _ _⟩
  ·exact ⟨(wk d m).2 h,by rw[qU];exact hk⟩
 unfold KX
 split
 ·exact h
 ·split
  ·split
   ·exact (htm _).1
   ·exact (jCn (htm _).2 (htm _).1).1
  ·exact (jCn hk h).1
theorem jCi {d:DK}{n:List UInt8}(hk:qm d.fs)(h:n∈qM d):we d n:=by
 have h1:=(yY _).mem_iff.1 h;obtain ⟨u,hu,rfl⟩:=jM.1 h1;intro h2;rw[(vp hk (x:=u.1) (a:=u.2)).2 hu] at h2
 cases h2
theorem jDy (p:Nat)(d:DK)(L:HL):qh kY 70 [qK p] (qt p d::L) (λr L'=>r=.bool (!d.down)∧L'=qt p d::L):=by
 refine wm λmp ts hd=> ?_
 refine qg Tryz.func70 rfl rfl rfl ?_;refine Q.r ?_;refine S.cq (A:=dP p mp d) rfl (mB p mp d _) ?_;rintro _ _ ⟨rfl,rfl⟩;refine Q.r ?_;exact N.t rfl (qi.trans (M:=dP p mp d::dM mp ts::xm ts::L) eG (vD hd)) ⟨rfl,rfl⟩
theorem cM (p:Nat)(d:DK)(M:OM)(L:HL)(hE:VT M)(hT:xL M)(hg:∀n∈qM d,lw n):
  qh kY 27 [qK p] (qt p d::qp M::L) (jIv p d M L):=by
 refine wm λmp0 ts0 hd0=>qh.ent (vD hd0) ?_
 have hBl:=jBR hd0 (nm 99 (gK d));have hkey:=Qm hd0.fs hd0.key;have hfew:d.fs.length≤16:=by rw[←hd0.fs,jf];exact hd0.few
 clear hd0;refine qg Tryz.func27 rfl rfl rfl ?_;refine Q.r ?_;(repeat (intro b1;refine Q.r ?_));rename_i b3;revert b1;intro b5;refine S.cq (A:=qt p d) rfl (jDy p d _) ?_;rintro _ _ ⟨rfl,rfl⟩
 cases hdn:d.down with
 |true=>
  have hE1:yR d=9:=by unfold yR;rw[jb hdn]
  have hS1:zn d=d:=by unfold zn;rw[jb hdn]
  refine Q.r ?_;refine vh (L':=pt b5 (cl [.slice none 0 0,.slice none 0 0] 75)::pt b3 (cl [.slice none 0 0,.slice none 0 0] 75)::qt p d::qp M::L) eG ?_;refine Q.dgo [true,false] [2] [] [0,1,2,3] ?_;refine Q.rd2 ?_;refine D.e rfl rfl rfl ?_;refine Q.r ?_;refine Q.rd2 ?_;refine Q.r ?_;exact N.r3 (RV.tmp rfl (by apply RV.cellN;rfl;exact vi.row;rfl;exact RV.tmp rfl RV.nil)) (L':=qt p d::qp M::L) eG ⟨M,qV.refl M,.inl ⟨by rw[hE1];decide,by rw[hE1],by rw[hS1]⟩⟩
 |false=>
  have hdn2:¬d.down=true:=by rw[hdn];decide
  refine Q.r ?_;refine S.ckm p rfl (lp p d M _ hE hg hfew) ?_;rintro _ _ ⟨a1,c1,M1,rfl,hl1,rfl⟩;refine xk a1 (λM2 hl2 hs2 hc2=> ?_);have hlE:=(hE.mono hl1).mono hl2;have hlT:=(hT.mono hl1).mono hl2
  rcases pf (qM d) with hN|⟨nn,hN1,hN2,hN3⟩
  ·have hB:rP d=none:=by unfold rP;rw[jb (by rw[hN];decide)]
   have hE1:yR d=4:=by unfold yR;rw[ja hdn2,jb hB]
   have hS1:zn d=d:=by unfold zn;rw[ja hdn2,jb hB]
   rw[hN];refine Q.r ?_;refine vh (L':=pt b5 (cl [.slice none 0 0,.slice none 0 0] 75)::pt b3 (cl [.slice none 0 0,.slice none 0 0] 75)::qt p d::qp M2::L) eG ?_;refine Q.dgo [true,false] [2] [] [0,1,2,3] ?_;refine Q.rd2 ?_;refine D.e rfl rfl rfl ?_;refine Q.r ?_;refine Q.rd2 ?_;refine Q.r ?_;exact N.r3 (RV.tmp rfl (by apply RV.cellN;rfl;exact vi.row;rfl;exact RV.tmp rfl RV.nil)) (L':=qt p d::qp M2::L) eG ⟨M2,hl1.trans hl2,.inl ⟨by rw[hE1];decide,by rw[hE1],by rw[hS1]⟩⟩
  ·have hNn:gK d=nn:=by unfold gK;rw[hN2];rfl
   have hNp:¬v6 (qM d)<0:=by rw[hN2];omega
   have hNp2:¬(nn:Int)<0:=by omega
   have hOl:(xT (v6 (qM d)) (qM d))=fN d:=rfl;rw[hOl] at*;rw[hN2];refine Q.r ?_;refine S.cr rfl (za 99 nn hN1 _) ?_;rintro _ _ ⟨rfl,rfl⟩;refine Q.r ?_;refine S.ckm p rfl (cH p d (nm 99 nn) M2 _) ?_;rintro _ _ ⟨v,M3,rfl,hv,hvo,hvc,hl3,rfl⟩;rw[hNn] at hBl;refine Q.r ?_;refine S.cq (A:=qp M3) rfl (f6 v.a v.c v.bs M3 _ hvo (hlT.mono hl3) hvc (by rw[hv];omega)) ?_;rintro _ _ ⟨u,M4,rfl,hu,huo,huc,hl4,rfl⟩;have hBe:rP d=unP v.bs:=by unfold rP;rw[ja hNp,hNn,hv]
   cases hun:unP v.bs with
   |none=>
    have hB:rP d=none:=by rw[hBe,hun]
    have hE1:yR d=4:=by unfold yR;rw[ja hdn2,jb hB]
    have hS1:zn d=d:=by unfold zn;rw[ja hdn2,jb hB]
    refine Q.r ?_;refine vh (L':=pt b5 (cl [.slice none 0 0,.slice none 0 0] 75)::pt b3 (cl [.slice none 0 0,.slice none 0 0] 75)::qt p d::qp M4::L) eG ?_;refine Q.dgo [true,false] [2] [] [0,1,2,3] ?_;refine Q.rd2 ?_;refine D.e rfl rfl rfl ?_;refine Q.r ?_;refine Q.rd2 ?_;refine Q.r ?_;exact N.r3 (RV.tmp rfl (by apply RV.cellN;rfl;exact vi.row;rfl;exact RV.tmp rfl RV.nil)) (L':=qt p d::qp M4::L) eG ⟨M4,hl1.trans (hl2.trans (hl3.trans hl4)),.inl ⟨by rw[hE1];decide,by rw[hE1],by rw[hS1]⟩⟩
   |some z=>
    refine Q.r ?_;(repeat (intro b1;refine Q.r ?_));refine qo (L':=zl b1 p nn 0 false::qt p d::qp M4::pt b5 (cl [.slice none 0 0,.slice none 0 0] 75)::pt b3 (cl [.slice none 0 0,.slice none 0 0] 75)::L) eG ?_;refine S.cr rfl (jCm p b1 nn 0 false d M4 _ hN1 ((hlT.mono hl3).mono hl4)) ?_;rintro _ _ ⟨a2,c2,rfl,vs,M5,hvs,hok,hl5,rfl⟩;have hL:YM d=KX d (nm 108 nn):=by unfold YM;rw[hNn]
    have hR:VW d=zx d (nm 108 nn):=by unfold VW;rw[hNn]
    rw[←hL,←hR];rw[←hR] at hvs;have hvl:(VW d).length=vs.length:=by rw[←hvs,jf]
    rw[hvl];refine xk a2 (λM6 hl6 hs6 hc6=> ?_);have hB:¬rP d=none:=by rw[hBe,hun];intro h;cases h
    have hE1:yR d=(opD d).1:=by unfold yR;rw[ja hdn2,ja hB]
    have hS1:zn d=(opD d).2:=by unfold zn;rw[ja hdn2,ja hB]
    have hlM:qV M M6:=hl1.trans (hl2.trans (hl3.trans (hl4.trans (hl5.trans hl6))))
    by_cases he1:(YM d).1=0
    ·rw[he1]
     by_cases ho0:(fN d).length=0
     ·have hon:fN d=[]:=jO ho0
      have hD:opD d=YM d:=by unfold opD;rw[ja (λh=>h.2 hon)]
      rw[hD] at hE1 hS1;have ho1:¬(0:Int)<(fN d).length:=by omega
      refine Q.r ?_;refine N.r3 (RV.tmp rfl (by apply RV.cellN;rfl;exact vi.row;rfl;exact RV.tmp rfl RV.nil)) (L':=zl b1 p nn vs.length false::qt p (YM d).2::qp M6::L) eG ⟨M6,hlM,.inr ⟨?_,b1,u,a2,c2,vs,rfl,?_,huo.mono (hl5.trans hl6),huc,hvs,hok.mono hl6,hs6,hc6,?_⟩⟩
      ·rw[hE1];exact he1
      ·rw[hBe,hun];rw[hun] at hu;rw[hu];rfl
      ·rw[hS1,hNn]
     ·have hon:fN d≠[]:=λh=>ho0 (by rw[h];rfl)
      have hD:opD d=(drE (YM d).2 (fN d),drS (YM d).2 (fN d)):=by unfold opD;rw[jb ⟨he1,hon⟩]
      rw[hD] at hE1 hS1;have ho1:(0:Int)<(fN d).length:=by omega
      refine Q.r ?_;refine S.ck p rfl (W4 p (YM d).2 a1 c1 (fN d) _ (λX=>qI.rd (hs2.mono (hl3.trans (hl4.trans (hl5.trans hl6)))) (hm:=Qo X inferInstance)) (ke (kw _ _) (by unfold qM;rw[J7,jf];omega)) (λx hx=>by unfold YM;exact jEn hkey (jCi hkey (jB.1 hx).1))) ?_;rintro _ _ ⟨rfl,rfl⟩
      by_cases he2:drE (YM d).2 (fN d)=0
      ·rw[he2]
       refine Q.r ?_;refine N.r3 (RV.tmp rfl (by apply RV.cellN;rfl;exact vi.row;rfl;exact RV.tmp rfl RV.nil)) (L':=zl b1 p nn vs.length false::qt p (drS (YM d).2 (fN d))::qp M6::L) eG ⟨M6,hlM,.inr ⟨?_,b1,u,a2,c2,vs,rfl,?_,huo.mono (hl5.trans hl6),huc,hvs,hok.mono hl6,hs6,hc6,?_⟩⟩
       ·rw[hE1];exact he2
       ·rw[hBe,hun];rw[hun] at hu;rw[hu];rfl
       ·rw[hS1,hNn]
      ·refine Q.r ?_
       refine vh (L':=pt b5 (cl [.slice none 0 0,.slice none 0 0] 75)::pt b3 (cl [.slice none 0 0,.slice none 0 0] 75)::qt p (drS (YM d).2 (fN d))::qp M6::L) eG ?_;refine Q.dgo [true,false] [3] [] [0,1,2,3,4] ?_;refine Q.rd2 ?_;refine D.e rfl rfl rfl ?_;refine Q.r ?_;refine Q.rd2 ?_;refine Q.r ?_;refine N.r3 (RV.tmp rfl (by apply RV.cellN;rfl;exact vi.row;rfl;exact RV.tmp rfl RV.nil)) (L':=qt p (drS (YM d).2 (fN d))::qp M6::L) eG ⟨M6,hlM,.inl ⟨?_,?_,?_⟩⟩
       ·rw[hE1];exact he2
       ·rw[hE1]
       ·rw[hS1]
    ·have hD:opD d=YM d:=by unfold opD;rw[ja (λh=>he1 h.1)]
     rw[hD] at hE1 hS1;have he2:=he1;refine Q.r ?_;refine vh (L':=pt b5 (cl [.slice none 0 0,.slice none 0 0] 75)::pt b3 (cl [.slice none 0 0,.slice none 0 0] 75)::qt p (YM d).2::qp M6::L) eG ?_;refine Q.dgo [true,false] [3] [] [0,1,2,3,4] ?_;refine Q.rd2 ?_;refine D.e rfl rfl rfl ?_;refine Q.r ?_;refine Q.rd2 ?_;refine Q.r ?_;refine N.r3 (RV.tmp rfl (by apply RV.cellN;rfl;exact vi.row;rfl;exact RV.tmp rfl RV.nil)) (L':=qt p (YM d).2::qp M6::L) eG ⟨M6,hlM,.inl ⟨?_,?_,?_⟩⟩
     ·rw[hE1];exact he2
     ·rw[hE1]
     ·rw[hS1]
end Go.Proofs.YtlnfjhiphlfkjaaGreatDoor
namespace Go.Proofs.YtlnfjhiphlfkjaaGreatDoor
open Go Go.SX
theorem si (a b:List (List UInt8)):xb (a++b)=xb a++xb b:=by unfold xb;rw[jq,List.flatten_append]
theorem Y3 (a:List UInt8)(b:List (List UInt8)):xb (a::b)=frB a++xb b:=by unfold xb;rw[jL,List.flatten_cons]
theorem sg (l:List (List UInt8)):(xb l).length=vI l:=by
 induction l with
 |nil=>rfl
 |cons x l ih=>
  rw[Y3,jc,ih,yN]
  simp[vI]
theorem jEZ {l:List (List UInt8)}{r:List UInt8}(h:∀x∈l,x.length≤4096):QC (xb l++r)=l++QC r:=by
 induction l with
 |nil=>rfl
 |cons x l ih=>
  obtain ⟨h1,h2,h3,_⟩:=gM x (xb l++r) (h x (by simp));rw[Y3,ju,sV h1,h2,h3,ih (λy hy=>h y (by simp[hy]))];rfl
theorem rS :JD []≠0:=by unfold JD;simp
theorem jEp {l:List (List UInt8)}{r:List UInt8}(h:∀x∈l,x.length≤4096∧x.length≠0):wo (xb l++r)=l++wo r:=by
 induction l with
 |nil=>rfl
 |cons x l ih=>
  have hx:=h x (by simp);obtain ⟨h1,h2,h3,_⟩:=gM x (xb l++r) hx.1;have hne:V8 (frB x++(xb l++r))≠[]:=by rw[h2];intro h;exact hx.2 (by rw[h];rfl)
  rw[Y3,ju,dU h1 hne,h2,h3,ih (λy hy=>h y (by simp[hy]))];rfl
theorem jC8 {bs x:List UInt8}(h:x∈Vl bs):x.length≤4096∧x.length≠0:=by
 induction bs using Vl.induct with
 |case1=>rw[KN] at h;cases h
 |case2 bs hne ih=>
  rw[Kt hne] at h
  rcases j9.1 h with rfl|h
  ·have:bs.length≠0:=λe=>hne (List.length_eq_zero_iff.1 e)
   rw[jP];omega
  ·exact ih h
theorem jC9 (bs:List UInt8):∀i,i+1<(Vl bs).length→((Vl bs).getD i []).length=4096:=by
 induction bs using Vl.induct with
 |case1=>intro i h;rw[KN] at h;simp at h
 |case2 bs hne ih=>
  intro i h;rw[Kt hne] at h ⊢;rw[jC] at h
  cases i with
  |zero=>
   have h2:(Vl (bs.drop 4096)).length≠0:=by omega
   have h3:bs.drop 4096≠[]:=λe=>h2 (by rw[e,KN];rfl)
   have h4:(bs.drop 4096).length≠0:=λe=>h3 (List.length_eq_zero_iff.1 e)
   rw[jE] at h4
   show (bs.take 4096).length=4096
   rw[jP];omega
  |succ i=>exact ih i zo
theorem rG (s:List UInt8):wY s=xb (Vl s++[[]]):=by
 unfold wY Qf xb;rw[jq];rfl
theorem jEY (s r:List UInt8):QC (wY s++r)=Vl s++[[]]++QC r:=by
 rw[rG];exact jEZ λx hx=>by
  rcases jy.1 hx with hx|hx
  ·exact (jC8 hx).1
  ·rw[ji.1 hx];simp
theorem jFN (s:List UInt8):unP (wY s)=some s:=by
 have h0:=jEY s [];rw[jG,sW rS,jG] at h0;unfold unP;rw[h0];have hlen:(Vl s++[[]]).length=(Vl s).length+1:=by simp
 unfold unL;rw[jb]
 ·rw[hlen,Nat.add_sub_cancel,List.take_left' rfl,lY]
 ·refine ⟨by rw[rG,sg],by simp,?_,λi hi=> ?_⟩
  ·rw[hlen,Nat.add_sub_cancel,j8,kG (jz _),Nat.sub_self];rfl
  ·rw[hlen,Nat.add_sub_cancel] at hi
   rw[hlen,j8,ko hi,←j8];have hm:(Vl s).getD i []∈Vl s:=by
    rw[j8,jY hi];exact List.getElem_mem hi
   have h1:=jC8 hm;unfold okU;rw[jv h1.2]
   by_cases hi2:i+1<(Vl s).length
   ·have h2:=jC9 s i hi2
    rw[h2];simp
   ·have:decide (i+2<(Vl s).length+1)=false:=jv zo
    rw[this];simp
theorem Kl {α:Type}(x y:List UInt8)(a:α)(m:List (List UInt8×α)):qE ((x,a)::m) y=if x=y then some a else qE m y:=by
 unfold qE;rw[List.find?_cons]
 by_cases h:x=y
 ·simp[h]
 ·simp[h]
theorem QW {α:Type}(x y:List UInt8)(a:α)(m:List (List UInt8×α)):qO ((x,a)::m) y=if x=y then qO m y else (x,a)::qO m y:=by
 unfold qO;rw[kI]
 by_cases h:x=y
 ·simp[h]
 ·simp[h]
theorem Za {α:Type}(y:List UInt8):qO ([]:List (List UInt8×α)) y=[]:=rfl
theorem dv {α:Type}(x y:List UInt8)(a b:α)(m:List (List UInt8×α))(h:x≠y):qN ((x,a)::m) y b=(x,a)::qN m y b:=by
 unfold qN;rw[kX,jv h,jR,jL,ja h]
 split<;>rfl
theorem V6 {α:Type}(x:List UInt8)(a b:α)(m:List (List UInt8×α))(h:∀u∈m,u.1≠x):qN ((x,a)::m) x b=(x,b)::m:=wv (p:=[]) (by simp) h
theorem rW (a b:Nat):nm 99 a≠nm 108 b:=λh=>absurd (List.cons.inj h).1 zd
theorem jCh (a b:Nat):nm 108 a≠nm 99 b:=λh=>absurd (List.cons.inj h).1 zd
theorem jHx (a:Nat):nm 99 a≠tN:=λh=>absurd (List.cons.inj h).1 zd
theorem jFm (a:Nat):nm 108 a≠tN:=λh=>absurd (List.cons.inj h).1 zd
structure Wc (d:DK):Prop where
 l:d.left= -1
 d:d.down=false
theorem Wc.sp {d:DK}(h:Wc d):wB d=true:=by unfold wB;rw[h.d,h.l];rfl
theorem Wc.sd {d:DK}(h:Wc d):vd d=d:=by
 unfold vd;rw[jb h.sp,h.l];obtain ⟨l,dn,r,fs⟩:=d;have:=h.l;dsimp only at this;subst this;rfl
def dJ (room:Int)(n:Nat)(s:List UInt8)(lg:Option (List UInt8×Nat)):DK:=
 ⟨-1,false,room,(nm 99 n,wY s,(wY s).length)::(match lg with|none=> []|some v=> [(nm 108 n,v)])⟩
theorem KJ (room:Int)(n:Nat)(s:List UInt8)(lg:Option (List UInt8×Nat)):Wc (dJ room n s lg):=⟨rfl,rfl⟩
theorem jE4 (room:Int):Wc (D0 room):=⟨rfl,rfl⟩
theorem ru {d:DK}(h:Wc d)(b:List UInt8):Xx d b=if d.room<qT d.fs+b.length then 8 else 0:=by
 unfold Xx;rw[h.sp,h.sd,ja zd];rfl
theorem fS {d:DK}(h:Wc d){n b:List UInt8}(he:Xx d b=0):JT d n b=wrD d n b:=by unfold JT;rw[jb he,h.sd]
theorem Qp {d:DK}(h:Wc d){n:List UInt8}(hh:we d n):Yc d n=0:=by unfold Yc;rw[h.sp,ja zd,jb hh]
theorem Y4 {d:DK}(h:Wc d){n:List UInt8}(hh:we d n):VH d n=fmD d n:=by unfold VH;rw[Qp h hh,jb rfl,h.sd]
theorem jBH {d:DK}(h:Wc d):swE d=0:=by unfold swE;rw[h.sp,ja zd]
theorem jBF {d:DK}(h:Wc d)(n m:List UInt8):swS d n m=swD d n m:=by unfold swS;rw[h.sp,ja zd,h.sd]
def lgB (lg:Option (List UInt8×Nat)):List UInt8:=(lg.getD ([],0)).1
def lgF (lg:Option (List UInt8×Nat)):Nat:=(lg.getD ([],0)).2
theorem sy (room:Int)(n:Nat)(s:List UInt8)(lg:Option (List UInt8×Nat)):qT (dJ room n s lg).fs=(wY s).length+(lgB lg).length:=by
 cases lg<;>simp[dJ,qT,lgB]
theorem jGw (room:Int)(n:Nat)(s:List UInt8)(lg:Option (List UInt8×Nat)):qm (dJ room n s lg).fs:=by
 cases lg<;>simp[dJ,qm,rW]
theorem jCZ (room:Int)(n:Nat)(s:List UInt8)(lg:Option (List UInt8×Nat)):(dJ room n s lg).fs.length≤2:=by
 cases lg<;>simp[dJ]
theorem jHE (room:Int)(s:List UInt8):Ql (D0 room) s=(if room<(wY s).length then 8 else 0)∧(¬room<(wY s).length→Jg (D0 room) s 0=dJ room 0 s none):=by
 have h0:=jE4 room;have hw:Xx (D0 room) (wY s)=if room<(wY s).length then 8 else 0:=by
  rw[ru h0];have:qT (D0 room).fs=0:=rfl;rw[this];simp[D0]
 by_cases hf:room<(wY s).length
 ·refine ⟨?_,λh=>absurd hf h⟩
  unfold Ql;rw[hw,jb hf,jb zd]
 ·rw[ja hf] at hw
  have e1:JT (D0 room) tN (wY s)=⟨-1,false,room,[(tN,wY s,0)]⟩:=by rw[fS h0 hw];rfl
  have hl:Wc (⟨-1,false,room,[(tN,wY s,0)]⟩:DK):=⟨rfl,rfl⟩;have hh:we (⟨-1,false,room,[(tN,wY s,0)]⟩:DK) tN:=by unfold we;rw[Kl,jb rfl];simp
  have e2:VH (⟨-1,false,room,[(tN,wY s,0)]⟩:DK) tN=⟨-1,false,room,[(tN,wY s,(wY s).length)]⟩:=by
   rw[Y4 hl hh];unfold fmD vU;dsimp only;rw[Kl,jb rfl,V6 _ _ _ _ (by simp)];rfl
  have hl2:Wc (⟨-1,false,room,[(tN,wY s,(wY s).length)]⟩:DK):=⟨rfl,rfl⟩;refine ⟨?_,λ_=> ?_⟩
  ·unfold Ql
   rw[hw,ja zd,e1,Qp hl hh,ja zd,e2,jBH hl2,ja hf]
  ·unfold Jg
   rw[hw,ja zd,e1,Qp hl hh,ja zd,e2,jBF hl2];unfold swD vU dJ;dsimp only;rw[Kl,jb rfl,QW,jb rfl,Za]
   simp
theorem jHy (n:Nat):nm 99 n≤nm 108 n:=List.cons_le_cons_iff.2 (.inl zd)
theorem n4 (room:Int)(n:Nat)(s:List UInt8)(lg:Option (List UInt8×Nat)):qM (dJ room n s lg)=nm 99 n::(if lg.isSome then [nm 108 n] else []):=by
 unfold qM KB
 cases lg with
 |none=>exact List.mergeSort_of_pairwise (by simp[dJ])
 |some v=>exact List.mergeSort_of_pairwise (by simpa[dJ] using jHy n)
theorem jHH {room:Int}{n:Nat}{s:List UInt8}{lg:Option (List UInt8×Nat)}(hn:n<100):∀x∈qM (dJ room n s lg),lw x:=by
 intro x hx;rw[n4] at hx
 rcases j9.1 hx with rfl|hx
 ·exact .inl ⟨n,hn,rfl⟩
 ·split at hx
  ·rw[ji.1 hx];exact .inr (.inl ⟨n,hn,rfl⟩)
  ·cases hx
theorem jGd {room:Int}{n:Nat}{s:List UInt8}{lg:Option (List UInt8×Nat)}(hn:n<100):v6 (qM (dJ room n s lg))=n:=by
 rw[n4];have h1:XL (-1) (nm 99 n)=n:=by unfold XL;rw[Kg hn];dsimp only;omega
 unfold v6;rw[List.foldl_cons,h1]
 cases lg with
 |none=>rfl
 |some v=>
  show XL n (nm 108 n)=n
  unfold XL nm;rw[yh zd]
theorem jCa {room:Int}{n:Nat}{s:List UInt8}{lg:Option (List UInt8×Nat)}(hn:n<100):fN (dJ room n s lg)=[]:=by
 unfold fN;rw[jGd hn,n4];have h1:yV n (nm 99 n)=false:=by
  unfold yV;rw[Kg hn];have:wI 108 (nm 99 n)=none:=yh zd;rw[this,jv (jHx n)]
  simp
 have h2:yV n (nm 108 n)=false:=by
  unfold yV;have:wI 99 (nm 108 n)=none:=yh zd;rw[Kg hn,this,jv (jFm n)]
  simp
 unfold xT
 cases lg with
 |none=>simp[h1]
 |some v=>simp[h1,h2]
theorem jHB (room:Int)(n:Nat)(s:List UInt8)(lg:Option (List UInt8×Nat)):qE (dJ room n s lg).fs (nm 99 n)=some (wY s,(wY s).length):=by
 unfold dJ;dsimp only;rw[Kl,jb rfl]
theorem n7 (room:Int)(n:Nat)(s:List UInt8)(lg:Option (List UInt8×Nat)):qE (dJ room n s lg).fs (nm 108 n)=lg:=by
 unfold dJ;dsimp only;rw[Kl,ja (rW n n)]
 cases lg with
 |none=>rfl
 |some v=>rw[Kl,jb rfl]
theorem jFi (room:Int)(n:Nat)(s:List UInt8)(lg:Option (List UInt8×Nat))(v:List UInt8×Nat):qN (dJ room n s lg).fs (nm 108 n) v=(dJ room n s (some v)).fs:=by
 unfold dJ;dsimp only;rw[dv _ _ _ _ _ (rW n n)]
 cases lg with
 |none=>rfl
 |some w=>rw[V6 _ _ _ _ (by simp)]
theorem jCR (room:Int)(n:Nat)(s:List UInt8)(lg:Option (List UInt8×Nat)):vU (dJ room n s lg) (nm 108 n)=(lgB lg,lgF lg):=by unfold vU;rw[n7];rfl
theorem fmJ (room:Int)(n:Nat)(s b:List UInt8)(f:Nat):fmD (dJ room n s (some (b,f))) (nm 108 n)=dJ room n s (some (b,b.length)):=by
 unfold fmD;rw[jCR,jFi];rfl
def jCb (R:List (List UInt8)):Prop:=∀x∈R,x.length≤4096∧x.length≠0
theorem gX {R:List (List UInt8)}(h:jCb R):wo (xb R)=R:=by
 have:=jEp (r:=[]) h;rw[jG,X8 (λh=>rS h.1),jG] at this;exact this
theorem jF5 {room:Int}{n:Nat}{s:List UInt8}{R:List (List UInt8)}{lg:Option (List UInt8×Nat)}(hn:n<100)(hR:jCb R)(hl:(lg=none∧R=[])∨∃f,f≤(xb R).length∧lg=some (xb R,f)):
  yR (dJ room n s lg)=0∧zn (dJ room n s lg)=dJ room n s (lg.map λ_=>(xb R,(xb R).length))∧gK (dJ room n s lg)=n∧rP (dJ room n s lg)=some s∧VW (dJ room n s lg)=R:=by
 have hN:gK (dJ room n s lg)=n:=by unfold gK;rw[jGd hn];rfl
 have hdn:¬(dJ room n s lg).down=true:=by show ¬(false=true);decide
 have hB:rP (dJ room n s lg)=some s:=by
  unfold rP;rw[ja (by rw[jGd hn];omega),hN];unfold Kw;rw[ja hdn,jHB];exact jFN s
 have hD:opD (dJ room n s lg)=YM (dJ room n s lg):=by unfold opD;rw[ja (λh=>h.2 (jCa hn))]
 have hL:YM (dJ room n s lg)=(0,dJ room n s (lg.map λ_=>(xb R,(xb R).length)))∧VW (dJ room n s lg)=R:=by
  unfold YM VW;rw[hN]
  rcases hl with ⟨rfl,rfl⟩|⟨f,hf,rfl⟩
  ·have he:rdE (dJ room n s none) (nm 108 n)=6:=by unfold rdE;rw[ja hdn,n7,jb rfl]
   refine ⟨by unfold KX;rw[he,jb zd];rfl,by unfold zx;rw[he,jb (.inl zd)]⟩
  ·have he:rdE (dJ room n s (some (xb R,f))) (nm 108 n)=0:=by unfold rdE;rw[ja hdn,n7,ja (by simp)]
   have hb:Kw (dJ room n s (some (xb R,f))) (nm 108 n)=xb R:=by unfold Kw;rw[ja hdn,n7];rfl
   have hlo:gZ (dJ room n s (some (xb R,f))) (nm 108 n)=(0,dJ room n s (some (xb R,(xb R).length))):=by
    unfold gZ;have hlen:zG (dJ room n s (some (xb R,f))) (nm 108 n)=(xb R).length - f:=by unfold zG;rw[jCR];rfl
    rw[hlen];have hh:we (dJ room n s (some (xb R,f))) (nm 108 n):=by unfold we;rw[n7];simp
    split
    ·rw[Qp (KJ _ _ _ _) hh,Y4 (KJ _ _ _ _) hh,fmJ]
    ·have:f=(xb R).length:=by omega
     rw[←this]
   have hlg:KX (dJ room n s (some (xb R,f))) (nm 108 n)=(0,dJ room n s (some (xb R,(xb R).length))):=by
    unfold KX;rw[he,ja zd,hb,gX hR,←sg,ja zo,hlo]
   refine ⟨hlg,?_⟩;unfold zx;rw[he,hlg,ja (by simp),hb,gX hR]
 refine ⟨?_,?_,hN,hB,hL.2⟩
 ·unfold yR;rw[ja hdn,ja (by rw[hB];simp),hD,hL.1]
 ·unfold zn;rw[ja hdn,ja (by rw[hB];simp),hD,hL.1]
theorem jHp {room:Int}{n k:Nat}{s:List UInt8}{lg:Option (List UInt8×Nat)}{rs:List (List UInt8)}(h1:mS rs=0)(h2:rs≠[]):
  (room<((wY s).length+(lgB lg).length:Nat)+((xb rs).length:Nat)→mR ⟨dJ room n s lg,n,k,false⟩ rs=8∧gB ⟨dJ room n s lg,n,k,false⟩ rs=⟨dJ room n s lg,n,k,false⟩)∧
  (¬room<((wY s).length+(lgB lg).length:Nat)+((xb rs).length:Nat)→mR ⟨dJ room n s lg,n,k,false⟩ rs=0∧gB ⟨dJ room n s lg,n,k,false⟩ rs=⟨dJ room n s (some (lgB lg++xb rs,lgF lg)),n,k+rs.length,false⟩):=by
 have hw:=ru (KJ room n s lg) (xb rs);rw[sy] at hw;have hr:(dJ room n s lg).room=room:=rfl;rw[hr] at hw;refine ⟨λh=> ?_,λh=> ?_⟩
 ·rw[jb h] at hw
  refine ⟨?_,?_⟩
  ·unfold mR;dsimp only;rw[ja zd,h1,ja zd,ja h2,hw]
  ·unfold gB;dsimp only;rw[ja zd,h1,ja zd,ja h2,hw]
   have:JT (dJ room n s lg) (nm 108 n) (xb rs)=dJ room n s lg:=by unfold JT;rw[hw,ja zd,(KJ room n s lg).sd]
   rw[this];rfl
 ·rw[ja h] at hw
  refine ⟨?_,?_⟩
  ·unfold mR;dsimp only;rw[ja zd,h1,ja zd,ja h2,hw]
  ·unfold gB;dsimp only;rw[ja zd,h1,ja zd,ja h2,hw]
   have:JT (dJ room n s lg) (nm 108 n) (xb rs)=dJ room n s (some (lgB lg++xb rs,lgF lg)):=by
    rw[fS (KJ room n s lg) hw];unfold wrD;rw[jCR,jFi];rfl
   rw[this];rfl
theorem jGm {room:Int}{n k:Nat}{s b:List UInt8}{f:Nat}(hk:k≠0):bX ⟨dJ room n s (some (b,f)),n,k,false⟩=0∧bW ⟨dJ room n s (some (b,f)),n,k,false⟩=⟨dJ room n s (some (b,b.length)),n,k,false⟩:=by
 have hh:we (dJ room n s (some (b,f))) (nm 108 n):=by unfold we;rw[n7];simp
 have hE:=Qp (KJ room n s (some (b,f))) hh;have hS:=Y4 (KJ room n s (some (b,f))) hh;refine ⟨?_,?_⟩
 ·unfold bX;dsimp only;rw[ja zd,ja hk,hE]
 ·unfold bW;dsimp only;rw[ja zd,ja hk,hE,hS,fmJ];rfl
theorem jIJ (room:Int)(s:List UInt8):foE (D0 room) s=(if room<(wY s).length then 8 else 0)∧(¬room<(wY s).length→foS (D0 room) s=dJ room 0 s none):=by
 have h:=jHE room s;refine ⟨by unfold foE;rw[jb (show (D0 room).fs.length=0 from rfl),h.1],λhf=>by unfold foS;rw[jb (show (D0 room).fs.length=0 from rfl),h.2 hf]⟩
def fJ (n:Nat)(s:List UInt8)(lg:Option (List UInt8×Nat)):List FE:=(nm 99 n,wY s,(wY s).length)::(match lg with|none=> []|some v=> [(nm 108 n,v)])
def dn (l:Int):Int:=max (l - 1) (-1)
theorem sB1 {l:Int}(h:l≠0)(room:Int)(fs:List FE):wB ⟨l,false,room,fs⟩=true:=by unfold wB;simp[h]
theorem sD1 {l:Int}(h:l≠0)(room:Int)(fs:List FE):vd ⟨l,false,room,fs⟩=⟨dn l,false,room,fs⟩:=by unfold vd;rw[sB1 h];rfl
theorem jDO {l:Int}(h:l≠0)(room:Int)(fs:List FE)(b:List UInt8):Xx ⟨l,false,room,fs⟩ b=if room<qT fs+b.length then 8 else 0:=by
 unfold Xx;rw[sB1 h,ja zd,sD1 h];rfl
theorem jIk {l:Int}(h:l≠0){room:Int}{fs:List FE}{b:List UInt8}(n:List UInt8)(hf:room<qT fs+b.length):JT ⟨l,false,room,fs⟩ n b=⟨dn l,false,room,fs⟩:=by
 unfold JT;rw[jDO h,jb hf,ja zd,sD1 h]
theorem jIl {l:Int}(h:l≠0){room:Int}{fs:List FE}{b:List UInt8}(n:List UInt8)(hf:¬room<qT fs+b.length):JT ⟨l,false,room,fs⟩ n b=⟨dn l,false,room,qN fs n (((qE fs n).getD ([],0)).1++b,((qE fs n).getD ([],0)).2)⟩:=by
 unfold JT;rw[jDO h,ja hf,jb rfl,sD1 h];rfl
theorem jHL {l:Int}(h:l≠0){room:Int}{fs:List FE}{n:List UInt8}(hh:qE fs n≠none):Yc ⟨l,false,room,fs⟩ n=0:=by unfold Yc;rw[sB1 h,ja zd,jb (show we ⟨l,false,room,fs⟩ n from hh)]
theorem jIL {l:Int}(h:l≠0){room:Int}{fs:List FE}{n:List UInt8}(hh:qE fs n≠none):VH ⟨l,false,room,fs⟩ n=⟨dn l,false,room,qN fs n (((qE fs n).getD ([],0)).1,((qE fs n).getD ([],0)).1.length)⟩:=by
 unfold VH;rw[jHL h hh,jb rfl,sD1 h];rfl
theorem jIr {l:Int}(h:l≠0)(room:Int)(fs:List FE):swE ⟨l,false,room,fs⟩=0:=by unfold swE;rw[sB1 h,ja zd]
theorem jIq {l:Int}(h:l≠0)(room:Int)(fs:List FE)(n m:List UInt8):swS ⟨l,false,room,fs⟩ n m=swD ⟨dn l,false,room,fs⟩ n m:=by unfold swS;rw[sB1 h,ja zd,sD1 h]
theorem jHP {l:Int}(h:l≠0)(room:Int)(fs:List FE)(ns:List (List UInt8)):drE ⟨l,false,room,fs⟩ ns=0:=by unfold drE;rw[sB1 h,ja zd]
theorem jIO {l:Int}(h:l≠0)(room:Int)(fs:List FE)(ns:List (List UInt8)):drS ⟨l,false,room,fs⟩ ns=⟨dn l,false,room,ns.foldl qO fs⟩:=by unfold drS;rw[sB1 h,ja zd,sD1 h];rfl
theorem jAt (n:Nat)(s:List UInt8)(lg:Option (List UInt8×Nat)):∀u∈fJ n s lg,u.1≠tN:=by
 intro u hu;unfold fJ at hu
 rcases j9.1 hu with rfl|hu
 ·exact jHx n
 ·cases lg with
  |none=>cases hu
  |some v=>rw[ji.1 hu];exact jFm n
theorem jIM {n:Nat}(hn:n+1<100)(s:List UInt8)(lg:Option (List UInt8×Nat)):∀u∈fJ n s lg,u.1≠nm 99 (n+1):=by
 intro u hu;unfold fJ at hu
 rcases j9.1 hu with rfl|hu
 ·intro h;have:=(n3 zo hn h).2;omega
 ·cases lg with
  |none=>cases hu
  |some v=>rw[ji.1 hu];exact jCh _ _
theorem jBU {α:Type}{m:List (List UInt8×α)}{x:List UInt8}(h:∀u∈m,u.1≠x)(a:α):qN m x a=m++[(x,a)]:=by
 unfold qN;rw[ja];intro h2;obtain ⟨u,hu,hx⟩:=ku.1 h2;exact h u hu (kV hx)
theorem jBV {α:Type}{m:List (List UInt8×α)}{x:List UInt8}(h:∀u∈m,u.1≠x)(a b:α):qN (m++[(x,a)]) x b=m++[(x,b)]:=wv h (by simp)
theorem jCW {α:Type}{m:List (List UInt8×α)}{x:List UInt8}(h:∀u∈m,u.1≠x)(a:α):qO (m++[(x,a)]) x=m:=by
 unfold qO;rw[jU,List.filter_eq_self.2 (λu hu=>by simpa using h u hu)]
 simp
theorem so (n:Nat)(s:List UInt8)(lg:Option (List UInt8×Nat)):qT (fJ n s lg)=(wY s).length+(lgB lg).length:=sy 0 n s lg
section
variable {l room : Int} {n k : Nat} {s s' : List UInt8} {lg : Option (List UInt8 × Nat)}
theorem jIK (h:l≠0)(b:List UInt8)(f:Nat):Yc ⟨l,false,room,fJ n s lg++[(tN,b,f)]⟩ tN=0∧VH ⟨l,false,room,fJ n s lg++[(tN,b,f)]⟩ tN=⟨dn l,false,room,fJ n s lg++[(tN,b,b.length)]⟩:=by
 have hl:qE (fJ n s lg++[(tN,b,f)]) tN=some (b,f):=JJ (jAt n s lg);refine ⟨jHL h (by rw[hl];simp),?_⟩;rw[jIL h (by rw[hl];simp),hl,jBV (jAt n s lg)];rfl
theorem jIp (h:l≠0)(m b:List UInt8):swS ⟨l,false,room,fJ n s lg++[(tN,b,b.length)]⟩ tN m=⟨dn l,false,room,fJ n s lg++[(m,b,b.length)]⟩:=by
 have hl:qE (fJ n s lg++[(tN,b,b.length)]) tN=some (b,b.length):=JJ (jAt n s lg);rw[jIq h];unfold swD vU;dsimp only;rw[hl,jCW (jAt n s lg)];dsimp only[Option.getD_some];rw[jI]
theorem jIj (h:l≠0){b:List UInt8}(hf:¬room<(((wY s).length+(lgB lg).length:Nat):Int)+b.length):Xx ⟨l,false,room,fJ n s lg⟩ b=0∧JT ⟨l,false,room,fJ n s lg⟩ tN b=⟨dn l,false,room,fJ n s lg++[(tN,b,0)]⟩:=by
 have hf':¬room<(qT (fJ n s lg):Nat)+(b.length:Int):=by rw[so];exact hf
 refine ⟨by rw[jDO h,ja hf'],?_⟩;rw[jIl h _ hf',wX (jAt n s lg),jBU (jAt n s lg)];rfl
theorem jGt (hn:n+1<100)(hk:lg.isSome=decide (0<k))(b:List UInt8)(f:Nat):(VA ⟨⟨l,false,room,fJ n s lg⟩,n,k,false⟩).foldl qO (fJ n s lg++[(nm 99 (n+1),b,f)])=[(nm 99 (n+1),b,f)]:=by
 have h1:nm 99 (n+1)≠nm 99 n:=by intro h;have:=(n3 hn zo h).2;omega
 unfold VA fJ;dsimp only
 cases lg with
 |none=>
  have hk0:¬0<k:=λh=>by rw[jo h] at hk;cases hk
  rw[ja hk0];simp only[List.foldl_cons,List.foldl_nil,List.cons_append,kO];rw[QW,jb rfl,QW,ja h1,Za]
 |some v=>
  have hk0:0<k:=by by_cases h:0<k;exact h;rw[jv h] at hk;cases hk
  rw[jb hk0];simp only[List.foldl_cons,List.foldl_nil,List.cons_append,kO]
  simp[QW,Za,h1,rW,jCh]
theorem jF1 (h:l≠0)(hf:room<(((wY s).length+(lgB lg).length:Nat):Int)+(wY s').length):J9 ⟨⟨l,false,room,fJ n s lg⟩,n,k,false⟩ s'=8∧yZ ⟨⟨l,false,room,fJ n s lg⟩,n,k,false⟩ s'=⟨⟨dn l,false,room,fJ n s lg⟩,n,k,false⟩:=by
 have hf':room<(qT (fJ n s lg):Nat)+((wY s').length:Int):=by rw[so];exact hf
 have hw:Xx ⟨l,false,room,fJ n s lg⟩ (wY s')=8:=by rw[jDO h,jb hf']
 have hE:Ql ⟨l,false,room,fJ n s lg⟩ s'=8:=by unfold Ql;rw[hw,jb zd]
 have hS:Jg ⟨l,false,room,fJ n s lg⟩ s' (n+1)=⟨dn l,false,room,fJ n s lg⟩:=by unfold Jg;rw[hw,jb zd,jIk h _ hf']
 exact ⟨by unfold J9;dsimp only;rw[hE,ja zd,jb zd],by unfold yZ;dsimp only;rw[hE,hS,ja zd,jb zd];rfl⟩
theorem jHD (h0:l≠0)(h1:dn l≠0)(h2:dn (dn l)≠0)(hf:¬room<(((wY s).length+(lgB lg).length:Nat):Int)+(wY s').length):Ql ⟨l,false,room,fJ n s lg⟩ s'=0∧Jg ⟨l,false,room,fJ n s lg⟩ s' (n+1)=⟨dn (dn (dn l)),false,room,fJ n s lg++[(nm 99 (n+1),wY s',(wY s').length)]⟩:=by
 obtain ⟨w1,w2⟩:=jIj (l:=l) (room:=room) (n:=n) h0 hf;obtain ⟨f1,f2⟩:=jIK (l:=dn l) (room:=room) (n:=n) (s:=s) (lg:=lg) h1 (wY s') 0;refine ⟨by unfold Ql;rw[w1,w2,ja zd,f1,f2,ja zd,jIr h2],by unfold Jg;rw[w1,w2,ja zd,f1,f2,ja zd,jIp h2]⟩
theorem jF0 (hn:n+1<100)(hk:lg.isSome=decide (0<k))(h0:l≠0)(h1:dn l≠0)(h2:dn (dn l)≠0)(h3:dn (dn (dn l))≠0)(hf:¬room<(((wY s).length+(lgB lg).length:Nat):Int)+(wY s').length):J9 ⟨⟨l,false,room,fJ n s lg⟩,n,k,false⟩ s'=0∧yZ ⟨⟨l,false,room,fJ n s lg⟩,n,k,false⟩ s'=⟨⟨dn (dn (dn (dn l))),false,room,fJ (n+1) s' none⟩,n+1,0,false⟩:=by
 obtain ⟨hE,hS⟩:=jHD (l:=l) (room:=room) (n:=n) h0 h1 h2 hf;have hD:=jGt (l:=l) (room:=room) (n:=n) (k:=k) (s:=s) (lg:=lg) hn hk (wY s') (wY s').length;exact ⟨by unfold J9;dsimp only;rw[hE,hS,ja zd,ja zd,jHP h3],by unfold yZ;dsimp only;rw[hE,hS,ja zd,ja zd,jHP h3,jIO h3,hD];rfl⟩
end
structure LJ where
 room:Int
 n:Nat
 s:List UInt8
 R:List (List UInt8)
def mU (R:List (List UInt8)):Option (List UInt8×Nat):=if R=[] then none else some (xb R,(xb R).length)
abbrev LJ.d (l:LJ):DK:=dJ l.room l.n l.s (mU l.R)
abbrev LJ.z (l:LJ):JZ:=⟨l.d,l.n,l.R.length,false⟩
theorem jCq (R:List (List UInt8)):lgB (mU R)=xb R:=by
 unfold mU
 split
 ·next h=>rw[h];rfl
 ·rfl
theorem jFo (R:List (List UInt8)):(mU R).isSome=decide (0<R.length):=by
 unfold mU
 split
 ·next h=>rw[h];rfl
 ·next h=>rw[jo (kA.2 h)];rfl
def LJ.used (l:LJ):Nat:=(wY l.s).length+(xb l.R).length
def Ju (T:JZ)(rs:List (List UInt8)):Int:=if mR T rs≠0 then mR T rs else bX (gB T rs)
def yM (T:JZ)(rs:List (List UInt8)):JZ:=if mR T rs≠0 then gB T rs else bW (gB T rs)
theorem sj (l:LJ){rs:List (List UInt8)}(h1:mS rs=0)(h2:rs≠[]):
  (l.room<l.used+(xb rs).length→Ju l.z rs=8∧yM l.z rs=l.z)∧
  (¬l.room<l.used+(xb rs).length→Ju l.z rs=0∧yM l.z rs=({l with R:=l.R++rs}:LJ).z):=by
 obtain ⟨p1,p2⟩:=jHp (room:=l.room) (n:=l.n) (k:=l.R.length) (s:=l.s) (lg:=mU l.R) h1 h2;rw[jCq] at p1 p2;unfold LJ.used;refine ⟨λh=> ?_,λh=> ?_⟩
 ·obtain ⟨q1,q2⟩:=p1 h
  unfold Ju yM;rw[q1,jb zd,jb zd];exact ⟨rfl,q2⟩
 ·obtain ⟨q1,q2⟩:=p2 h
  have hk:l.R.length+rs.length≠0:=by have:=kA.2 h2;omega
  obtain ⟨f1,f2⟩:=jGm (room:=l.room) (n:=l.n) (s:=l.s) (b:=xb l.R++xb rs) (f:=lgF (mU l.R)) hk;unfold Ju yM;rw[q1,ja zd,ja zd,q2,f1,f2];refine ⟨rfl,?_⟩;have hne:l.R++rs≠[]:=by simp[h2]
  show (⟨_,_,_,_⟩:JZ)=⟨dJ l.room l.n l.s (mU (l.R++rs)),l.n,(l.R++rs).length,false⟩
  unfold mU;rw[ja hne,si,show (l.R++rs).length=l.R.length+rs.length from jc]
theorem jFf (l:LJ)(s':List UInt8)(hn:l.n+1<100):
  (l.room<l.used+(wY s').length→J9 l.z s'=8∧yZ l.z s'=l.z)∧
  (¬l.room<l.used+(wY s').length→J9 l.z s'=0∧yZ l.z s'=(⟨l.room,l.n+1,s',[]⟩:LJ).z):=by
 unfold LJ.used;refine ⟨λh=> ?_,λh=> ?_⟩
 ·exact jF1 (l:= -1) (n:=l.n) (k:=l.R.length) (s:=l.s) (s':=s') (lg:=mU l.R) zd (by rw[jCq];exact h)
 ·exact jF0 (l:= -1) (n:=l.n) (k:=l.R.length) (s:=l.s) (s':=s') (lg:=mU l.R) hn (jFo _) zd zd zd zd (by rw[jCq];exact h)
theorem jHt (l:LJ)(hn:l.n<100)(hR:jCb l.R):yR l.d=0∧zn l.d=l.d∧gK l.d=l.n∧rP l.d=some l.s∧VW l.d=l.R:=by
 have h:(mU l.R=none∧l.R=[])∨∃f,f≤(xb l.R).length∧mU l.R=some (xb l.R,f):=by
  unfold mU
  split
  ·next h=>exact .inl ⟨rfl,h⟩
  ·exact .inr ⟨_,jz _,rfl⟩
 obtain ⟨o1,o2,o3,o4,o5⟩:=jF5 (room:=l.room) (n:=l.n) (s:=l.s) hn hR h;refine ⟨o1,?_,o3,o4,o5⟩;rw[o2]
 show dJ _ _ _ _=dJ _ _ _ _
 congr 1
 unfold mU
 split<;>rfl
theorem jEN (l:LJ){kf:List UInt8→Nat}(hk:∀u∈l.d.fs,u.2.2+kf u.1≤u.2.1.length):crD l.d kf=l.d:=by
 unfold crD;have:l.d.fs.map (λu=>(u.1,u.2.1.take (u.2.2+kf u.1),u.2.2+kf u.1))=l.d.fs:=by
  refine Eq.trans (List.map_congr_left (g:=id) λu hu=> ?_) (List.map_id _);have h1:=hk u hu;have h2:u.2.2=u.2.1.length:=by
   unfold LJ.d dJ mU at hu;dsimp only at hu
   rcases j9.1 hu with rfl|hu
   ·rfl
   ·split at hu
    ·cases hu
    ·next v hv=>
     split at hv
     ·cases hv
     ·cases hv
      rw[ji.1 hu]
  have h3:kf u.1=0:=by omega
  rw[h3,Nat.add_zero,h2,jI,←h2];rfl
 rw[this];rfl
def Qw (T:JZ)(s:List UInt8)(ps:List (List UInt8)):Int:=if Ju T ps≠8 then Ju T ps else if J9 (yM T ps) s≠0 then J9 (yM T ps) s else Ju (yZ (yM T ps) s) ps
def JW (T:JZ)(s:List UInt8)(ps:List (List UInt8)):JZ:=if Ju T ps≠8 then yM T ps else if J9 (yM T ps) s≠0 then yZ (yM T ps) s else yM (yZ (yM T ps) s) ps
structure jE3 (T:JZ):Prop where
 n:T.n<100
 k:T.k≤1000000
 f:T.d.fs.length≤15
structure jGO (T:JZ):Prop where
 n:T.n+1<100
 key:qm T.d.fs
 f:T.d.fs.length≤15
 no:¬we T.d (nm 99 (T.n+1))
 old:∀m∈VA T,we T.d m
structure jE0 (T:JZ)(s:List UInt8)(ps:List (List UInt8)):Prop where
 a:jE3 T
 b:Ju T ps=8→jGO (yM T ps)
 c:Ju T ps=8→J9 (yM T ps) s=0→jE3 (yZ (yM T ps) s)
theorem jB9 {room:Int}{n k:Nat}{s:List UInt8}{lg:Option (List UInt8×Nat)}(hk:lg.isSome=decide (0<k)):∀m∈VA ⟨dJ room n s lg,n,k,false⟩,we (dJ room n s lg) m:=by
 intro m hm;unfold VA at hm
 rcases j9.1 hm with rfl|hm
 ·unfold we;rw[jHB];simp
 ·split at hm
  ·next h0=>
   rw[ji.1 hm];unfold we;rw[n7];intro h;rw[h,jo h0] at hk;cases hk
  ·cases hm
theorem jEi {room:Int}{n:Nat}{s:List UInt8}{lg:Option (List UInt8×Nat)}(hn:n+1<100):¬we (dJ room n s lg) (nm 99 (n+1)):=λh=>h (wX (jIM hn s lg))
theorem LJ.fc (l:LJ)(hn:l.n<100)(hk:l.R.length≤1000000):jE3 l.z:=by
 refine ⟨hn,hk,?_⟩;exact ke (jCZ _ _ _ _) zd
theorem LJ.sv (l:LJ)(hn:l.n+1<100):jGO l.z:=⟨hn,jGw _ _ _ _,ke (jCZ _ _ _ _) zd,jEi hn,jB9 (jFo _)⟩
theorem jC0 {T:JZ}{s:List UInt8}{ps:List (List UInt8)}(h:Ju T ps≠8):Qw T s ps=Ju T ps∧JW T s ps=yM T ps:=⟨jb h,jb h⟩
theorem jFz {T:JZ}{s:List UInt8}{ps:List (List UInt8)}(h:Ju T ps=8)(h2:J9 (yM T ps) s≠0):Qw T s ps=J9 (yM T ps) s∧JW T s ps=yZ (yM T ps) s:=by
 unfold Qw JW;rw[ja (not_not_intro h),ja (not_not_intro h),jb h2,jb h2];exact ⟨rfl,rfl⟩
theorem jFA {T:JZ}{s:List UInt8}{ps:List (List UInt8)}(h:Ju T ps=8)(h2:J9 (yM T ps) s=0):Qw T s ps=Ju (yZ (yM T ps) s) ps∧JW T s ps=yM (yZ (yM T ps) s) ps:=by
 unfold Qw JW;rw[ja (not_not_intro h),ja (not_not_intro h),ja (not_not_intro h2),ja (not_not_intro h2)];exact ⟨rfl,rfl⟩
theorem jFL (l:LJ)(s:List UInt8){ps:List (List UInt8)}(h1:mS ps=0)(h2:ps≠[])(hn:l.n+1<100):
  ∃l':LJ,JW l.z s ps=l'.z∧l'.room=l.room∧((Qw l.z s ps=0∧(l'={l with R:=l.R++ps}∨l'=⟨l.room,l.n+1,s,ps⟩))∨(Qw l.z s ps=8∧(l'=l∨l'=⟨l.room,l.n+1,s,[]⟩))):=by
 obtain ⟨f1,f2⟩:=sj l h1 h2
 by_cases hc:l.room<l.used+(xb ps).length
 ·obtain ⟨e1,e2⟩:=f1 hc
  obtain ⟨s1,s2⟩:=jFf l s hn
  by_cases hs:l.room<l.used+(wY s).length
  ·obtain ⟨g1,g2⟩:=s1 hs
   obtain ⟨w1,w2⟩:=jFz (s:=s) e1 (by rw[e2,g1];decide);rw[w1,w2,e2,g1,g2];exact ⟨l,rfl,rfl,.inr ⟨rfl,.inl rfl⟩⟩
  ·obtain ⟨g1,g2⟩:=s2 hs
   obtain ⟨w1,w2⟩:=jFA (s:=s) e1 (by rw[e2,g1]);rw[w1,w2,e2,g2];obtain ⟨k1,k2⟩:=sj ⟨l.room,l.n+1,s,[]⟩ h1 h2
   by_cases hd:l.room<(⟨l.room,l.n+1,s,[]⟩:LJ).used+(xb ps).length
   ·obtain ⟨m1,m2⟩:=k1 hd
    exact ⟨⟨l.room,l.n+1,s,[]⟩,m2,rfl,.inr ⟨m1,.inr rfl⟩⟩
   ·obtain ⟨m1,m2⟩:=k2 hd
    exact ⟨⟨l.room,l.n+1,s,[]++ps⟩,m2,rfl,.inl ⟨m1,.inr (by rw[kO])⟩⟩
 ·obtain ⟨e1,e2⟩:=f2 hc
  obtain ⟨w1,w2⟩:=jC0 (s:=s) (by rw[e1];decide);rw[w1,w2,e1,e2];exact ⟨{l with R:=l.R++ps},rfl,rfl,.inl ⟨rfl,.inl rfl⟩⟩
theorem LJ.wr (l:LJ)(s:List UInt8){ps:List (List UInt8)}(h1:mS ps=0)(h2:ps≠[])(hn:l.n+1<100)(hk:l.R.length≤1000000):jE0 l.z s ps:=by
 have hz:Ju l.z ps=8→yM l.z ps=l.z:=λh=>by
  obtain ⟨f1,f2⟩:=sj l h1 h2
  by_cases hc:l.room<l.used+(xb ps).length
  ·exact (f1 hc).2
  ·rw[(f2 hc).1] at h;cases h
 refine ⟨l.fc zo hk,λh=> ?_,λh hs=> ?_⟩
 ·rw[hz h];exact l.sv hn
 ·rw[hz h] at hs ⊢
  obtain ⟨s1,s2⟩:=jFf l s hn
  by_cases hc:l.room<l.used+(wY s).length
  ·rw[(s1 hc).1] at hs;cases hs
  ·rw[(s2 hc).2];exact LJ.fc ⟨l.room,l.n+1,s,[]⟩ hn (jw _)
end Go.Proofs.YtlnfjhiphlfkjaaGreatDoor
namespace Go.SX
open Go
def ym (L:HL)(F:HL→Prop):Prop:=∀w G,St w (L++G)→∃L2,F L2∧St w (L2++G)
theorem ym.ent {L L':HL}{F:HL→Prop}(h:qi L L')(hk:ym L' F):ym L F:=λw G t=>hk w G (h w G t)
theorem ym.done {L:HL}{F:HL→Prop}(h:F L):ym L F:=λ_ _ t=>⟨L,h,t⟩
theorem ym.ex {α:Sort _}{X:α→HP}{L:HL}{F:HL→Prop}(h:∀x,ym (X x::L) F):ym (d9 X::L) F:=λw G t=>let ⟨x,t⟩:=St.open_ex t;h x w G t
theorem ym.pure {φ:Prop}{L:HL}{F:HL→Prop}(h:φ→ym L F):ym (wT φ::L) F:=λw G t=>let ⟨x,t⟩:=St.open_pure t;h x w G t
theorem ym.abs (a:OA){t sz m c:Nat}{cs:List Value}{M:OM}{L L0 L1:HL}{F:HL→Prop}[h:KU a L t sz m c cs L0][h1:xw L0 M L1](hk:∀M',qV M M'→qI M' a m sz cs→ym (qp M'::L1) F):ym L F:=
 ym.ent h.ent (ym.ent qi.absorb (ym.ex λM'=>ym.ent qi.open_all (ym.pure λh=>hk M' h.1 h.2)))
theorem qh.post {P:Program}{g:FuncId}{args:List Value}{L:HL}{R R':Value→HL→Prop}(h:qh P g args L R)(hR:∀v L1,R v L1→ym L1 (R' v)):qh P g args L R':=by
 intro F w t;refine (h F w t).mono ?_;rintro e w' ⟨v,M,rfl,t',r⟩;obtain ⟨L2,h1,h2⟩:=hR v M r w' F t';exact ⟨v,L2,rfl,h2,h1⟩
end Go.SX
namespace Go.Proofs.YtlnfjhiphlfkjaaGreatDoor
open Go Go.SX
attribute [local irreducible] swp qq qL qJ vZ qh St qi qk vu qH
structure PG where
 rec_:List NA
 notes:List NA
 mail:List (Int×NA)
 inst:List NA
 els:List (Int×NA)
def PG.none :PG:=⟨[],[],[],[],[]⟩
def fW (j:JG)(fr:Int)(n:NA):PG:=
 match qE j.tr n.txn with
 |none=>PG.none
 |some t=>
  if 0<t.stamp∨fr∉t.parts then PG.none
  else if n.code≠0 then ⟨[],[wK t.txn],zY t 0 n.code,[],[]⟩
  else if fr∈t.yes then PG.none
  else if t.yes.length+1≠t.parts.length then ⟨[],[{NA.zero with kind:=20,txn:=n.txn,who:=fr}],[],[],[]⟩
  else ⟨[{NA.zero with kind:=17,txn:=t.txn,batch:=t.batch,stamp:=j.last+1,parts:=t.parts}],[],zY t (j.last+1) 0,[wK t.txn],zY t 0 8⟩
def jGL (j:JG)(fr:Int)(n:NA):PG:=
 match qE j.tr n.txn with
 |none=>PG.none
 |some t=>
  if t.stamp=0∨fr∉t.parts∨fr∈t.acked then PG.none
  else if t.acked.length+1≠t.parts.length then ⟨[],[{NA.zero with kind:=21,txn:=n.txn,who:=fr}],[],[],[]⟩
  else ⟨[{NA.zero with kind:=18,txn:=n.txn}],[],[],[],[]⟩
def nS (j:JG)(fr:Int)(n:NA):PG:=
 match qE j.tr n.txn with
 |none=>⟨[],[],[Qu fr n.txn 0 6],[],[]⟩
 |some t=>if t.stamp=0 then PG.none else ⟨[],[],[Qu fr n.txn t.stamp 0],[],[]⟩
def zp (M:OM)(a:OA)(xs:List NV):Prop:=qI M a xs.length 16 (xs.flatMap NV.cells)∧∀n∈xs,xN M n
def KI (M:OM)(a:OA)(xs:List (Int×NV)):Prop:=qI M a xs.length 17 (xs.flatMap vA)∧∀n∈xs,xN M n.2
theorem zp.mono {M M':OM}{a:OA}{xs:List NV}(h:zp M a xs)(hl:qV M M'):zp M' a xs:=⟨h.1.mono hl,λn hn=>(h.2 n hn).mono hl⟩
theorem KI.mono {M M':OM}{a:OA}{xs:List (Int×NV)}(h:KI M a xs)(hl:qV M M'):KI M' a xs:=⟨h.1.mono hl,λn hn=>(h.2 n hn).mono hl⟩
theorem zp.nil {M:OM}{a:OA}:zp M a []:=⟨qI.nil0,λ_ h=>by cases h⟩
theorem KI.nil {M:OM}{a:OA}:KI M a []:=⟨qI.nil0,λ_ h=>by cases h⟩
theorem KI.nv {M:OM}{a:OA}{l:List (Int×NA)}(h:qI M a l.length 17 (l.flatMap zJ)):KI M a (l.map λm=>(m.1,m.2.nv)):=by
 refine ⟨by rw[jf,List.flatMap_map];exact h,λn hn=> ?_⟩;obtain ⟨u,_,rfl⟩:=jM.1 hn;exact xN.nv u.2
theorem zp.nv {M:OM}{a:OA}{l:List NA}(h:qI M a l.length 16 (l.flatMap λr=>r.nv.cells)):zp M a (l.map NA.nv):=by
 refine ⟨by rw[jf,List.flatMap_map];exact h,λn hn=> ?_⟩;obtain ⟨u,_,rfl⟩:=jM.1 hn;exact xN.nv u
def Jc (M:OM)(p:Nat)(j:JG)(pl:PG)(L:HL)(r:Value)(L':HL):Prop:=∃(a1:OA) (c1:Nat) (rs:List NV) (a2:OA) (c2:Nat) (ns:List NV) (a3:OA) (c3:Nat) (ms:List (Int×NV)) (a4:OA) (c4:Nat) (is:List NV) (a5:OA) (c5:Nat) (es:List (Int×NV)) (M':OM),
 r=.agg #[.slice a1 rs.length c1,.slice a2 ns.length c2,.slice a3 ms.length c3,.slice a4 is.length c4,.slice a5 es.length c5]∧qV M M'∧
 (zp M' a1 rs∧zp M' a2 ns∧KI M' a3 ms∧zp M' a4 is∧KI M' a5 es)∧
 (rs.map NV.abs=pl.rec_∧ns.map NV.abs=pl.notes∧ms.map (λm=>(m.1,m.2.abs))=pl.mail∧is.map NV.abs=pl.inst∧es.map (λm=>(m.1,m.2.abs))=pl.els)∧
 L'=qD M' p j::qp M'::L
def wG (M:OM)(p:Nat)(j:JG)(pl:PG)(L:HL)(r:Value)(L':HL):Prop:=∃(a1:OA) (c1:Nat) (rs:List NV) (a2:OA) (c2:Nat) (ns:List NV) (a3:OA) (c3:Nat) (ms:List (Int×NV)) (a4:OA) (c4:Nat) (is:List NV) (a5:OA) (c5:Nat) (es:List (Int×NV)) (M':OM),
 r=.agg #[.slice a1 rs.length c1,.slice a2 ns.length c2,.slice a3 ms.length c3,.slice a4 is.length c4,.slice a5 es.length c5]∧qV M M'∧
 ((∀n∈rs,xN M' n)∧(∀n∈ns,xN M' n)∧(∀n∈ms,xN M' n.2)∧(∀n∈is,xN M' n)∧∀n∈es,xN M' n.2)∧
 (rs.map NV.abs=pl.rec_∧ns.map NV.abs=pl.notes∧ms.map (λm=>(m.1,m.2.abs))=pl.mail∧is.map NV.abs=pl.inst∧es.map (λm=>(m.1,m.2.abs))=pl.els)∧
 L'=slO 82 16 a1 rs.length c1 (rs.flatMap NV.cells)::slO 82 16 a2 ns.length c2 (ns.flatMap NV.cells)::slO 176 17 a3 ms.length c3 (ms.flatMap vA)::slO 82 16 a4 is.length c4 (is.flatMap NV.cells)::slO 176 17 a5 es.length c5 (es.flatMap vA)::qD M' p j::qp M'::L
theorem Jc.of0 {M:OM}{p:Nat}{j:JG}{pl:PG}{L:HL}{r:Value}{L':HL}(h:wG M p j pl L r L'):ym L' (Jc M p j pl L r):=by
 obtain ⟨a1,c1,rs,a2,c2,ns,a3,c3,ms,a4,c4,is,a5,c5,es,M0,rfl,hl,⟨o1,o2,o3,o4,o5⟩,ab,rfl⟩:=h;refine ym.abs a1 (λM1 l1 s1=> ?_);refine ym.abs a2 (λM2 l2 s2=> ?_);refine ym.abs a3 (λM3 l3 s3=> ?_);refine ym.abs a4 (λM4 l4 s4=> ?_);refine ym.abs a5 (λM5 l5 s5=> ?_);have l45:=l5;have l35:=l4.trans l45;have l25:=l3.trans l35;have l15:=l2.trans l25;have l05:=l1.trans l15;refine ym.ent (qi.trans (M:=qD M0 p j::qp M5::L) eG (YZ l05)) (ym.done ?_);exact ⟨a1,c1,rs,a2,c2,ns,a3,c3,ms,a4,c4,is,a5,c5,es,M5,rfl,hl.trans l05,⟨⟨s1.mono l15,λn hn=>(o1 n hn).mono l05⟩,⟨s2.mono l25,λn hn=>(o2 n hn).mono l05⟩,⟨s3.mono l35,λn hn=>(o3 n hn).mono l05⟩,⟨s4.mono l45,λn hn=>(o4 n hn).mono l05⟩,⟨s5,λn hn=>(o5 n hn).mono l05⟩⟩,ab,rfl⟩
theorem jEe {l:List (Int×NA)}(h:∀m∈l,m.2.nv.abs=m.2):(l.map λm=>(m.1,m.2.nv)).map (λm:Int×NV=>(m.1,m.2.abs))=l:=by
 rw[kE];refine (List.map_congr_left λm hm=> ?_).trans (List.map_id l)
 show (m.1,m.2.nv.abs)=m
 rw[h m hm]
theorem tq (t:TR)(s c:Int):∀m∈zY t s c,m.2.nv.abs=m.2:=by
 intro m hm;unfold zY at hm
 rcases jy.1 hm with h|h
 ·obtain ⟨q,_,rfl⟩:=jM.1 h;rfl
 ·rw[ji] at h;subst h;rfl
theorem tk (t:TR)(s c:Int):(zY t s c).length=t.parts.length+1:=by
 unfold zY;rw[jc,jf];rfl
theorem Jc.none (M:OM)(p:Nat)(j:JG)(L:HL):Jc M p j PG.none L (.agg #[.slice none 0 0,.slice none 0 0,.slice none 0 0,.slice none 0 0,.slice none 0 0]) (qD M p j::qp M::L):=
 ⟨Option.none,0,[],Option.none,0,[],Option.none,0,[],Option.none,0,[],Option.none,0,[],M,rfl,qV.refl M,⟨zp.nil,zp.nil,KI.nil,zp.nil,KI.nil⟩,⟨rfl,rfl,rfl,rfl,rfl⟩,rfl⟩
theorem wG.none (M:OM)(p:Nat)(j:JG)(L:HL):wG M p j PG.none L (.agg #[.slice none 0 0,.slice none 0 0,.slice none 0 0,.slice none 0 0,.slice none 0 0]) (slO 82 16 Option.none 0 0 []::slO 82 16 Option.none 0 0 []::slO 176 17 Option.none 0 0 []::slO 82 16 Option.none 0 0 []::slO 176 17 Option.none 0 0 []::qD M p j::qp M::L):=
 ⟨Option.none,0,[],Option.none,0,[],Option.none,0,[],Option.none,0,[],Option.none,0,[],M,rfl,qV.refl M,⟨λ_ h=>(by cases h),λ_ h=>(by cases h),λ_ h=>(by cases h),λ_ h=>(by cases h),λ_ h=>(by cases h)⟩,⟨rfl,rfl,rfl,rfl,rfl⟩,rfl⟩
theorem dK {L:HL}:qi L (slO 82 16 none 0 0 []::slO 82 16 none 0 0 []::slO 176 17 none 0 0 []::slO 82 16 none 0 0 []::slO 176 17 none 0 0 []::L):=by exact eG
section
variable {n : Nat} {ops rest : List Oper} {cd : Code} {Q : vm} {f : vL} {L L0 : HL}
theorem yI {ts:List TB}[hp:xp (qF ts) L L0]{k:Nat}{u:TB}(h:ts[k]? =some u)(hk:qq kY n ops rest Q f (vk u.2::qF (ts.eraseIdx k)::L0)):qq kY n ops rest Q f L:=qo (hp.ent.trans (cX h)) hk
theorem QM {ts:List TB}[hp:xp (qF ts) L L0]{k:Nat}{u:TB}(h:ts[k]? =some u)(hk:swp kY n cd Q f (vk u.2::qF (ts.eraseIdx k)::L0)):swp kY n cd Q f L:=vh (hp.ent.trans (cX h)) hk
end
theorem zX {ts:List TB}{k:Nat}{u:TB}(h:ts[k]? =some u){L:HL}:qi (vk u.2::qF (ts.eraseIdx k)::L) (qF ts::L):=by
 have hk:k<ts.length:=(jm.1 h).1;have hu:ts[k]=u:=(jm.1 h).2;have:=ny hk u (L:=L);rw[←hu,List.set_getElem_self] at this;rw[←hu];exact this
theorem Y2 {p mt md:Nat}{M:OM}{j:JG}{ts:List TB}{L L0 L1 L2 L3:HL}[h1:xp (gP p j mt md) L L0][h2:xp (gT mt ts) L0 L1][h3:xp (qF ts) L1 L2][h4:xp (gD md j.done) L2 L3](hq:Vo M j ts):qi L (qD M p j::L3):=
 qi.trans h1.ent (qi.trans (qi.cons (qi.trans h2.ent (qi.cons (qi.trans h3.ent (qi.cons h4.ent))))) (qS hq))
theorem jEx {p mt md:Nat}{M:OM}{j:JG}{ts:List TB}{k:Nat}{u:TB}{L L0 L1 L2 L3 L4:HL}[h1:xp (gP p j mt md) L L0][h2:xp (gT mt ts) L0 L1][h3:xp (vk u.2) L1 L2][h3':xp (qF (ts.eraseIdx k)) L2 L3][h4:xp (gD md j.done) L3 L4](hk:ts[k]? =some u)(hq:Vo M j ts):qi L (qD M p j::L4):=
 qi.trans h1.ent (qi.trans (qi.cons (qi.trans h2.ent (qi.cons (qi.trans (qi.trans h3.ent (qi.trans (qi.cons h3'.ent) (zX hk))) (qi.cons h4.ent))))) (qS hq))
theorem vt {p mt md:Nat}{M:OM}{j:JG}{ts:List TB}{k:Nat}{u:TB}{L:HL}(hk:ts[k]? =some u)(hq:Vo M j ts):qi (gP p j mt md::gT mt ts::vk u.2::qF (ts.eraseIdx k)::gD md j.done::L) (qD M p j::L):=
 qi.trans (qi.cons (qi.cons (zX hk))) (qS hq)
theorem Xk {ts:List TB}{tr:List (Int×TR)}(h:ts.map (λu=>(u.1,u.2.2.abs))=tr)(x:Int):qE tr x=(qE ts x).map λu=>u.2.abs:=by
 subst h;unfold qE;rw[List.find?_map]
 show ((ts.find? λp=>decide (p.1=x)).map λu=>(u.1,u.2.2.abs)).map (·.2)=_
 cases ts.find? λp=>decide (p.1=x)<;>rfl
theorem VB {ts:List TB}{x:Int}{u:Nat×TV}(h:qE (α:=Nat×TV) ts x=some u):∃k:Nat,ts[k]? =some ((x,u):TB):=by
 unfold qE at h
 cases hf:ts.find? λp=>decide (p.1=x) with
 |none=>rw[hf] at h;cases h
 |some w=>
  rw[hf] at h
  cases h
  have h1:=List.find?_some hf;have h2:=List.mem_of_find?_eq_some hf;obtain ⟨k,hk⟩:=List.mem_iff_getElem?.1 h2;refine ⟨k,?_⟩;rw[hk,←kV h1]
theorem mH (n:NV)(M:OM)(p:Nat)(j:JG)(fr:Int)(L:HL):
  qh kY 102 [vQ p,.int .i64 fr,n.val] (qD M p j::qp M::L) (Jc M p j (nS j fr n.abs) L):=by
 unfold nS;refine wD λmt md ts hq=> ?_
 refine qg Tryz.func102 rfl rfl rfl ?_;refine Q.r ?_;(repeat (intro b1;refine Q.r ?_));rename_i b5;revert b1;intro b6;refine Q.dgo [true,true,true,true,true,true,true] [] [] [0,1,2,3,4,5,6,7] ?_;refine Q.rd ?_;refine D.y rfl rfl rfl zk (Y.lk false rfl rfl (λw=>Tryz.zeroValue148 w)) ?_;rw[Xk hq.tr n.txn]
 cases hz:qE (α:=Nat×TV) ts n.txn with
 |none=>
  dsimp only[Option.map_none];refine Q.rd ?_;refine Q.r ?_;(repeat (intro b1;refine Q.r ?_));refine qo (vg (sz:=1) (m:=1) rfl) ?_;refine qR (some ⟨b1,0,none⟩) (λM1 hl1 hs1=> ?_);refine S.cr rfl (zS n.txn 0 6 (some ⟨b1,0,none⟩) 1 [fr] _ (qI.rd (cs:=[I64 fr]) hs1) (Nat.le_of_ble_eq_true rfl)) ?_;rintro _ _ ⟨a1,c1,rfl,rfl⟩;refine qR a1 (λM2 hl2 hs2=> ?_);refine Q.r ?_;refine N.r1 RV.c (qi.trans (M:=gP p j mt md::gT mt ts::qF ts::gD md j.done::qp M2::L) eG (qS (hq.mono (hl1.trans hl2)))) ⟨none,0,[],none,0,[],a1,c1,[(fr,(Qu fr n.txn 0 6).2.nv)],none,0,[],none,0,[],M2,rfl,hl1.trans hl2,⟨zp.nil,zp.nil,KI.nv (l:=[Qu fr n.txn 0 6]) hs2,zp.nil,KI.nil⟩,⟨rfl,rfl,rfl,rfl,rfl⟩,rfl⟩
 |some u=>
  obtain ⟨k,hk⟩:=VB hz;dsimp only[Option.map_some];refine Q.rd ?_;refine Q.r ?_;refine yI hk ?_
  by_cases hs:u.2.stamp=0
  ·rw[jb hs]
   refine Q.r ?_;exact N.r1 RV.c (qi.trans (M:=gP p j mt md::gT mt ts::vk u::qF (ts.eraseIdx k)::gD md j.done::qp M::L) eG (vt hk hq)) (Jc.none M p j L)
  ·rw[ja hs]
   refine Q.r ?_;refine Q.dgo [true,false,false,true] [8,9,11] [] [0,1,2,3,4,5,6,7,8,9,10,11] ?_;refine Q.rd ?_;(repeat (intro b1;refine Q.rd ?_));refine D.e rfl rfl rfl ?_;refine qo (vg (sz:=1) (m:=1) rfl) ?_;refine qR (some ⟨b1,0,none⟩) (λM1 hl1 hs1=> ?_);refine S.cr rfl (zS n.txn u.2.stamp 0 (some ⟨b1,0,none⟩) 1 [fr] _ (qI.rd (cs:=[I64 fr]) hs1) (Nat.le_of_ble_eq_true rfl)) ?_;rintro _ _ ⟨a1,c1,rfl,rfl⟩;refine qR a1 (λM2 hl2 hs2=> ?_);refine Q.r ?_;refine Q.rd ?_;refine Q.r ?_;refine N.r1 RV.c (qi.trans (M:=gP p j mt md::gT mt ts::vk u::qF (ts.eraseIdx k)::gD md j.done::qp M2::L) eG (vt hk (hq.mono (hl1.trans hl2)))) ⟨none,0,[],none,0,[],a1,c1,[(fr,(Qu fr n.txn u.2.stamp 0).2.nv)],none,0,[],none,0,[],M2,rfl,hl1.trans hl2,⟨zp.nil,zp.nil,KI.nv (l:=[Qu fr n.txn u.2.stamp 0]) hs2,zp.nil,KI.nil⟩,⟨rfl,rfl,rfl,rfl,rfl⟩,rfl⟩
theorem jA6 (n:NV)(M:OM)(p:Nat)(j:JG)(fr:Int)(L:HL):
  qh kY 101 [vQ p,.int .i64 fr,n.val] (qD M p j::qp M::L) (wG M p j (jGL j fr n.abs) L):=by
 unfold jGL;refine wD λmt md ts hq=> ?_
 refine qg Tryz.func101 rfl rfl rfl ?_;refine Q.r ?_;(repeat (intro b1;refine Q.r ?_));rename_i b5;revert b1;intro b6;refine Q.dgo [true,true,true,true,true,true,true] [] [] [0,1,2,3,4,5,6,7] ?_;refine Q.rd ?_;refine D.y rfl rfl rfl zk (Y.lk false rfl rfl (λw=>Tryz.zeroValue148 w)) ?_;rw[Xk hq.tr n.txn]
 cases hz:qE (α:=Nat×TV) ts n.txn with
 |none=>
  dsimp only[Option.map_none];refine Q.rd ?_;refine Q.r ?_;exact N.r1 RV.c (qi.trans (qi.trans (M:=gP p j mt md::gT mt ts::qF ts::gD md j.done::qp M::L) eG (qS hq)) dK) (wG.none M p j L)
 |some u=>
  obtain ⟨k,hk⟩:=VB hz;have hu:bI M u.2:=hq.ok _ (jn hk);have hpl:=hu.pl;have hkl:=hu.kl;dsimp only[Option.map_some];refine Q.rd ?_;refine Q.r ?_;refine yI hk ?_
  by_cases hs:u.2.stamp=0
  ·rw[jb (.inl hs)]
   refine Q.r ?_;exact N.r1 RV.c (qi.trans (qi.trans (M:=gP p j mt md::gT mt ts::vk u::qF (ts.eraseIdx k)::gD md j.done::qp M::L) eG (vt hk hq)) dK) (wG.none M p j L)
  refine Q.r ?_;refine S.cr rfl (qP u.2.pa u.2.pc u.2.parts fr _ hu.p.rd hpl) ?_;rintro _ _ ⟨rfl,rfl⟩
  by_cases hc:fr∈u.2.parts
  case neg=>
   rw[jb (.inr (.inl hc)),jv hc];refine Q.r ?_;exact N.r1 RV.c (qi.trans (qi.trans (M:=gP p j mt md::gT mt ts::vk u::qF (ts.eraseIdx k)::gD md j.done::qp M::L) eG (vt hk hq)) dK) (wG.none M p j L)
  rw[jo hc];refine Q.r ?_;refine S.cr rfl (qP u.2.ka u.2.kc u.2.acked fr _ hu.k.rd hkl) ?_;rintro _ _ ⟨rfl,rfl⟩
  by_cases hd:fr∈u.2.acked
  ·rw[jb (.inr (.inr hd)),jo hd]
   refine Q.r ?_;exact N.r1 RV.c (qi.trans (qi.trans (M:=gP p j mt md::gT mt ts::vk u::qF (ts.eraseIdx k)::gD md j.done::qp M::L) eG (vt hk hq)) dK) (wG.none M p j L)
  rw[jv hd,ja (show ¬(u.2.abs.stamp=0∨fr∉u.2.abs.parts∨fr∈u.2.abs.acked) from λh=>h.elim hs (λh=>h.elim (λh=>h hc) hd))];refine Q.r ?_;refine S.cr rfl (Wr u u.2.ka u.2.acked.length u.2.kc _ hkl hpl) ?_;rintro _ _ ⟨rfl,rfl⟩
  by_cases hl:u.2.acked.length+1=u.2.parts.length
  ·rw[ja (λh=>h hl),jo hl]
   refine Q.r ?_;(repeat (intro b1;refine Q.r ?_));refine N.r1 RV.c (qi.trans (M:=pt b1 (cl (NA.nv {NA.zero with kind:=18,txn:=n.txn}).cells 82)::gP p j mt md::gT mt ts::vk u::qF (ts.eraseIdx k)::gD md j.done::qp M::L) eG (qi.trans (qi.cons (vt hk hq)) (qi.trans (vg (sz:=16) (m:=1) rfl) ?_))) ⟨some ⟨b1,0,none⟩,1,[NA.nv {NA.zero with kind:=18,txn:=n.txn}],none,0,[],none,0,[],none,0,[],none,0,[],M,rfl,qV.refl M,⟨λm hm=>by rw[ji.1 hm];exact xN.nv _,λ_ h=>(by cases h),λ_ h=>(by cases h),λ_ h=>(by cases h),λ_ h=>(by cases h)⟩,⟨rfl,rfl,rfl,rfl,rfl⟩,rfl⟩
   show qi _ (slO 82 16 (some ⟨b1,0,none⟩) 1 1 (NA.nv {NA.zero with kind:=18,txn:=n.txn}).cells::slO 82 16 none 0 0 []::slO 176 17 none 0 0 []::slO 82 16 none 0 0 []::slO 176 17 none 0 0 []::qD M p j::qp M::L)
   exact eG
  ·rw[jb hl,jv hl]
   refine Q.r ?_;(repeat (intro b1;refine Q.r ?_));refine N.r1 RV.c (qi.trans (M:=pt b1 (cl (NA.nv {NA.zero with kind:=21,txn:=n.txn,who:=fr}).cells 82)::gP p j mt md::gT mt ts::vk u::qF (ts.eraseIdx k)::gD md j.done::qp M::L) eG (qi.trans (qi.cons (vt hk hq)) (qi.trans (vg (sz:=16) (m:=1) rfl) ?_))) ⟨none,0,[],some ⟨b1,0,none⟩,1,[NA.nv {NA.zero with kind:=21,txn:=n.txn,who:=fr}],none,0,[],none,0,[],none,0,[],M,rfl,qV.refl M,⟨λ_ h=>(by cases h),λm hm=>by rw[ji.1 hm];exact xN.nv _,λ_ h=>(by cases h),λ_ h=>(by cases h),λ_ h=>(by cases h)⟩,⟨rfl,rfl,rfl,rfl,rfl⟩,rfl⟩
   show qi _ (slO 82 16 none 0 0 []::slO 82 16 (some ⟨b1,0,none⟩) 1 1 (NA.nv {NA.zero with kind:=21,txn:=n.txn,who:=fr}).cells::slO 176 17 none 0 0 []::slO 82 16 none 0 0 []::slO 176 17 none 0 0 []::qD M p j::qp M::L)
   exact eG
end Go.Proofs.YtlnfjhiphlfkjaaGreatDoor
namespace Go.Proofs.YtlnfjhiphlfkjaaGreatDoor
open Go Go.SX
abbrev v8 (s id:Int):Int:=Vj s id+1
def y8 (l:List Int)(n:Int):List Int:=l.takeWhile (λx=>decide (x<n))++n::l.dropWhile (λx=>decide (x<n))
def xF (s:Int)(ops:VL):List Int:=ops.foldl (λl o=>if v8 s o.1∈l then l else y8 l (v8 s o.1)) []
def XV (j:JG)(n:NA):Int:=if vP j.dim n.ops≠0 then vP j.dim n.ops else if 8≤j.tr.length∨1048575≤j.seq∨1099511627776≤j.last then 8 else 0
abbrev gU (j:JG)(fr:Int)(n:NA):TR:=⟨j.epoch*1048576+j.seq+1,n.batch,0,j.last,fr,xF j.shards n.ops,[],[],n.ops⟩
abbrev vY (t:TR):NA:={NA.zero with kind:=19,txn:=t.txn,batch:=t.batch,after:=t.after,who:=t.who,parts:=t.parts,ops:=t.ops}
abbrev Xg (s:Int)(t:TR)(q:Int):Int×NA:=(q,{NA.zero with kind:=3,txn:=t.txn,after:=t.after,parts:=t.parts,ops:=t.ops.filter λo=>decide (v8 s o.1=q)})
def jAJ (j:JG)(fr:Int)(n:NA):PG:=
 match qE j.done n.batch with
 |some s=>⟨[],[],[YA fr n.batch s 0],[],[]⟩
 |none=>
  if j.tr.any (λu=>decide (u.2.batch=n.batch))=true then PG.none
  else if XV j n≠0 then ⟨[],[],[YA fr n.batch 0 (XV j n)],[],[]⟩
  else ⟨[],[vY (gU j fr n)],(gU j fr n).parts.map (Xg j.shards (gU j fr n)),[],[]⟩
def w8 (j:JG)(fr:Int)(n:NA):PG:=
 if qn n=false∨fr<0∨16≤fr then PG.none
 else if n.kind=1 then jAJ j fr n
 else if n.kind=4 then fW j fr n
 else if n.kind=6 then jGL j fr n
 else if n.kind=7 then nS j fr n
 else PG.none
abbrev jAz (n:NA):TR:=⟨n.txn,n.batch,0,0,0,n.parts,[],[],[]⟩
abbrev fq (n:NA):TR:=⟨n.txn,n.batch,0,n.after,n.who,n.parts,[],[],n.ops⟩
def yT (t:TR)(n:NA):Int:=
 if decide (0<t.stamp)≠decide (n.kind=21) then 10
 else if n.who∉t.parts∨n.who∈(if n.kind=21 then t.acked else t.yes) then 1 else 0
def xX (t:TR)(n:NA):TR:=if n.kind=21 then {t with acked:=y8 t.acked n.who} else {t with yes:=y8 t.yes n.who}
def py (j:JG)(n:NA):Int:=if n.stamp=0 then 1 else match qE j.tr n.txn with
 |some t=>if 0<t.stamp then 10 else 0
 |none=>0
def qW (j:JG)(n:NA):Int:=
 if qn n=false then 4
 else if n.kind=16 then if n.mark≤j.epoch then 1 else 0
 else if n.kind=19 then if (qE j.tr n.txn).isSome then 7 else 0
 else if n.kind=17 then py j n
 else if n.kind=20∨n.kind=21∨n.kind=18∨n.kind=22 then match qE j.tr n.txn with
  |none=>6
  |some t=>if n.kind=20∨n.kind=21 then yT t n else if decide (0<t.stamp)≠decide (n.kind=18) then 10 else 0
 else 4
def ve (j:JG)(n:NA):JG:=
 if qW j n≠0 then j
 else if n.kind=16 then {j with epoch:=n.mark,seq:=0,tr:=j.tr.filter λu=> !decide (u.2.stamp=0)}
 else if n.kind=19 then {j with tr:=qN j.tr n.txn (fq n),seq:=if n.txn / 1048576=j.epoch then max j.seq (n.txn % 1048576) else j.seq}
 else if n.kind=17 then
  {j with tr:=qN j.tr n.txn {(qE j.tr n.txn).getD (jAz n) with stamp:=n.stamp},done:=qN j.done ((qE j.tr n.txn).getD (jAz n)).batch n.stamp,last:=max j.last n.stamp}
 else if n.kind=20∨n.kind=21 then match qE j.tr n.txn with
  |some t=>{j with tr:=qN j.tr n.txn (xX t n)}
  |none=>j
 else {j with tr:=qO j.tr n.txn}
theorem fu {j:JG}{n:NA}(hr:qn n=true)(hk:n.kind=16):qW j n=if n.mark≤j.epoch then 1 else 0:=by
 unfold qW;rw[ja (by rw[hr];decide),hk,jb rfl]
theorem ft {j:JG}{n:NA}(hr:qn n=true)(hk:n.kind=19):qW j n=if (qE j.tr n.txn).isSome then 7 else 0:=by
 unfold qW;rw[ja (by rw[hr];decide),hk,ja zd,jb rfl]
theorem Wm {j:JG}{n:NA}(hr:qn n=true)(hk:n.kind=17):qW j n=py j n:=by
 unfold qW;rw[ja (by rw[hr];decide),hk,ja zd,ja zd,jb rfl]
theorem WS {j:JG}{n:NA}(hr:qn n=true)(hk:n.kind=20∨n.kind=21):qW j n=match qE j.tr n.txn with
  |none=>6
  |some t=>yT t n:=by
 unfold qW;rw[ja (by rw[hr];decide),ja zo,ja zo,ja zo,jb zo]
 cases qE j.tr n.txn with
 |none=>rfl
 |some t=>dsimp only;rw[jb hk]
theorem jDq {j:JG}{n:NA}(hr:qn n=true)(hk:n.kind=18∨n.kind=22):qW j n=match qE j.tr n.txn with
  |none=>6
  |some t=>if decide (0<t.stamp)≠decide (n.kind=18) then 10 else 0:=by
 unfold qW;rw[ja (by rw[hr];decide),ja zo,ja zo,ja zo,jb zo]
 cases qE j.tr n.txn with
 |none=>rfl
 |some t=>dsimp only;rw[ja zo]
theorem WV {j:JG}{n:NA}(h:qW j n=0)(hk:n.kind=16):ve j n={j with epoch:=n.mark,seq:=0,tr:=j.tr.filter λu=> !decide (u.2.stamp=0)}:=by
 unfold ve;rw[ja (by rw[h];decide),jb hk]
theorem WU {j:JG}{n:NA}(h:qW j n=0)(hk:n.kind=19):ve j n={j with tr:=qN j.tr n.txn (fq n),seq:=if n.txn / 1048576=j.epoch then max j.seq (n.txn % 1048576) else j.seq}:=by
 unfold ve;rw[ja (by rw[h];decide),ja zo,jb hk]
theorem J3 {j:JG}{n:NA}(h:qW j n=0)(hk:n.kind=17):ve j n={j with tr:=qN j.tr n.txn {(qE j.tr n.txn).getD (jAz n) with stamp:=n.stamp},done:=qN j.done ((qE j.tr n.txn).getD (jAz n)).batch n.stamp,last:=max j.last n.stamp}:=by
 unfold ve;rw[ja (by rw[h];decide),ja zo,ja zo,jb hk]
theorem cF {j:JG}{n:NA}(h:qW j n=0)(hk:n.kind=20∨n.kind=21){t:TR}(ht:qE j.tr n.txn=some t):ve j n={j with tr:=qN j.tr n.txn (xX t n)}:=by
 unfold ve;rw[ja (by rw[h];decide),ja zo,ja zo,ja zo,jb hk,ht]
theorem Xr {j:JG}{n:NA}(h:qW j n=0)(hk:n.kind=18∨n.kind=22):ve j n={j with tr:=qO j.tr n.txn}:=by
 unfold ve;rw[ja (by rw[h];decide),ja zo,ja zo,ja zo,ja zo]
theorem xo {j:JG}{n:NA}(h:qW j n≠0):ve j n=j:=by unfold ve;rw[jb h]
theorem V7 {l:List Int}{n x:Int}:x∈y8 l n↔x=n∨x∈l:=by
 unfold y8;rw[jy,j9]
 constructor
 ·rintro (h|h|h)
  ·exact .inr ((List.takeWhile_sublist _).subset h)
  ·exact .inl h
  ·exact .inr ((List.dropWhile_sublist _).subset h)
 ·rintro (h|h)
  ·exact .inr (.inl h)
  ·rw[←List.takeWhile_append_dropWhile (p:=λx=>decide (x<n)) (l:=l)] at h
   rcases jy.1 h with h|h
   ·exact .inl h
   ·exact .inr (.inr h)
theorem Kb {l:List Int}{n:Int}:(y8 l n).length=l.length+1:=by
 unfold y8;have:=jj List.length (List.takeWhile_append_dropWhile (p:=λx=>decide (x<n)) (l:=l));rw[jc] at this;rw[jc,jC];omega
abbrev Jn (l:List Int):Prop:=l.Pairwise (· < ·)
theorem WC {l:List Int}{n:Int}(h:Jn l)(hn:n∉l):Jn (y8 l n):=by
 unfold y8
 induction l with
 |nil=>simp[Jn]
 |cons a l ih=>
  have ha:=kH.1 h;have hne:n≠a∧n∉l:=by simpa using hn
  by_cases hx:a<n
  ·rw[List.takeWhile_cons_of_pos (by simpa using hx),List.dropWhile_cons_of_pos (by simpa using hx),List.cons_append]
   refine kH.2 ⟨λy hy=> ?_,ih ha.2 hne.2⟩
   rcases V7.1 (show y∈y8 l n from hy) with rfl|hy
   ·exact hx
   ·exact ha.1 y hy
  ·rw[List.takeWhile_cons_of_neg (by simpa using hx),List.dropWhile_cons_of_neg (by simpa using hx),kO]
   refine kH.2 ⟨λy hy=> ?_,h⟩
   rcases j9.1 hy with rfl|hy
   ·omega
   ·have:=ha.1 y hy;omega
theorem Yy {l:List Int}(h:Jn l):l.Nodup:=List.Pairwise.imp (λh=>by omega) h
theorem QP {s:Int}(h1:1≤s)(ops:VL):Jn (xF s ops)∧∀x∈xF s ops,1≤x∧x≤s:=by
 unfold xF;have key:∀(ops:VL) (l:List Int),(Jn l∧∀x∈l,1≤x∧x≤s)→Jn (ops.foldl (λl o=>if v8 s o.1∈l then l else y8 l (v8 s o.1)) l)∧∀x∈ops.foldl (λl o=>if v8 s o.1∈l then l else y8 l (v8 s o.1)) l,1≤x∧x≤s:=by
  intro ops
  induction ops with
  |nil=>exact λl h=>h
  |cons o ops ih=>
   intro l h;rw[List.foldl_cons];refine ih _ ?_
   split
   ·exact h
   ·rename_i hm
    refine ⟨WC h.1 hm,λx hx=> ?_⟩
    rcases V7.1 hx with rfl|hx
    ·have:=Wf h1 o.1
     unfold v8;omega
    ·exact h.2 x hx
 exact key ops [] ⟨List.Pairwise.nil,λ_ h=>by cases h⟩
theorem gw {l:List Int}{s:Int}(h:Jn l)(hb:∀x∈l,1≤x∧x≤s)(hs:0≤s):(l.length:Int)≤s:=by
 have key:∀(l:List Int) (a:Int),Jn l→(∀x∈l,a≤x∧x≤s)→a≤s+1→(l.length:Int)≤s+1 - a:=by
  intro l
  induction l with
  |nil=>intro a _ _ h;simp;omega
  |cons x l ih=>
   intro a h hb h3;have h2:=kH.1 h;have:=hb x (kg ..);have:=ih (x+1) h2.2 (λy hy=>⟨by have:=h2.1 y hy;omega,(hb y (jV _ hy)).2⟩) zo;rw[jC];omega
 have:=key l 1 h hb zo;omega
theorem tC (k:Int)(hk:k=18∨k=22){t:Int}(h:0≤t):qn {NA.zero with kind:=k,txn:=t}=true:=by
 unfold qn vV NA.bits NA.zero ws
 rcases hk with rfl|rfl<;>by_cases h0:0<t<;>simp[h0,List.zipIdx,fldN,vX]
theorem tE {t b s:Int}{ps:List Int}(hs:s≤1099511627776)(hp:vX ps=true)(hl:ps.length≤4):qn {NA.zero with kind:=17,txn:=t,batch:=b,stamp:=s,parts:=ps}=true:=by
 unfold qn vV NA.bits NA.zero ws;have hs2:¬(1099511627776<max (max s 0) 0):=by omega
 have hl2:¬(4<ps.length):=by omega
 dsimp only;rw[hp];simp only[hs2,hl2]
 by_cases h0:0<t<;>by_cases h1:0<b<;>by_cases h2:0<s<;>by_cases h3:0<(ps.length:Int)<;>simp[h0,h1,h2,h3,List.zipIdx,fldN]<;>first|done|decide|(repeat' (first|exact .inr rfl|(refine And.intro rfl ?_)))
theorem tF {t:TR}(ha:t.after≤1099511627776)(hw:0≤t.who∧t.who<16)(hp:vX t.parts=true)(hl:t.parts.length≤4)(ho:t.ops.any xv=false)(ho2:t.ops.length≤16):qn (vY t)=true:=by
 unfold qn vV NA.bits vY NA.zero ws;have hw2:¬(16≤t.who):=by omega
 have hw3:min (min (min (0:Int) 0) t.who) 0=0:=by omega
 have ha2:¬(1099511627776<max (max (0:Int) t.after) 0):=by omega
 have hl2:¬(4<t.parts.length):=by omega
 have hl3:¬(16<t.ops.length):=by omega
 dsimp only;rw[hp,ho];simp only[hw2,hw3,ha2,hl2,hl3]
 by_cases h0:0<t.txn<;>by_cases h1:0<t.batch<;>by_cases h2:0<t.after<;>by_cases h3:0<(t.parts.length:Int)<;>by_cases h4:t.who=0<;>by_cases h5:0<(t.ops.length:Int)<;>simp[h0,h1,h2,h3,h4,h5,List.zipIdx,fldN]<;>first|done|decide|(repeat' (first|rfl|exact .inr rfl|(refine And.intro ?_ ?_)))
attribute [local irreducible] swp qq qL qJ vZ qh St qi qk vu qH
attribute [local irreducible] ar
abbrev AI (bk:Nat)(d:Array Int)(rs:List Value):HP:=pt bk (cl (ar .i64 d rs) 3)
theorem Zq (x y:Int)(L:HL):qh kY 269 [.int .i64 x,.int .i64 y] L (λv L'=>v=.bool (Sort.ltInt x y)∧L'=L):=by
 have nan:∀z,qh kY 293 [.int .i64 z] L (λv L'=>v=.bool false∧L'=L):=λz=>by
  refine qg Tryz.func293 rfl rfl rfl ?_;refine Q.r ?_;exact N.t rfl (kZ _) ⟨by simp[Xj],rfl⟩
 refine qg Tryz.func269 rfl rfl rfl ?_;refine Q.r ?_;refine S.cr rfl (nan x) ?_;rintro _ _ ⟨rfl,rfl⟩;refine Q.r ?_;exact N.t rfl (kZ _) ⟨rfl,rfl⟩
theorem Q8 (bk n c a b:Nat)(d:Array Int)(rs:List Value)(L:HL)(hd:d.size=n)(ha:a≤n)(hb:b≤n)(hn:n≤4611686018427387904):
  qh kY 276 [SV bk n c,.int .i64 a,.int .i64 b] (AI bk d rs::L) (λv L'=>v=.tuple #[]∧L'=AI bk (Sort.insertionSort Sort.ltInt d a b) rs::L):=by
 refine qg Tryz.func276 rfl rfl rfl ?_;refine Q.rn ?_;refine ql (σ:=Nat×Array Int) (λs=> [(0,SV bk n c),(1,.int .i64 a),(2,.int .i64 b),(6,.int .i64 s.1)]) (λs=>AI bk s.2 rs::L)
  (λs=>a+1≤s.1∧s.1≤n+1∧s.2.size=n∧Sort.insOuter Sort.ltInt a b s.1 s.2=Sort.insertionSort Sort.ltInt d a b) (λs=>b - s.1) (a+1,d) zt eG ⟨jz _,by dsimp only;omega,hd,rfl⟩ ?_
 rintro ⟨i,e⟩ ⟨h1,h2,h3,h4⟩;dsimp only at h1 h2 h3 h4 ⊢;rw[Sort.insOuter] at h4
 by_cases hi:i<b
 ·rw[jb hi] at h4
  refine Q.rn ?_;refine ql (σ:=Nat×Array Int) (λs=> [(0,SV bk n c),(1,.int .i64 a),(2,.int .i64 b),(6,.int .i64 i),(7,.int .i64 s.1)]) (λs=>AI bk s.2 rs::L)
   (λs=>s.1≤i∧s.2.size=n∧Sort.insInner Sort.ltInt a s.1 s.2=Sort.insInner Sort.ltInt a i e) (λs=>s.1) (i,e) zt eG ⟨jz _,h3,rfl⟩ ?_
  rintro ⟨j,g⟩ ⟨g1,g2,g3⟩;dsimp only at g1 g2 g3 ⊢
  by_cases hj:a<j
  ·obtain ⟨k,rfl⟩:∃k,j=k+1:=⟨j - 1,by omega⟩
   rw[Sort.insInner,show decide (k+1>a)=true by simpa using hj,jJ] at g3;refine Q.rn ?_;refine Q.dgo [true] [13] [] [0,1,2,3,4,5,6,7,8,9,10,11,12,13,14] ?_;refine Q.rdn ?_;refine D.e rfl rfl rfl ?_;refine S.guard rfl ?_;refine S.cr rfl (Zq _ _ _) ?_;rintro _ M ⟨rfl,rfl⟩
   cases hl:Sort.ltInt g[k+1]! g[k]! with
   |false=>
    rw[show k+1 - 1=k from rfl,hl];rw[hl] at g3;refine Q.rn ?_;refine Q.rdn ?_;refine Q.rn ?_;refine ⟨(i+1,g),zt,by exact eG,⟨by dsimp only;omega,by dsimp only;omega,g2,?_⟩,by dsimp only;omega⟩;simp only[kb,if_false] at g3;rw[g3];exact h4
   |true=>
    rw[show k+1 - 1=k from rfl,hl];rw[hl] at g3;refine Q.rn ?_;refine Q.rdn ?_;refine Q.rn ?_;refine Q.dgo [true] [15,17] [15] [0,1,2,3,4,5,6,7,8,9,10,11,12,13,14,15,16,17] ?_;refine Q.rdn ?_;refine Q.dc rfl rfl rfl rfl ?_;refine Q.rn ?_;refine Q.rdn ?_;refine D.e rfl rfl rfl ?_;refine Q.rn ?_;refine Q.rdn ?_;refine Q.rn ?_;simp only[if_true] at g3;exact ⟨(k,Sort.swp g (k+1) k),zt,kZ _,⟨by dsimp only;omega,by rw[vR];exact g2,g3⟩,by dsimp only;omega⟩
  ·have hgg:Sort.insInner Sort.ltInt a j g=g:=by
    cases j with
    |zero=>rfl
    |succ j=>rw[Sort.insInner,show decide (j+1>a)=false by simpa using hj];simp
   rw[hgg] at g3;refine Q.rn ?_;refine Q.dgo [true] [13] [] [0,1,2,3,4,5,6,7,8,9,10,11,12,13,14] ?_;refine Q.rdn ?_;refine Q.rn ?_;exact ⟨(i+1,g),zt,kZ _,⟨by dsimp only;omega,by dsimp only;omega,g2,by dsimp only;rw[g3];exact h4⟩,by dsimp only;omega⟩
 ·rw[ja hi] at h4
  subst h4;refine Q.rn ?_;exact N.n0 RV.nil (kZ _) ⟨rfl,rfl⟩
end Go.Proofs.YtlnfjhiphlfkjaaGreatDoor
namespace Go.Proofs.YtlnfjhiphlfkjaaGreatDoor
open Go Go.SX
attribute [local irreducible] swp qq qL qJ vZ qh St qi qk vu qH
theorem Q7 (sv:Value)(L:HL):qh kY 276 [sv,.int .i64 (0:Nat),.int .i64 (0:Nat)] L (λv L'=>v=.tuple #[]∧L'=L):=by
 refine qg Tryz.func276 rfl rfl rfl ?_;refine Q.rn ?_;refine ql (σ:=Unit) (λs=> [(2,.int .i64 (0:Nat)),(6,.int .i64 (1:Nat))]) (λs=>L) (λs=>True) (λs=>0) () zt (kZ _) trivial ?_;intro _ _;refine Q.rn ?_;exact N.n0 RV.nil (kZ _) ⟨rfl,rfl⟩
theorem pJ (a:OA)(m c:Nat)(xs:List Int)(L:HL)(hm:m=xs.length)(hn:m≤12):
  qh kY 208 [.slice a m c] (slO 3 1 a m c (xs.map (Value.int .i64))::L) (λv L'=>v=.tuple #[]∧L'=slO 3 1 a m c ((vq xs).map (Value.int .i64))::L):=by
 have hu:IntKind.u64.wrap (m:Int)=(m:Int):=wrap_u64 zo zo;have pdq:∀(L L1:HL) (sv:Value) (lim:Nat),qh kY 276 [sv,.int .i64 (0:Nat),.int .i64 m] L (λv L'=>v=.tuple #[]∧L'=L1)→qh kY 248 [sv,.int .i64 (0:Nat),.int .i64 m,.int .i64 lim] L (λv L'=>v=.tuple #[]∧L'=L1):=by
  intro L L1 sv lim h;refine qg Tryz.func248 rfl rfl rfl ?_;refine Q.rn ?_;refine ql (σ:=Unit) (λs=> [(0,sv),(1,.int .i64 (0:Nat)),(2,.int .i64 m)]) (λs=>L) (λs=>True) (λs=>0) () zt (kZ _) trivial ?_;intro _ _;refine Q.rn ?_;refine S.cr rfl h ?_;rintro _ _ ⟨rfl,rfl⟩;refine Q.rn ?_;exact N.r0 RV.nil (kZ _) ⟨rfl,rfl⟩
 by_cases h0:m=0
 ·have hx:xs=[]:=jO zo
  subst hx;have hs:vq []=[]:=by simp[vq]
  rw[hs];refine qg Tryz.func208 rfl rfl rfl ?_;refine Q.rn ?_;refine S.y (Y.cvi rfl) ?_;rw[hu];refine Q.rn ?_;refine S.cr rfl (QE m zo _) ?_;rintro _ _ ⟨rfl,rfl⟩;subst h0;refine S.cr rfl (pdq _ _ _ (Sort.bitsLen 0) (Q7 _ _)) ?_;rintro _ _ ⟨rfl,rfl⟩;refine Q.rn ?_;exact N.n0 RV.nil (kZ _) ⟨rfl,rfl⟩
 refine qh.slO zo λb rest ha hmc hlen=> ?_
 subst ha;refine qg Tryz.func208 rfl rfl rfl ?_;refine Q.rn ?_;refine S.y (Y.cvi rfl) ?_;rw[hu];refine Q.rn ?_;refine S.cr rfl (QE m zo _) ?_;rintro _ _ ⟨rfl,rfl⟩;have hd:xs.toArray.size=m:=by simp[hm]
 refine S.cr rfl (pdq _ _ _ (Sort.bitsLen m) (Q8 b m c 0 m xs.toArray rest _ hd zo (jz _) zo)) ?_;rintro _ _ ⟨rfl,rfl⟩;have hsp:=Sort.insertionSort_holds (lt:=Sort.ltInt) Sort.swo_ltInt xs.toArray 0 m zo zo;have he:(Sort.insertionSort Sort.ltInt xs.toArray 0 m).toList=vq xs:=by
  have:=Sort.sorted_unique_holds (lt:=Sort.ltInt) Sort.swo_ltInt (λx y h1 h2=>by simp[Sort.ltInt] at h1 h2;omega) xs.toArray _ (by rw[hd];exact hsp.1) (by rw[hd];exact hsp.2);rw[this];unfold vq
  congr 1
  funext x y
  simp[Sort.ltInt]
  by_cases h:x≤y<;>simp[h]<;>omega
 refine Q.rn ?_;refine N.n0 RV.nil ?_ ⟨rfl,rfl⟩;have hen:(ar .i64 (Sort.insertionSort Sort.ltInt xs.toArray 0 m) rest)=(vq xs).map (Value.int .i64)++rest:=by rw[cA,he]
 unfold AI;rw[hen];exact slO_shut (by simp[wV,hm]) hmc (by simpa[wV] using hlen)
theorem jAU (x:Int)(L:HL):qh kY 270 [.int .i64 x] L (λv L'=>v=.bool false∧L'=L):=by
 refine qg Tryz.func270 rfl rfl rfl ?_;refine Q.r ?_;exact N.t rfl (kZ _) ⟨by simp[Xj],rfl⟩
theorem jGb (x y:Int):Sort.ltInt x y=decide (x<y):=rfl
abbrev Q9 (xs:List Int)(x:Int):Nat:=(xs.takeWhile λy=>decide (y<x)).length
theorem sF (xs:List Int)(x:Int):Q9 xs x≤xs.length:=(List.takeWhile_prefix _).length_le
theorem cj (a:Int)(xs:List Int)(x:Int):Q9 (a::xs) x=if a<x then Q9 xs x+1 else 0:=by
 unfold Q9;rw[List.takeWhile_cons]
 by_cases h:a<x
 ·rw[jo h,jb h];rfl
 ·rw[jv h,ja h];rfl
theorem sB {x:Int}:∀{xs:List Int} {k:Nat},k<Q9 xs x→∀{y:Int},xs[k]? =some y→y<x
 | [],k,h,y,_=>absurd h (Nat.not_lt_zero _)
 |a::xs,k,h,y,hy=>by
  rw[cj] at h
  by_cases ha:a<x
  ·rw[jb ha] at h
   cases k with
   |zero=>simp at hy;omega
   |succ k=>exact sB (xs:=xs) (k:=k) zo (by simpa using hy)
  ·rw[ja ha] at h;omega
theorem sG {x:Int}:∀{xs:List Int},Jn xs→∀{k:Nat},Q9 xs x≤k→∀{y:Int},xs[k]? =some y→¬y<x
 | [],_,k,_,y,hy=>by simp at hy
 |a::xs,hs,k,h,y,hy=>by
  have h2:=kH.1 hs;rw[cj] at h
  by_cases ha:a<x
  ·rw[jb ha] at h
   cases k with
   |zero=>omega
   |succ k=>exact sG h2.2 (k:=k) zo (by simpa using hy)
  ·cases k with
   |zero=>simp at hy;omega
   |succ k=>
    have:=h2.1 y (jn (by simpa using hy:xs[k]? =some y));omega
theorem jA9 (a:OA)(c:Nat)(xs:List Int)(x:Int)(A:HL)(h:qY A a xs.length 1 (xs.map I64))(hn:xs.length≤1000000)(hs:Jn xs):
  qh kY 236 [.slice a xs.length c,.int .i64 x] A (λr L'=>(∃b,r=.tuple #[.int .i64 (Q9 xs x),.bool b])∧L'=A):=by
 refine qg Tryz.func236 rfl rfl rfl ?_;refine Q.r ?_;refine ql (σ:=Nat×Nat) (λs=> [(0,.slice a xs.length c),(1,.int .i64 x),(6,.int .i64 xs.length),(7,.int .i64 s.1),(8,.int .i64 s.2)])
  (λ_=>A) (λs=>s.1≤Q9 xs x∧Q9 xs x≤s.2∧s.2≤xs.length) (λs=>s.2 - s.1) (0,xs.length) zt (kZ _) ⟨jw _,sF _ _,jz _⟩ ?_
 rintro ⟨i,j⟩ ⟨h1,h2,h3⟩;dsimp only at h1 h2 h3 ⊢
 by_cases hij:i<j
 ·refine Q.rn ?_
  refine S.y (Y.cvi rfl) ?_;rw[wrap_u64 zo zo];refine S.y (Y.shr (a:=i+j) (b:=1) rfl rfl zd) ?_;rw[show (i+j) / 2^1=(i+j) / 2 by simp];refine S.y (Y.cvi rfl) ?_;rw[vl zo zo];obtain ⟨m,hm⟩:∃m,m=(i+j) / 2:=⟨_,rfl⟩;have hh1:i≤m:=by omega
  have hh2:m<j:=by omega
  rw[←hm];obtain ⟨q,hq⟩:=qx (show m<xs.length by omega);obtain ⟨b,oo,hia,hr⟩:=qY.elem (g:=λz:Int=> [I64 z]) (λ_=>rfl) (by rw[yP];exact h) hq rfl;rw[hia];refine Q.rn ?_;refine S.cr rfl (Zq q x _) ?_;rintro _ _ ⟨rfl,rfl⟩;rw[jGb]
  by_cases hp:q<x
  ·have hrh:m<Q9 xs x:=Nat.lt_of_not_le λhc=>sG hs hc hq hp
   rw[jo hp];refine Q.rn ?_;exact ⟨(m+1,j),zt,kZ _,⟨hrh,h2,h3⟩,by dsimp only;omega⟩
  ·have hrh:Q9 xs x≤m:=Nat.le_of_not_lt λhc=>hp (sB hc hq)
   rw[jv hp];refine Q.rn ?_;exact ⟨(i,m),zt,kZ _,⟨h1,hrh,by dsimp only;omega⟩,by dsimp only;omega⟩
 ·have hci:Q9 xs x=i:=by omega
  have hil:i≤xs.length:=by omega
  rw[hci];clear hci h1 h2
  by_cases hlt:i<xs.length
  ·obtain ⟨q,hq⟩:=qx hlt
   obtain ⟨b,oo,hia,hr⟩:=qY.elem (g:=λz:Int=> [I64 z]) (λ_=>rfl) (by rw[yP];exact h) hq rfl;rw[hia]
   by_cases hqx:q=x
   ·refine Q.rn ?_
    exact N.u rfl rfl (kZ _) ⟨⟨_,rfl⟩,rfl⟩
   ·refine Q.rn ?_
    refine S.cr rfl (jAU q _) ?_;rintro _ _ ⟨rfl,rfl⟩;refine Q.rn ?_;exact N.u rfl rfl (kZ _) ⟨⟨_,rfl⟩,rfl⟩
  ·refine Q.rn ?_
   exact N.u rfl rfl (kZ _) ⟨⟨_,rfl⟩,rfl⟩
theorem jCB {p q rest:List Value}{x:Value}(h:1≤rest.length):vN (vN (p++q++rest) (p.length+1) q) p.length [x]=(p++x::q)++rest.drop 1:=by
 obtain ⟨y,rest,rfl⟩:∃y r,rest=y::r:=by
  cases rest with
  |nil=>simp at h
  |cons y r=>exact ⟨y,r,rfl⟩
 have e1:vN (p++q++y::rest) (p.length+1) q=p++(q++[y]).take 1++q++rest:=by
  unfold vN;have:p++q++y::rest=p++((q++[y])++rest):=by simp
  rw[this,List.take_append,kK zo,show p.length+1 - p.length=1 by omega,kN,List.drop_eq_nil_of_le zo,kO,show p.length+1+q.length - p.length=(q++[y]).length by simp;omega];rw[kF,List.take_append];have:1 - (q++[y]).length=0:=by simp
  rw[this]
  simp
 rw[e1];obtain ⟨z,hz⟩:∃z,(q++[y]).take 1=[z]:=by
  cases q with
  |nil=>exact ⟨y,rfl⟩
  |cons z q=>exact ⟨z,rfl⟩
 rw[hz];unfold vN
 simp[List.take_append,kN]
theorem jCC {p zs q rest:List Value}{x:Value}(h:zs.length=q.length+1):vN (vN (p++zs++rest) p.length [x]) (p.length+1) q=(p++x::q)++rest:=by
 obtain ⟨y,zs,rfl⟩:∃y r,zs=y::r:=by
  cases zs with
  |nil=>simp at h
  |cons y r=>exact ⟨y,r,rfl⟩
 have h2:zs.length=q.length:=by simpa using h
 have e1:vN (p++y::zs++rest) p.length [x]=p++x::(zs++rest):=by
  unfold vN;rw[show p++y::zs++rest=p++(y::(zs++rest)) by simp,List.take_left,kN,List.drop_eq_nil_of_le (by simp)]
  simp
 rw[e1];unfold vN;have e2:p++x::(zs++rest)=(p++[x])++(zs++rest):=by simp
 have e3:p.length+1=(p++[x]).length:=by simp
 rw[e2,e3,List.take_left,kN,List.drop_eq_nil_of_le zo,kO,show (p++[x]).length+q.length - (p++[x]).length=zs.length by omega,kF]
 simp
theorem vi.pre {L:HL}{b o:Nat}{cs ds:List Value}(h:vi L b o (cs++ds)):vi L b o cs:=vi.part (k:=0) (ds:=cs) h λj v e=>by
 rw[kR,ko (jm.1 e).1];exact e
theorem vi.suf {L:HL}{b o:Nat}{cs ds:List Value}(h:vi L b o (cs++ds)):vi L b (o+cs.length) ds:=vi.part (k:=cs.length) (ds:=ds) h λj v e=>by
 rw[kG zo];rw[show cs.length+j - cs.length=j by omega];exact e
theorem jE2 (b c vb n i:Nat)(p q rest:List Value)(x:Value)(L:HL)(hi:p.length=i)(hq:i+q.length=n)(hq0:0<q.length)(hn:n≤1000000)(hc:(p++q++rest).length=c)(h1:x.oneCell'=true)(h2:q.all (·.oneCell')=true):
  qh kY 237 [.slice (some ⟨b,0,none⟩) n c,.int .i64 i,.slice (some ⟨vb,0,none⟩) 1 1] (pt b (cl (p++q++rest) 3)::pt vb (cl [x] 3)::L)
   (λr L'=>∃a' c',r=.slice a' (n+1) c'∧L'=slO 3 1 a' (n+1) c' (p++x::q)::L):=by
 have hcl:i+q.length+rest.length=c:=by rw[←hc,jc,jc,hi]
 refine qg Tryz.func237 rfl rfl rfl ?_;refine Q.r ?_;refine S.y (Y.slF (l:=i) rfl rfl rfl zo) ?_;refine Q.r ?_;refine S.y (Y.cap rfl) ?_
 by_cases hg:c<n+1
 ·refine Q.r ?_
  refine S.y (Y.slT (h:=i) rfl rfl rfl zo) ?_;refine Q.rn ?_;have hrp:vi (pt b (cl (p++q++rest) 3)::pt vb (cl [x] 3)::L) b 0 p:=by
   have h:vi (pt b (cl (p++q++rest) 3)::pt vb (cl [x] 3)::L) b 0 (p++q++rest):=vi.row;exact vi.pre (vi.pre h)
  refine S.appz (k:=n+1 - i) rfl rfl hrp zo zo zo zr zd zo zo (λb' c'=> ?_);rw[show i+(n+1 - i)=n+1 by omega];have hrl:(Vh (n+1 - i) [Value.int .i64 0]).length=q.length+1:=by rw[yu];simp;omega
  generalize hzs:Vh (n+1 - i) [Value.int .i64 0]=zs at hrl ⊢;refine Q.r ?_;refine jB7 b' (λrs hm2 hc2=> ?_);have hcl2:i+zs.length+rs.length=c':=by
   have h:=hc2;rw[jc,jc,hi,jX] at h;exact h
  refine S.y (Y.slF (l:=i) rfl rfl rfl zo) ?_;rw[show (if c'=i then 0 else 0+i*1)=i by rw[ja zo];omega];refine Q.r ?_;refine S.cpy (l':=vN (p++zs++rs) i [x]) (ys:=[x]) rfl rfl vi.row (by simp;omega) (by simp only[jc,kT,hrl];omega) (by simpa using h1) rfl ?_;refine Q.r ?_;refine Q.dgo [] [8] [] [0,1,2,3,4,5,6,7,8] ?_;refine Q.rd ?_;refine D.y rfl rfl rfl zk (Y.slF (l:=i+1) rfl rfl rfl zo) ?_;rw[show (if c'=i+1 then 0 else 0+(i+1)*1)=i+1 by rw[ja zo];omega];refine Q.rd ?_;refine D.y rfl rfl rfl zk (Y.slF (l:=i) rfl rfl rfl zo) ?_;rw[show (if c=i then 0 else 0+i*1)=i by rw[ja zo];omega];refine Q.rd ?_;refine D.e rfl rfl rfl ?_;have hrq:vi (pt b' (cl (vN (p++zs++rs) i [x]) 3)::pt b (cl (p++q++rest) 3)::pt vb (cl [x] 3)::L) b i q:=by
   have h:vi (pt b' (cl (vN (p++zs++rs) i [x]) 3)::pt b (cl (p++q++rest) 3)::pt vb (cl [x] 3)::L) b 0 (p++q++rest):=vi.row;have h2:=vi.suf (vi.pre h);rw[hi,kR] at h2;exact h2
  have hpl:(vN (p++zs++rs) i [x]).length=(p++zs++rs).length:=by
   unfold vN;simp[jc];omega
  have hfin:=jCC (p:=p) (zs:=zs) (q:=q) (rest:=rs) (x:=x) hrl;rw[hi] at hfin;refine S.cpy (l':=(p++x::q)++rs) (ys:=q) rfl rfl hrq zo (by rw[hpl,jc,jc,hi,hrl];omega) h2 hfin ?_;refine Q.r ?_;refine Q.rd ?_;refine Q.r ?_;refine N.t rfl ?_ ⟨some ⟨b',0,none⟩,c',rfl,rfl⟩;refine qi.trans (M:=pt b' (cl ((p++x::q)++rs) 3)::L) eG ?_;exact slO_shut (by rw[jc,jC,hi];omega) zo (by rw[jc,jc,jC,hi];omega)
 ·refine Q.r ?_
  refine S.y (Y.slT (h:=n+1) rfl rfl zo zo) ?_;refine Q.r ?_;refine S.y (Y.slF (l:=i+1) rfl rfl rfl zo) ?_;rw[show (if c=i+1 then 0 else 0+(i+1)*1)=i+1 by rw[ja zo];omega];refine S.y (Y.ovl (tS:=40) (tR:=4) (b1:=vb) (b2:=b) (t1:=3) (t2:=3) (l1:=[x]) (l2:=p++q++rest) Tryz.func271 zk zk zk zk rfl rfl (by intro h;have h:=jj List.length h;rw[jc,jc,j7] at h;omega)) ?_;refine Q.r ?_;refine Q.dgo [] [8] [] [0,1,2,3,4,5,6,7,8] ?_;refine Q.rd ?_;refine D.y rfl rfl rfl zk (Y.slF (l:=i+1) rfl rfl rfl zo) ?_;rw[show (if c=i+1 then 0 else 0+(i+1)*1)=i+1 by rw[ja zo];omega];refine Q.rd ?_;refine D.y rfl rfl rfl zk (Y.slF (l:=i) rfl rfl rfl zo) ?_;rw[show (if c=i then 0 else 0+i*1)=i by rw[ja zo];omega];refine Q.rd ?_;refine D.e rfl rfl rfl ?_;have hrq:vi (pt b (cl (p++q++rest) 3)::pt vb (cl [x] 3)::L) b i q:=by
   have h:vi (pt b (cl (p++q++rest) 3)::pt vb (cl [x] 3)::L) b 0 (p++q++rest):=vi.row;have h2:=vi.suf (vi.pre h);rw[hi,kR] at h2;exact h2
  have hpl:(vN (p++q++rest) (i+1) q).length=(p++q++rest).length:=by
   unfold vN;simp[jc];omega
  have hfin:=jCB (p:=p) (q:=q) (rest:=rest) (x:=x) zo;rw[hi] at hfin;refine S.cpy (l':=vN (p++q++rest) (i+1) q) (ys:=q) rfl rfl hrq zo (by rw[jc,jc,hi];omega) h2 rfl ?_;refine Q.r ?_;refine Q.rd ?_;refine Q.r ?_;refine S.y (Y.slF (l:=i) rfl rfl rfl zo) ?_;rw[show (if c=i then 0 else 0+i*1)=i by rw[ja zo];omega];refine Q.r ?_;refine S.cpy (l':=(p++x::q)++rest.drop 1) (ys:=[x]) rfl rfl vi.row (by simp;omega) (by rw[hpl,jc,jc,hi,kT];omega) (by simpa using h1) hfin ?_;refine Q.r ?_;refine N.t rfl ?_ ⟨some ⟨b,0,none⟩,c,rfl,rfl⟩;refine qi.trans (M:=pt b (cl ((p++x::q)++rest.drop 1) 3)::L) eG ?_;exact slO_shut (by rw[jc,jC,hi];omega) zo (by rw[jc,jc,jC,jE,hi];omega)
theorem jAX (a:OA)(c i vb:Nat)(xs:List Int)(x:Int)(L:HL)(hi:i≤xs.length)(hn:xs.length≤1000000):
  qh kY 237 [.slice a xs.length c,.int .i64 i,.slice (some ⟨vb,0,none⟩) 1 1] (slO 3 1 a xs.length c (xs.map I64)::pt vb (cl [I64 x] 3)::L)
   (λr L'=>∃a' c',r=.slice a' (xs.length+1) c'∧L'=slO 3 1 a' (xs.length+1) c' ((xs.take i++x::xs.drop i).map I64)::L):=by
 by_cases hin:i=xs.length
 ·subst hin
  rw[jI,kM];obtain ⟨n,hnn⟩:∃n,n=xs.length:=⟨_,rfl⟩;rw[←hnn];refine qh.slOc (λe1 e2 e3 e4=> ?_) (λb e h1=> ?_)
  ·subst e1 e2 e3
   have hx:xs=[]:=jO hnn.symm;subst hx;refine qg Tryz.func237 rfl rfl rfl ?_;refine Q.r ?_;refine S.y (Y.slFn rfl rfl rfl) ?_;refine Q.r ?_;refine S.app rfl rfl (vG.sl vi.row zr zr) zr zo zo (λa7 c7=> ?_);refine Q.r ?_;exact N.t rfl (qi.cons (qi.drop (kZ _))) ⟨a7,c7,rfl,rfl⟩
  ·subst e
   refine qg Tryz.func237 rfl rfl rfl ?_;refine Q.r ?_;refine S.y (Y.slF (l:=n) rfl rfl rfl zo) ?_;refine Q.r ?_;refine S.app rfl rfl (vG.sl vi.row zr zr) zr zo zo (λa7 c7=> ?_);refine Q.r ?_;refine N.t rfl (qi.cons (qi.drop (kZ _))) ⟨a7,c7,rfl,?_⟩;rw[jq];rfl
 have hlt:i<xs.length:=by omega
 refine qh.slO zo λb rest ha hmc hlen=> ?_
 subst ha;have hl1:((xs.take i).map I64).length=i:=by rw[jf,jP];omega
 have hl2:((xs.drop i).map I64).length=xs.length - i:=by rw[jf,jE]
 have hx1:xs.map I64=(xs.take i).map I64++(xs.drop i).map I64:=by rw[←jq,kJ]
 have hres:(xs.take i++x::xs.drop i).map I64=(xs.take i).map I64++I64 x::(xs.drop i).map I64:=by rw[jq,jL]
 rw[hx1,hres];rw[hx1] at hlen;exact jE2 b c vb xs.length i _ _ rest (I64 x) L hl1 zo zo hn (by rw[hlen,jX]) rfl (jDB _)
theorem cO (a:OA)(c:Nat)(xs:List Int)(x:Int)(A:HL)(h:qY A a xs.length 1 (xs.map I64))(hn:xs.length≤1000000)(hs:Jn xs):
  qh kY 199 [.slice a xs.length c,.int .i64 x] A (λr L'=>∃a' c',r=.slice a' (xs.length+1) c'∧L'=slO 3 1 a' (xs.length+1) c' ((y8 xs x).map I64)::A):=by
 have hpi:y8 xs x=xs.take (Q9 xs x)++x::xs.drop (Q9 xs x):=by
  unfold y8 Q9;have e:=List.takeWhile_append_dropWhile (p:=λy=>decide (y<x)) (l:=xs);have e1:xs.take (xs.takeWhile λy=>decide (y<x)).length=xs.takeWhile λy=>decide (y<x):=by
   conv=>lhs;arg 2;rw[←e]
   exact List.take_left ..
  have e2:xs.drop (xs.takeWhile λy=>decide (y<x)).length=xs.dropWhile λy=>decide (y<x):=by
   conv=>lhs;arg 2;rw[←e]
   exact kF ..
  rw[e1,e2]
 have hle:=sF xs x;refine qg Tryz.func199 rfl rfl rfl ?_;refine Q.r ?_;refine S.cr rfl (jA9 a c xs x _ h hn hs) ?_;rintro _ _ ⟨⟨b,rfl⟩,rfl⟩;refine Q.r ?_;refine S.cr rfl (yF a c xs _ h hn) ?_;rintro _ _ ⟨ca,cc,rfl,rfl⟩;refine Q.r ?_;(repeat (intro b1;refine Q.r ?_));refine S.c2 (A:=slO 3 1 ca xs.length cc (xs.map I64)) rfl (jAX ca cc (Q9 xs x) b1 xs x _ hle hn) ?_;rintro _ _ ⟨a',c',rfl,rfl⟩;refine Q.r ?_;refine N.t rfl ?_ ⟨a',c',rfl,by rw[hpi]⟩;exact eG
abbrev nvG (m:Int×NA):Int×NV:=(m.1,m.2.nv)
abbrev vw (t:TR)(stamp code:Int):List (Int×NV):=(zY t stamp code).map nvG
theorem tj (t:TR)(s c:Int):(vw t s c).length=t.parts.length+1:=by rw[jf,tk]
theorem zT (t:TR)(s c:Int):(vw t s c).map (λm:Int×NV=>(m.1,m.2.abs))=zY t s c:=jEe (tq t s c)
theorem yH {M:OM}(t:TR)(s c:Int):∀m∈vw t s c,xN M m.2:=λm hm=>by
 obtain ⟨u,_,rfl⟩:=jM.1 hm;exact xN.nv u.2
theorem xM (t:Nat×TV)(stamp code:Int)(M:OM)(L:HL)(ht:bI M t.2):
  qh kY 120 [XI t,.int .u64 stamp,.int .i64 code] (vk t::qp M::L) (λr L'=>∃a' c',r=.slice a' (vw t.2.abs stamp code).length c'∧L'=slO 176 17 a' (vw t.2.abs stamp code).length c' ((vw t.2.abs stamp code).flatMap vA)::vk t::qp M::L):=by
 have h:=pV t stamp code M L ht;rw[show t.2.parts.length+1=(vw t.2.abs stamp code).length from (tj t.2.abs stamp code).symm,show (zY t.2.abs stamp code).flatMap zJ=(vw t.2.abs stamp code).flatMap vA from (by rw[List.flatMap_map])] at h;exact h
theorem pU (n:NV)(M:OM)(p:Nat)(j:JG)(fr:Int)(L:HL)(h0:0≤j.last)(h1:j.last≤1099511627776):
  qh kY 100 [vQ p,.int .i64 fr,n.val] (qD M p j::qp M::L) (wG M p j (fW j fr n.abs) L):=by
 unfold fW;refine wD λmt md ts hq=> ?_
 refine qg Tryz.func100 rfl rfl rfl ?_;refine Q.r ?_;(repeat (intro b1;refine Q.r ?_));rename_i b5;revert b1;intro b6;refine Q.dgo [true,true,true,true,true,true,true] [] [] [0,1,2,3,4,5,6,7] ?_;refine Q.rd ?_;refine D.y rfl rfl rfl zk (Y.lk false rfl rfl (λw=>Tryz.zeroValue148 w)) ?_;rw[Xk hq.tr n.txn]
 cases hz:qE (α:=Nat×TV) ts n.txn with
 |none=>
  dsimp only[Option.map_none];refine Q.rd ?_;refine Q.r ?_;exact N.r1 RV.c (qi.trans (qi.trans (M:=gP p j mt md::gT mt ts::qF ts::gD md j.done::qp M::L) eG (qS hq)) dK) (wG.none M p j L)
 |some u=>
  obtain ⟨k,hk⟩:=VB hz;have hu:bI M u.2:=hq.ok _ (jn hk);have hpl:=hu.pl;have hyl:=hu.yl;dsimp only[Option.map_some];refine Q.rd ?_;refine Q.r ?_;refine yI hk ?_
  by_cases hs:0<u.2.stamp
  ·rw[jb (.inl hs)]
   refine Q.r ?_;exact N.r1 RV.c (qi.trans (qi.trans (M:=gP p j mt md::gT mt ts::vk u::qF (ts.eraseIdx k)::gD md j.done::qp M::L) eG (vt hk hq)) dK) (wG.none M p j L)
  refine Q.r ?_;refine S.cr rfl (qP u.2.pa u.2.pc u.2.parts fr _ hu.p.rd hpl) ?_;rintro _ _ ⟨rfl,rfl⟩
  by_cases hc:fr∈u.2.parts
  case neg=>
   rw[jb (.inr hc),jv hc];refine Q.r ?_;exact N.r1 RV.c (qi.trans (qi.trans (M:=gP p j mt md::gT mt ts::vk u::qF (ts.eraseIdx k)::gD md j.done::qp M::L) eG (vt hk hq)) dK) (wG.none M p j L)
  rw[ja (show ¬(0<u.2.abs.stamp∨fr∉u.2.abs.parts) from λh=>h.elim hs (λh=>h hc)),jo hc]
  by_cases hco:n.code=0
  case neg=>
   rw[jb hco];refine Q.r ?_;refine Q.dgo [false,false,false,true] [1,5,7] [] [0,2,3,4,1,5,6,7] ?_;refine Q.rd ?_;refine D.e rfl rfl rfl ?_;refine S.c1 rfl (KP u _) ?_;rintro _ _ ⟨bg,rfl,rfl⟩;refine Q.r ?_;refine Q.rd ?_;refine D.e rfl rfl rfl ?_;refine S.c2 rfl (xM u 0 n.code M _ hu) ?_;rintro _ _ ⟨a3,c3,rfl,rfl⟩;have hta:=zT u.2.abs 0 n.code;have hto:=yH (M:=M) u.2.abs 0 n.code;generalize vw u.2.abs 0 n.code=ms at hta hto ⊢;refine Q.r ?_;refine Q.rd ?_;refine Q.r ?_;refine N.r1 RV.c (qi.trans (M:=slO 82 16 (some ⟨bg,0,none⟩) 1 1 (wK u.2.txn).nv.cells::slO 176 17 a3 ms.length c3 (ms.flatMap vA)::gP p j mt md::gT mt ts::vk u::qF (ts.eraseIdx k)::gD md j.done::qp M::L) eG (qi.trans (qi.cons (qi.cons (vt hk hq))) ?_)) ⟨none,0,[],some ⟨bg,0,none⟩,1,[(wK u.2.txn).nv],a3,c3,ms,none,0,[],none,0,[],M,rfl,qV.refl M,⟨λ_ h=>(by cases h),λm hm=>by rw[ji.1 hm];exact xN.nv _,hto,λ_ h=>(by cases h),λ_ h=>(by cases h)⟩,⟨rfl,rfl,hta,rfl,rfl⟩,rfl⟩
   show qi _ (slO 82 16 none 0 0 []::slO 82 16 (some ⟨bg,0,none⟩) 1 1 (wK u.2.txn).nv.cells::slO 176 17 a3 ms.length c3 (ms.flatMap vA)::slO 82 16 none 0 0 []::slO 176 17 none 0 0 []::qD M p j::qp M::L)
   exact eG
  rw[ja (show ¬n.abs.code≠0 from λh=>h hco)];refine Q.r ?_;refine S.cr rfl (qP u.2.ya u.2.yc u.2.yes fr _ hu.y.rd hyl) ?_;rintro _ _ ⟨rfl,rfl⟩
  by_cases hd:fr∈u.2.yes
  ·rw[jb hd,jo hd]
   refine Q.r ?_;exact N.r1 RV.c (qi.trans (qi.trans (M:=gP p j mt md::gT mt ts::vk u::qF (ts.eraseIdx k)::gD md j.done::qp M::L) eG (vt hk hq)) dK) (wG.none M p j L)
  rw[ja hd,jv hd];refine Q.r ?_;refine S.cr rfl (Wr u u.2.ya u.2.yes.length u.2.yc _ hyl hpl) ?_;rintro _ _ ⟨rfl,rfl⟩
  by_cases hl:u.2.yes.length+1=u.2.parts.length
  ·rw[ja (λh=>h hl),jo hl]
   refine Q.r ?_;refine vo (σ:=Nat×NV×(OM)) (λs=> [(5,.pointer (some ⟨b5,0,none⟩)),(6,.pointer (some ⟨b6,0,none⟩)),(7,XI u),(8,.pointer (some ⟨s.1,0,none⟩))])
    (λs=>pt s.1 (cl s.2.1.cells 82)::pt b6 (cl [.slice none 0 0,.slice none 0 0,.slice none 0 0,.slice none 0 0,.slice none 0 0] 97)::vk u::qF (ts.eraseIdx k)::gP p j mt md::gT mt ts::gD md j.done::qp s.2.2::L) (λs=>qV M s.2.2∧xN s.2.2 s.2.1∧s.2.1.abs={NA.zero with kind:=17,txn:=u.2.txn,batch:=u.2.batch,stamp:=j.last+1,parts:=u.2.parts}) ?_ ?_
   ·refine Q.dgo [true,false,false,false,true] [20,22,23] [] [0,1,2,3,4,5,6,7,8,9,10,11,12,13,14,15,16,17,18,19,99999,0,0,0] ?_
    refine Q.rd ?_;refine D.y rfl rfl rfl zk (Y.add rfl rfl) ?_;rw[wrap_u64 zo zo];refine Q.rd ?_;refine D.two 20 22 [21,22,23] [20,21,23] zk rfl rfl rfl rfl zk zk ?_ ?_
    ·refine S.cr rfl (yF u.2.pa u.2.pc u.2.parts _ hu.p.rd hpl) ?_
     rintro _ _ ⟨ca,cc,rfl,rfl⟩;refine qR ca (λM1 hl1 hs1=> ?_);refine Q.r ?_;refine Q.rd ?_;(repeat (intro b1;refine Q.rd ?_));refine N.tn ⟨(b1,⟨17,u.2.txn,u.2.batch,j.last+1,0,0,0,0,0,0,0,0,ca,cc,u.2.parts,none,0,[],none,0,[],none,0,[]⟩,M1),zt,?_,hl1,⟨hs1,⟨qI.nil0,λo ho=>by cases ho⟩,qI.nil0,qI.nil0,λo ho=>by cases ho⟩,rfl⟩
     (try dsimp only);exact eG
    ·refine GQ.a ?_
     refine Q.al (λb8=> ?_);refine Q.r ?_;refine Q.rd ?_;refine D.e rfl rfl rfl ?_;refine S.cr rfl (yF u.2.pa u.2.pc u.2.parts _ hu.p.rd hpl) ?_;rintro _ _ ⟨ca,cc,rfl,rfl⟩;refine qR ca (λM1 hl1 hs1=> ?_);refine Q.r ?_;refine Q.rd ?_;refine N.tn ⟨(b8,⟨17,u.2.txn,u.2.batch,j.last+1,0,0,0,0,0,0,0,0,ca,cc,u.2.parts,none,0,[],none,0,[],none,0,[]⟩,M1),zt,?_,hl1,⟨hs1,⟨qI.nil0,λo ho=>by cases ho⟩,qI.nil0,qI.nil0,λo ho=>by cases ho⟩,rfl⟩
     (try dsimp only);exact eG
   ·rintro ⟨b8,cn,M1⟩ ⟨hl1,hcn,hca⟩
    dsimp only at hl1 hcn hca ⊢;refine Q.r ?_;refine Q.dgo [true,false,false,false] [1,5,7,9,11] [] [0,2,3,4,6,8,99999,0,0,0,0,0] ?_;have hca1:[cn].map NV.abs=[{NA.zero with kind:=17,txn:=u.2.txn,batch:=u.2.batch,stamp:=j.last+1,parts:=u.2.parts}]:=jj (λz=> [z]) hca;have hst:cn.stamp=j.last+1:=jj NA.stamp hca;have hta:(vw u.2.abs cn.stamp 0).map (λm:Int×NV=>(m.1,m.2.abs))=zY u.2.abs (j.last+1) 0:=by rw[hst];exact zT _ _ _
    refine Q.rd ?_;refine D.two 1 5 [5,7,9,10,11] [99999,0,0,0,0] zk rfl rfl rfl rfl zk zk ?_ ?_
    ·refine Q.r ?_;(repeat (intro b1;refine Q.r ?_))
     refine Q.rd ?_;refine D.e rfl rfl rfl ?_;refine S.c2 rfl (xM u cn.stamp 0 M1 _ (hu.mono hl1)) ?_;rintro _ _ ⟨a3,c3,rfl,rfl⟩;refine Q.r ?_;refine Q.rd ?_;refine D.e rfl rfl rfl ?_;refine S.c1 rfl (KP u _) ?_;rintro _ _ ⟨bg,rfl,rfl⟩;refine Q.r ?_;refine Q.rd ?_;refine D.e rfl rfl rfl ?_;refine S.c2 rfl (xM u 0 8 M1 _ (hu.mono hl1)) ?_;rintro _ _ ⟨a5,c5,rfl,rfl⟩;refine Q.r ?_;refine Q.rd ?_;refine Q.r ?_;refine N.r1 RV.c (qi.trans (M:=pt b1 (cl cn.cells 82)::slO 176 17 a3 (vw u.2.abs cn.stamp 0).length c3 ((vw u.2.abs cn.stamp 0).flatMap vA)::slO 82 16 (some ⟨bg,0,none⟩) 1 1 (wK u.2.txn).nv.cells::slO 176 17 a5 (vw u.2.abs 0 8).length c5 ((vw u.2.abs 0 8).flatMap vA)::gP p j mt md::gT mt ts::vk u::qF (ts.eraseIdx k)::gD md j.done::qp M1::L) eG (qi.trans (qi.cons (qi.cons (qi.cons (qi.cons (vt hk (hq.mono hl1)))))) (qi.trans (vg (sz:=16) (m:=1) rfl) ?_))) ⟨some ⟨b1,0,none⟩,1,[cn],none,0,[],a3,c3,vw u.2.abs cn.stamp 0,some ⟨bg,0,none⟩,1,[(wK u.2.txn).nv],a5,c5,vw u.2.abs 0 8,M1,rfl,hl1,⟨λm hm=>by rw[ji.1 hm];exact hcn,λ_ h=>(by cases h),yH _ _ _,λm hm=>by rw[ji.1 hm];exact xN.nv _,yH _ _ _⟩,⟨hca1,rfl,hta,rfl,zT _ _ _⟩,rfl⟩
     show qi _ (slO 82 16 (some ⟨b1,0,none⟩) 1 1 cn.cells::slO 82 16 none 0 0 []::slO 176 17 a3 (vw u.2.abs cn.stamp 0).length c3 ((vw u.2.abs cn.stamp 0).flatMap vA)::slO 82 16 (some ⟨bg,0,none⟩) 1 1 (wK u.2.txn).nv.cells::slO 176 17 a5 (vw u.2.abs 0 8).length c5 ((vw u.2.abs 0 8).flatMap vA)::qD M1 p j::qp M1::L)
     exact eG
    ·refine S.c2 rfl (xM u cn.stamp 0 M1 _ (hu.mono hl1)) ?_
     rintro _ _ ⟨a3,c3,rfl,rfl⟩;refine Q.r ?_;refine Q.rd ?_;refine D.two 1 7 [7,9,10,11] [99999,0,0,0] zk rfl rfl rfl rfl zk zk ?_ ?_
     ·refine Q.r ?_;(repeat (intro b1;refine Q.r ?_))
      refine Q.rd ?_;refine D.e rfl rfl rfl ?_;refine S.c1 rfl (KP u _) ?_;rintro _ _ ⟨bg,rfl,rfl⟩;refine Q.r ?_;refine Q.rd ?_;refine D.e rfl rfl rfl ?_;refine S.c2 rfl (xM u 0 8 M1 _ (hu.mono hl1)) ?_;rintro _ _ ⟨a5,c5,rfl,rfl⟩;refine Q.r ?_;refine Q.rd ?_;refine Q.r ?_;refine N.r1 RV.c (qi.trans (M:=pt b1 (cl cn.cells 82)::slO 176 17 a3 (vw u.2.abs cn.stamp 0).length c3 ((vw u.2.abs cn.stamp 0).flatMap vA)::slO 82 16 (some ⟨bg,0,none⟩) 1 1 (wK u.2.txn).nv.cells::slO 176 17 a5 (vw u.2.abs 0 8).length c5 ((vw u.2.abs 0 8).flatMap vA)::gP p j mt md::gT mt ts::vk u::qF (ts.eraseIdx k)::gD md j.done::qp M1::L) eG (qi.trans (qi.cons (qi.cons (qi.cons (qi.cons (vt hk (hq.mono hl1)))))) (qi.trans (vg (sz:=16) (m:=1) rfl) ?_))) ⟨some ⟨b1,0,none⟩,1,[cn],none,0,[],a3,c3,vw u.2.abs cn.stamp 0,some ⟨bg,0,none⟩,1,[(wK u.2.txn).nv],a5,c5,vw u.2.abs 0 8,M1,rfl,hl1,⟨λm hm=>by rw[ji.1 hm];exact hcn,λ_ h=>(by cases h),yH _ _ _,λm hm=>by rw[ji.1 hm];exact xN.nv _,yH _ _ _⟩,⟨hca1,rfl,hta,rfl,zT _ _ _⟩,rfl⟩
      show qi _ (slO 82 16 (some ⟨b1,0,none⟩) 1 1 cn.cells::slO 82 16 none 0 0 []::slO 176 17 a3 (vw u.2.abs cn.stamp 0).length c3 ((vw u.2.abs cn.stamp 0).flatMap vA)::slO 82 16 (some ⟨bg,0,none⟩) 1 1 (wK u.2.txn).nv.cells::slO 176 17 a5 (vw u.2.abs 0 8).length c5 ((vw u.2.abs 0 8).flatMap vA)::qD M1 p j::qp M1::L)
      exact eG
     ·refine S.c1 rfl (KP u _) ?_
      rintro _ _ ⟨bg,rfl,rfl⟩;refine Q.r ?_;refine Q.rd ?_;refine D.two 1 9 [9,10,11] [1,10,11] zk rfl rfl rfl rfl zk zk ?_ ?_
      ·refine Q.r ?_;(repeat (intro b1;refine Q.r ?_))
       refine Q.rd ?_;refine D.e rfl rfl rfl ?_;refine S.c2 rfl (xM u 0 8 M1 _ (hu.mono hl1)) ?_;rintro _ _ ⟨a5,c5,rfl,rfl⟩;refine Q.r ?_;refine Q.rd ?_;refine Q.r ?_;refine N.r1 RV.c (qi.trans (M:=pt b1 (cl cn.cells 82)::slO 176 17 a3 (vw u.2.abs cn.stamp 0).length c3 ((vw u.2.abs cn.stamp 0).flatMap vA)::slO 82 16 (some ⟨bg,0,none⟩) 1 1 (wK u.2.txn).nv.cells::slO 176 17 a5 (vw u.2.abs 0 8).length c5 ((vw u.2.abs 0 8).flatMap vA)::gP p j mt md::gT mt ts::vk u::qF (ts.eraseIdx k)::gD md j.done::qp M1::L) eG (qi.trans (qi.cons (qi.cons (qi.cons (qi.cons (vt hk (hq.mono hl1)))))) (qi.trans (vg (sz:=16) (m:=1) rfl) ?_))) ⟨some ⟨b1,0,none⟩,1,[cn],none,0,[],a3,c3,vw u.2.abs cn.stamp 0,some ⟨bg,0,none⟩,1,[(wK u.2.txn).nv],a5,c5,vw u.2.abs 0 8,M1,rfl,hl1,⟨λm hm=>by rw[ji.1 hm];exact hcn,λ_ h=>(by cases h),yH _ _ _,λm hm=>by rw[ji.1 hm];exact xN.nv _,yH _ _ _⟩,⟨hca1,rfl,hta,rfl,zT _ _ _⟩,rfl⟩
       show qi _ (slO 82 16 (some ⟨b1,0,none⟩) 1 1 cn.cells::slO 82 16 none 0 0 []::slO 176 17 a3 (vw u.2.abs cn.stamp 0).length c3 ((vw u.2.abs cn.stamp 0).flatMap vA)::slO 82 16 (some ⟨bg,0,none⟩) 1 1 (wK u.2.txn).nv.cells::slO 176 17 a5 (vw u.2.abs 0 8).length c5 ((vw u.2.abs 0 8).flatMap vA)::qD M1 p j::qp M1::L)
       exact eG
      ·refine S.c2 rfl (xM u 0 8 M1 _ (hu.mono hl1)) ?_
       rintro _ _ ⟨a5,c5,rfl,rfl⟩;refine Q.r ?_;refine Q.rd ?_;(repeat (intro b1;refine Q.rd ?_));refine Q.r ?_;refine N.r1 RV.c (qi.trans (M:=pt b1 (cl cn.cells 82)::slO 176 17 a3 (vw u.2.abs cn.stamp 0).length c3 ((vw u.2.abs cn.stamp 0).flatMap vA)::slO 82 16 (some ⟨bg,0,none⟩) 1 1 (wK u.2.txn).nv.cells::slO 176 17 a5 (vw u.2.abs 0 8).length c5 ((vw u.2.abs 0 8).flatMap vA)::gP p j mt md::gT mt ts::vk u::qF (ts.eraseIdx k)::gD md j.done::qp M1::L) eG (qi.trans (qi.cons (qi.cons (qi.cons (qi.cons (vt hk (hq.mono hl1)))))) (qi.trans (vg (sz:=16) (m:=1) rfl) ?_))) ⟨some ⟨b1,0,none⟩,1,[cn],none,0,[],a3,c3,vw u.2.abs cn.stamp 0,some ⟨bg,0,none⟩,1,[(wK u.2.txn).nv],a5,c5,vw u.2.abs 0 8,M1,rfl,hl1,⟨λm hm=>by rw[ji.1 hm];exact hcn,λ_ h=>(by cases h),yH _ _ _,λm hm=>by rw[ji.1 hm];exact xN.nv _,yH _ _ _⟩,⟨hca1,rfl,hta,rfl,zT _ _ _⟩,rfl⟩
       show qi _ (slO 82 16 (some ⟨b1,0,none⟩) 1 1 cn.cells::slO 82 16 none 0 0 []::slO 176 17 a3 (vw u.2.abs cn.stamp 0).length c3 ((vw u.2.abs cn.stamp 0).flatMap vA)::slO 82 16 (some ⟨bg,0,none⟩) 1 1 (wK u.2.txn).nv.cells::slO 176 17 a5 (vw u.2.abs 0 8).length c5 ((vw u.2.abs 0 8).flatMap vA)::qD M1 p j::qp M1::L)
       exact eG
  ·rw[jb hl,jv hl]
   refine Q.r ?_;(repeat (intro b1;refine Q.r ?_));refine N.r1 RV.c (qi.trans (M:=pt b1 (cl (NA.nv {NA.zero with kind:=20,txn:=n.txn,who:=fr}).cells 82)::gP p j mt md::gT mt ts::vk u::qF (ts.eraseIdx k)::gD md j.done::qp M::L) eG (qi.trans (qi.cons (vt hk hq)) (qi.trans (vg (sz:=16) (m:=1) rfl) ?_))) ⟨none,0,[],some ⟨b1,0,none⟩,1,[NA.nv {NA.zero with kind:=20,txn:=n.txn,who:=fr}],none,0,[],none,0,[],none,0,[],M,rfl,qV.refl M,⟨λ_ h=>(by cases h),λm hm=>by rw[ji.1 hm];exact xN.nv _,λ_ h=>(by cases h),λ_ h=>(by cases h),λ_ h=>(by cases h)⟩,⟨rfl,rfl,rfl,rfl,rfl⟩,rfl⟩
   show qi _ (slO 82 16 none 0 0 []::slO 82 16 (some ⟨b1,0,none⟩) 1 1 (NA.nv {NA.zero with kind:=20,txn:=n.txn,who:=fr}).cells::slO 176 17 none 0 0 []::slO 82 16 none 0 0 []::slO 176 17 none 0 0 []::qD M p j::qp M::L)
   exact eG
end Go.Proofs.YtlnfjhiphlfkjaaGreatDoor
namespace Go.Proofs.YtlnfjhiphlfkjaaGreatDoor
open Go Go.SX
theorem YQ {l m:List Int}(h:l.Nodup)(hs:∀x∈l,x∈m):l.length≤m.length:=by
 induction l generalizing m with
 |nil=>exact jw _
 |cons a l ih=>
  have h2:=List.nodup_cons.1 h;have hm:=hs a (kg ..);have:=ih (m:=m.erase a) h2.2 (λx hx=>(List.mem_erase_of_ne (by rintro rfl;exact h2.1 hx)).2 (hs x (jV _ hx)));rw[List.length_erase_of_mem hm] at this;have:=List.length_pos_of_mem hm;rw[jC];omega
structure jDC (j:JG)(Y:Int→Int→Prop)(D:List (Int×Int))(x:Int)(t:TR):Prop where
 xx:t.txn=x
 x1:1≤x
 x2:x≤j.seq
 r:Jn t.parts
 pb:∀q∈t.parts,1≤q∧q≤3
 yn:t.yes.Nodup
 ys:∀q∈t.yes,q∈t.parts∧Y x q
 st:0≤t.stamp
 d:t.stamp=0→qE D x=none
 b:t.stamp=0→qE j.done t.batch=none
structure GI (j:JG)(k:Nat)(Y:Int→Int→Prop)(D:List (Int×Int)):Prop where
 e:j.epoch=0
 sh:j.shards=3
 s0:0≤j.seq
 s1:j.seq≤k
 l0:0≤j.last
 l1:j.last≤k
 kt:qm j.tr
 kd:qm j.done
 kD:qm D
 tx:∀x t,qE j.tr x=some t→jDC j Y D x t
 dd:∀t s,qE D t=some s→t≤j.seq∧s≠0
 dp:∀t s,qE j.done t=some s→s≠0
 b1:∀x t y u,qE j.tr x=some t→qE j.tr y=some u→t.stamp=0→u.stamp=0→t.batch=u.batch→x=y
theorem jDC.to {j j':JG}{Y Y':Int→Int→Prop}{D:List (Int×Int)}{x:Int}{t:TR}(h:jDC j Y D x t)(hs:j.seq≤j'.seq)(hd:j'.done=j.done)(hY:∀x q,Y x q→Y' x q):jDC j' Y' D x t:=
 ⟨h.xx,h.x1,by have:=h.x2;omega,h.r,h.pb,h.yn,λq hq=>⟨(h.ys q hq).1,hY _ _ (h.ys q hq).2⟩,h.st,h.d,by rw[hd];exact h.b⟩
theorem GI.le {j:JG}{k k':Nat}{Y Y':Int→Int→Prop}{D:List (Int×Int)}(h:GI j k Y D)(hk:k≤k')(hY:∀x q,Y x q→Y' x q):GI j k' Y' D:=
 ⟨h.e,h.sh,h.s0,by have:=h.s1;omega,h.l0,by have:=h.l1;omega,h.kt,h.kd,h.kD,λx t ht=>(h.tx x t ht).to (ki _) rfl hY,h.dd,h.dp,h.b1⟩
theorem GI.put {j:JG}{k:Nat}{Y:Int→Int→Prop}{D:List (Int×Int)}(h:GI j k Y D){x:Int}{t t':TR}(ht:qE j.tr x=some t)(h':jDC j Y D x t')(hb:t'.batch=t.batch)(hs:t'.stamp=t.stamp):GI {j with tr:=qN j.tr x t'} k Y D:=by
 have hl:∀y u,qE (qN j.tr x t') y=some u→(y=x∧u=t')∨(y≠x∧qE j.tr y=some u):=by
  intro y u hu;rw[wa h.kt] at hu
  by_cases hy:y=x
  ·rw[jb hy] at hu;exact .inl ⟨hy,by injection hu with hu;exact hu.symm⟩
  ·rw[ja hy] at hu;exact .inr ⟨hy,hu⟩
 refine ⟨h.e,h.sh,h.s0,h.s1,h.l0,h.l1,vy h.kt _ _,h.kd,h.kD,λy u hu=> ?_,h.dd,h.dp,λy u z v hu hv e1 e2 e3=> ?_⟩
 ·rcases hl y u hu with ⟨rfl,rfl⟩|⟨_,hu⟩
  ·exact h'.to (ki _) rfl λ_ _ h=>h
  ·exact (h.tx y u hu).to (ki _) rfl λ_ _ h=>h
 ·rcases hl y u hu with ⟨rfl,rfl⟩|⟨_,hu'⟩<;>rcases hl z v hv with ⟨rfl,rfl⟩|⟨_,hv'⟩
  ·rfl
  ·exact h.b1 _ _ _ _ ht hv' zo e2 (by rw[←hb];exact e3)
  ·exact h.b1 _ _ _ _ hu' ht e1 zo (by rw[←hb];exact e3)
  ·exact h.b1 _ _ _ _ hu' hv' e1 e2 e3
theorem nP {n:NA}(h:qn n=true):n.ops.any xv=false∧n.ops.length≤16:=by
 unfold qn vV at h;simp only[jF,kL,Bool.or_eq_false_iff,j5] at h;exact ⟨h.2.1.2,by omega⟩
def MO (n:NA)(D:List (Int×Int))(ms:List (Int×NA)):Prop:=∀m∈ms,m.2.kind=5→n.kind=7∨qE D m.2.txn=none
theorem MO.nil {n:NA}{D:List (Int×Int)}:MO n D []:=λ_ h=>by cases h
structure NZ (r:NA):Prop where
 t0:0≤r.txn
 t1:r.txn<18446744073709551616
 s:0≤r.stamp
 m:0≤r.mark
 a:0≤r.after
inductive jJl (j:JG)(k:Nat)(Y:Int→Int→Prop)(D:List (Int×Int))(n:NA)(pl:PG):Prop
 |a (h1:pl.rec_=[]) (h2:pl.notes=[]) (h3:MO n D pl.mail) (h4:GI j (k+1) Y D)
 |b (r:NA) (hz:NZ r) (h1:pl.rec_=[]) (h2:pl.notes=[r]) (h3:MO n D pl.mail) (hr:r.kind=19∨r.kind=20∨r.kind=21∨r.kind=22) (h4:qW j r=0) (h5:r.kind=22→qE D r.txn=none) (h6:GI (ve j r) (k+1) Y D) (h7:(ve j r).done=j.done) (h8:(ve j r).last=j.last)
 |c (r:NA) (hz:NZ r) (h1:pl.rec_=[r]) (h2:pl.notes=[]) (h3:pl.mail=[]) (hr:r.kind=18) (h4:qW j r=0) (h6:GI (ve j r) (k+1) Y D) (h7:(ve j r).done=j.done) (h8:(ve j r).last=j.last)
 |d (r:NA) (hz:NZ r) (h1:pl.rec_=[r]) (h2:pl.notes=[]) (hr:r.kind=17) (h3:∀m∈pl.mail,m.2.kind=5→m.2.txn=r.txn∧m.2.stamp=r.stamp∧m.2.code=0) (h4:qW j r=0) (h5:qE D r.txn=none) (h6:r.stamp=j.last+1) (h7:qE j.done r.batch=none)
   (h8:∀q∈r.parts,Y r.txn q) (h9:GI (ve j r) (k+1) Y (qN D r.txn r.stamp)) (ha:(ve j r).done=qN j.done r.batch r.stamp) (hb:(ve j r).last=r.stamp)
end Go.Proofs.YtlnfjhiphlfkjaaGreatDoor
