/- Walks of functions, and plain laws, that the last text rests on. No condition. -/
import Derived.Test.YtlnfjhiphlfkjaaGreatDoorPk05
set_option linter.unusedVariables false
set_option linter.unusedSimpArgs false
set_option linter.unusedSectionVars false
set_option maxHeartbeats 4000000
namespace Go.Proofs.YtlnfjhiphlfkjaaGreatDoor
open Go Go.SX
attribute [local irreducible] swp qq qM qL vX qh St qi qk vu qG
def jGt (M:OM)(L0:HL)(bs:List UInt8)(r:Value)(L':HL):Prop:=∃v:YB,∃M',r=v.val∧v.bs=bs∧wc M' v∧bs.length≤v.c∧qU M M'∧L'=qo M'::L0
theorem Vn (a:OA)(c:Nat)(bs:List UInt8)(M:OM)(L L0:HL)[hP:xb L M L0](h:qW L a bs.length 1 (bs.map B))(hb:bs.length≤100000000000000):
  qh kY 135 [.slice a bs.length c] L (jGt M L0 bs):=by
 refine qg Tryz.func135 rfl rfl rfl ?_
 cases a with
 |none=>
  have h0:bs=[]:=by
   rcases h.2 with h0|⟨b,o,e,_⟩
   ·exact jO h0
   ·cases e
  subst h0;refine Q.r ?_;exact N.t rfl hP.ent ⟨⟨none,0,[]⟩,M,rfl,rfl,qH.nil,jz _,qU.refl _,rfl⟩
 |some ad=>
  refine Q.r ?_;(repeat (intro b1;refine Q.r ?_));refine qm (ve (sz:=1) (m:=0) rfl) ?_;refine Q.r ?_;refine S.app0 rfl rfl rfl (vA.rd h.sub (zM _)) zr zo zo (λa' c'=> ?_);refine wA a' (λM' hl hs hc=> ?_);refine Q.r ?_;exact N.t rfl (kZ _) ⟨⟨a',c',bs⟩,M',rfl,rfl,hs,hc,hl,rfl⟩
theorem Wo (a:OA)(c:Nat)(vs:List YB)(M:OM)(L L0:HL)[hP:xb L M L0](h:qW L a vs.length 1 (vs.flatMap YB.cells))(hv:∀v∈vs,n4 L v)(hc:vs.length≤c)(hn:vs.length≤1000000)(hb:(qV vs).length≤100000000000000):
  qh kY 59 [.slice a vs.length c,.slice none 0 0] L (jGt M L0 (qV vs)):=by
 refine qg Tryz.func59 rfl rfl rfl ?_
 by_cases h0:vs.length=0
 ·have e0:vs=[]:=jO h0
  subst e0;refine Q.r ?_;(repeat (intro b1;refine Q.r ?_));exact N.t rfl (qi.drop hP.ent) ⟨⟨some ⟨b1,0,none⟩,0,[]⟩,M,rfl,rfl,qH.nil,jz _,qU.refl _,rfl⟩
 ·by_cases h1:vs.length=1
  ·obtain ⟨v,rfl⟩:∃v,vs=[v]:=by
    match vs,h1 with
    | [v],_=>exact ⟨v,rfl⟩
   have hv0:=hv v (by simp);have hvl:v.bs.length≤100000000000000:=by simpa[qV] using hb
   obtain ⟨b,o,rfl,hr⟩:=qW.elem (k:=0) (x:=v) (g:=YB.cells) (λ_=>rfl) h rfl rfl;unfold n4 at hv0;refine Q.r ?_;refine qm (vh (t:=5) (sz:=1)) ?_;refine S.app0 rfl rfl rfl (vA.rd hv0.sub (zM _)) zr zo zo (λa' c'=> ?_);refine wA a' (λM' hl hs hc'=> ?_);refine Q.r ?_;exact N.t rfl (kZ _) ⟨⟨a',c',v.bs⟩,M',rfl,by simp[qV],hs,by simpa[qV] using hc',hl,rfl⟩
  ·refine Q.r ?_
   have hS:∀k,(qV (vs.take k)).length≤(qV vs).length:=λk=>by
    conv=>rhs;rw[←kJ k vs]
    unfold qV;rw[kS,jc];omega
   have hsn:∀{k:Nat} {v:YB},vs[k]? =some v→qV (vs.take (k+1))=qV (vs.take k)++v.bs:=λ{k v} hx=>by
    rw[qz hx];unfold qV;rw[kS];simp
   refine qx (σ:=Unit) (λ_=> [(0,.slice a vs.length c),(1,.slice none 0 0),(5,.int .i64 (qV vs).length)]) (λ_=>L) (λ_=>True) ?_ ?_
   ·refine ql (σ:=Nat) (λk=> [(0,.slice a vs.length c),(1,.slice none 0 0),(42,.slice a vs.length c),(43,.int .i64 vs.length),(5,.int .i64 (qV (vs.take k)).length),(44,.int .i64 k)]) (λ_=>L)
     (λk=>k≤vs.length) (λk=>vs.length - k) 0 zt (kZ _) zo ?_
    intro k hk
    by_cases hlt:k<vs.length
    ·obtain ⟨v,hx⟩:=qw hlt
     obtain ⟨b,o,hab,hr⟩:=qW.elem (g:=YB.cells) (λ_=>rfl) h hx rfl;have h2:=hS (k+1);have e2:=jj List.length (hsn hx);rw[jc] at e2;rw[hab];refine Q.r ?_;refine ⟨k+1,⟨rfl,rfl,rfl,rfl,by rw[e2];rfl,rfl,trivial⟩,kZ _,by omega,by omega⟩
    ·have hke:k=vs.length:=by omega
     subst hke;refine Q.r ?_;refine ⟨(),⟨rfl,rfl,?_,trivial⟩,kZ _,trivial⟩;rw[jI];rfl
   intro _ _;refine Q.r ?_;refine S.mnz (fn:=Tryz.f123) (ps:= #[3]) (t:=34) (m:=(qV vs).length) zk zk zk zk zk rfl zo (λbb cs hcs=> ?_);refine Q.r ?_;refine S.y (Y.sl3n (h:=(qV vs).length) (mm:=(qV vs).length) rfl rfl rfl rfl rfl (jz _) hcs) ?_;obtain ⟨v,hx⟩:=qw (show 0<vs.length by omega);obtain ⟨b,o,rfl,hr⟩:=qW.elem (g:=YB.cells) (λ_=>rfl) h hx rfl;have hs0:qV (vs.take 1)=v.bs:=by
    have:=hsn hx
    rwa [kB] at this
   have hmv:=jn hx;have hS1:=pJ hmv;have hv0:=hv v hmv;unfold n4 at hv0;refine Q.r ?_;refine S.y (Y.ia (k:=0) rfl rfl rfl zo) ?_;refine Q.r ?_;refine Qj (σ:=Unit) (λ_=> [(0,.slice (some ⟨b,o,none⟩) vs.length c),(1,.slice none 0 0),(8,.slice (some ⟨bb,0,none⟩) (qV vs).length (qV vs).length),(9,.int .i64 v.bs.length)]) (λ_=>pt bb (cl (v.bs.map B++cs.drop v.bs.length) 5)::L) (λ_=>True) ?_ ?_
   ·obtain ⟨va,vc,vb⟩:=v
    dsimp only at hv0 hS1 hs0 ⊢
    rcases hv0.2 with hz|⟨b2,o2,hva,hvr⟩
    ·have hvn:vb=[]:=jO hz
     subst hvn;refine S.cpy0 rfl rfl ?_;refine Q.r ?_;exact ⟨(),zt,by exact eG,trivial⟩
    ·subst hva
     refine S.cpy (l':=vb.map B++cs.drop vb.length) rfl rfl hvr.sub (by rw[jf,jX];exact (Nat.min_eq_left hS1).symm) (by rw[jf];omega) (zM _) (by have:=nY [] cs (vb.map B);simpa using this) ?_;rw[show min vb.length (qV vs).length=vb.length by omega];refine Q.r ?_;exact ⟨(),zt,by exact eG,trivial⟩
   intro _ _;refine Q.r ?_;refine S.y (Y.slF (l:=1) rfl rfl rfl zo) ?_;rw[ja (show ¬c=1 by omega)];refine Q.r ?_;have htl:qW L (some ⟨b,o+1*1,none⟩) (vs.length - 1) 1 ((vs.drop 1).flatMap YB.cells):=by
    have:=qW.from2 (l:=1) h zo hc;rw[ja (show ¬c=1 by omega),ZU (sz:=1) (λ_=>rfl)] at this;exact this
   refine qx (σ:=Unit) (λ_=> [(8,.slice (some ⟨bb,0,none⟩) (qV vs).length (qV vs).length)]) (λ_=>pt bb (cl ((qV vs).map B++cs.drop (qV vs).length) 5)::L) (λ_=>True) ?_ ?_
   ·refine ql (σ:=Nat) (λk=> [(1,.slice none 0 0),(8,.slice (some ⟨bb,0,none⟩) (qV vs).length (qV vs).length),(70,.slice (some ⟨b,o+1*1,none⟩) (vs.length - 1) (c - 1)),(71,.int .i64 ((vs.length - 1:Nat):Int)),(9,.int .i64 (qV (vs.take (k+1))).length),(72,.int .i64 k)])
     (λk=>pt bb (cl ((qV (vs.take (k+1))).map B++cs.drop (qV (vs.take (k+1))).length) 5)::L)
     (λk=>k≤vs.length - 1) (λk=>vs.length - 1 - k) 0 ⟨rfl,rfl,rfl,rfl,by rw[hs0];rfl,rfl,trivial⟩ (by rw[hs0];exact kZ _) zo ?_
    intro k hk;have hSk:=hS (k+1)
    by_cases hlt:k<vs.length - 1
    ·obtain ⟨u,hu⟩:=qw (show k+1<vs.length by omega)
     have hmu:=jn hu;have hsu:=hsn hu;have hSu:=hS (k+1+1);have hu0:=hv u hmu;unfold n4 at hu0;generalize hpre:qV (vs.take (k+1))=pre at*;have htl2:qW (pt bb (cl (pre.map B++cs.drop pre.length) 5)::L) (some ⟨b,o+1*1,none⟩) (vs.length - 1) 1 ((vs.drop 1).flatMap YB.cells):=htl.sub;have hu2:(vs.drop 1)[k]? =some u:=by rw[List.getElem?_drop,Nat.add_comm];exact hu
     obtain ⟨b3,o3,he,hr3⟩:=qW.elem (g:=YB.cells) (λ_=>rfl) htl2 hu2 (by simp)
     cases he
     rw[hsu,jc] at hSu;refine Q.r ?_;refine S.y (Y.slF (l:=pre.length) rfl rfl rfl zo) ?_;refine Q.r ?_;refine S.cpy0 rfl rfl ?_;refine Q.r ?_;refine S.y (Y.slF (l:=pre.length) rfl rfl (Int.add_zero _) zo) ?_;refine Q.r ?_;obtain ⟨ua,uc,ub⟩:=u;dsimp only at hu0 hSu hsu ⊢
     by_cases hz:ub.length=0
     ·have hvn:ub=[]:=jO hz
      subst hvn;refine S.cpy0 rfl rfl ?_;refine Q.r ?_;rw[jG] at hsu;refine ⟨k+1,⟨rfl,rfl,rfl,rfl,?_,rfl,trivial⟩,by rw[hsu];exact kZ _,by omega,by omega⟩;rw[hsu];exact jj some (jj (Value.int .i64) (by simp))
     ·obtain ⟨b2,o2,hva,hvr⟩:=hu0.2.resolve_left hz
      subst hva;rw[ja (show ¬(qV vs).length=pre.length by omega)];refine S.cpy (l':=(pre++ub).map B++cs.drop (pre++ub).length) rfl rfl hvr.sub (by rw[jf,jX];exact (Nat.min_eq_left zo).symm) (by rw[jc,jf,jf,jE];omega) (zM _) ?_ ?_
      ·have:=nY (pre.map B) (cs.drop pre.length) (ub.map B)
       rw[jf,jf,List.drop_drop] at this;rw[jq,jc,kR,jX];exact this
      rw[show min ub.length ((qV vs).length - pre.length)=ub.length by omega];refine Q.r ?_;refine ⟨k+1,⟨rfl,rfl,rfl,rfl,?_,rfl,trivial⟩,by rw[hsu];exact kZ _,by omega,by omega⟩;rw[hsu,jc];exact jj some (jj (Value.int .i64) (by simp))
    ·have hke:k=vs.length - 1:=by omega
     subst hke;rw[show vs.length - 1+1=vs.length by omega,jI];refine Q.r ?_;exact ⟨(),zt,kZ _,trivial⟩
   ·intro _ _
    refine jAG bb (t:=5) (l:=(qV vs).map B++cs.drop (qV vs).length) (m:=(qV vs).length) (cs:=(qV vs).map B) (by rw[jc,jf];omega) (List.take_left' (by rw[jf])) (λM' hl hs=> ?_);refine Q.r ?_;exact N.t rfl (kZ _) ⟨⟨some ⟨bb,0,none⟩,(qV vs).length,qV vs⟩,M',rfl,rfl,hs,jz _,hl,rfl⟩
end Go.Proofs.YtlnfjhiphlfkjaaGreatDoor
namespace Go.SX
open Go
def yA :Nat→Nat→List UInt8
 |0,_=> []
 |k+1,n=>UInt8.ofNat (n % 256)::yA k (n / 256)
def yb :List UInt8→Nat
 | []=>0
 |b::bs=>yb bs*256+b.toNat
theorem yN :∀k n,(yA k n).length=k
 |0,_=>rfl
 |k+1,n=>by simp[yA,yN k]
theorem X4 :∀k n,n<256^k→yb (yA k n)=n
 |0,n,h=>by simp[yA,yb] at*;omega
 |k+1,n,h=>by
  have h2:n / 256<256^k:=by rw[Nat.div_lt_iff_lt_mul zd];rwa [Nat.pow_succ] at h
  show yb (yA k (n / 256))*256+(UInt8.ofNat (n % 256)).toNat=n
  rw[X4 k _ h2,UInt8.toNat_ofNat'];omega
theorem cw :∀bs:List UInt8,yb bs<256^bs.length
 | []=>by simp[yb]
 |b::bs=>by
  have h:=cw bs;have hb:=b.toNat_lt;rw[jC,Nat.pow_succ]
  show yb bs*256+b.toNat<_
  omega
theorem jHn (n:Nat):yA 4 n=[UInt8.ofNat (n % 256),UInt8.ofNat (n / 2^8 % 256),UInt8.ofNat (n / 2^16 % 256),UInt8.ofNat (n / 2^24 % 256)]:=by
 show [UInt8.ofNat (n % 256),UInt8.ofNat (n / 256 % 256),UInt8.ofNat (n / 256 / 256 % 256),UInt8.ofNat (n / 256 / 256 / 256 % 256)]=_
 rw[Nat.div_div_eq_div_mul,Nat.div_div_eq_div_mul]
theorem Y.cv8 {P:Program}{n:Nat}{ops:List Oper}{f:vF}{A:HL}{d:Tmp}{ty:TypeId}{pos:String}{af:Array Edge}{x:Operand}{s t:TypeId}{k:IntKind}{a:Nat}[h0:yZ P s][h2:zK P t .u8](hx:ev f x=some (.int k (a:Int))):qk P n ops ⟨some d,.convert s t x,ty,pos,af,none⟩ f A (B (UInt8.ofNat (a % 256))):=by
 have h:=Y.cvi (P:=P) (n:=n) (ops:=ops) (A:=A) (d:=d) (ty:=ty) (pos:=pos) (af:=af) (t:=s) (t':=t) (k':=.u8) hx;have e:IntKind.u8.wrap (a:Int)=((UInt8.ofNat (a % 256)).toNat:Int):=by
  rw[UInt8.toNat_ofNat']
  simp[IntKind.wrap,IntKind.bits,IntKind.signed]
 rw[e] at h;exact h
theorem bA {n:Nat}(h:n<9223372036854775808):IntKind.i64.wrap (n:Int)=(n:Int):=by
 simp[IntKind.wrap,IntKind.bits,IntKind.signed];omega
section
variable {P : Program} {n : Nat} {ops : List Oper} {f : vF} {A : HL} {d : Tmp} {ty : TypeId} {pos : String} {af : Array Edge} {x y : Operand} {t t' : TypeId} {k k' : IntKind} {a b : Nat}
theorem Y.cv64 [h0:yZ P t][h2:zK P t' .i64](hx:ev f x=some (.int k (a:Int)))(ha:a<9223372036854775808):qk P n ops ⟨some d,.convert t t' x,ty,pos,af,none⟩ f A (.int .i64 (a:Int)):=bA ha▸Y.cvi hx
theorem Y.shl64 (hx:ev f x=some (.int .i64 (a:Int)))(hy:ev f y=some (.int k' (b:Int)))(hb:b≤IntKind.i64.bits)(h:a*2^b<9223372036854775808):qk P n ops ⟨some d,.binOp .shl t x y t',ty,pos,af,none⟩ f A (.int .i64 ((a*2^b:Nat):Int)):=bA h▸Y.shl hx hy hb
theorem Y.shl32 (hx:ev f x=some (.int .u32 (a:Int)))(hy:ev f y=some (.int k' (b:Int)))(hb:b≤IntKind.u32.bits)(h:a*2^b<4294967296):qk P n ops ⟨some d,.binOp .shl t x y t',ty,pos,af,none⟩ f A (.int .u32 ((a*2^b:Nat):Int)):=XC h▸Y.shl hx hy hb
theorem jA5 {m:Nat}(ha:a<2^m):a|||b*2^m=a+b*2^m:=by rw[Nat.or_comm,Nat.mul_comm,←Nat.two_pow_add_eq_or_of_lt ha,Nat.add_comm]
theorem Y.or64 {m:Nat}(hx:ev f x=some (.int .i64 (a:Int)))(hy:ev f y=some (.int .i64 ((b*2^m:Nat):Int)))(ha:a<2^m)(h:a+b*2^m<9223372036854775808):qk P n ops ⟨some d,.binOp .or t x y t',ty,pos,af,none⟩ f A (.int .i64 ((a+b*2^m:Nat):Int)):=by
 have h1:=Y.orr (P:=P) (n:=n) (ops:=ops) (A:=A) (d:=d) (ty:=ty) (pos:=pos) (af:=af) (t:=t) (t':=t') hx hy;have e:∀z:Nat,z<9223372036854775808→(BitVec.ofInt IntKind.i64.bits (z:Int)).toNat=z:=λz hz=>by
  show (BitVec.ofInt 64 (z:Int)).toNat=z
  simp;omega
 rw[BitVec.toNat_or,e _ zo,e _ zo,jA5 ha,bA h] at h1;exact h1
theorem Y.or32a {m:Nat}(hx:ev f x=some (.int .u32 (a:Int)))(hy:ev f y=some (.int .u32 ((b*2^m:Nat):Int)))(ha:a<2^m)(h:a+b*2^m<4294967296):qk P n ops ⟨some d,.binOp .or t x y t',ty,pos,af,none⟩ f A (.int .u32 ((a+b*2^m:Nat):Int)):=jA5 ha▸Y.or32 hx hy zo zo
end
theorem qW.row1y {L:HL}{b n:Nat}{l:List Value}{t:TypeId}[h:y9 b L (cl l t)](hl:l.length=n):qW L (some ⟨b,0,none⟩) n 1 l:=⟨by rw[hl,jX],.inr ⟨b,0,rfl,vg.row⟩⟩
theorem qH.from2 {M:OM}{b o m c l sz:Nat}{cs:List Value}(h:qH M (some ⟨b,o,none⟩) m sz cs)(h1:l≤m)(h2:m≤c):qH M (some ⟨b,if c=l then o else o+l*sz,none⟩) (m - l) sz (cs.drop (l*sz)):=by
 refine ⟨by rw[jE,h.1,Nat.sub_mul],?_⟩
 rcases h.2 with h3|⟨b',o',l',t,fz,e,e1,e2⟩
 ·exact .inl zo
 ·by_cases hc:c=l
  ·exact .inl zo
  ·cases e
   rw[ja hc];refine .inr ⟨b,o+l*sz,l',t,fz,rfl,e1,λj v hj=> ?_⟩;rw[List.getElem?_drop] at hj;have:=e2 _ v hj
   rwa [←Nat.add_assoc] at this
theorem wc.cut {M:OM}{b o c:Nat}{bs:List UInt8}(h:qH M (some ⟨b,o,none⟩) bs.length 1 (bs.map B))(hc:bs.length≤c)(l k:Nat)(hk:l+k≤bs.length):
  wc M ⟨some ⟨b,if c=l then o else o+l*1,none⟩,c - l,(bs.drop l).take k⟩:=by
 have h1:=qH.take (qH.from2 (l:=l) h zo hc) (k:=k) zo;unfold wc;dsimp only;have e:((bs.drop l).take k).length=k:=by rw[jP,jE];omega
 rw[e,List.map_take,List.map_drop];simp only[jX] at h1 ⊢;exact h1
theorem wc.tail {M:OM}{b o c:Nat}{bs:List UInt8}(h:qH M (some ⟨b,o,none⟩) bs.length 1 (bs.map B))(hc:bs.length≤c)(l:Nat)(hk:l≤bs.length):
  wc M ⟨some ⟨b,if c=l then o else o+l*1,none⟩,c - l,bs.drop l⟩:=by
 have h1:=qH.from2 (l:=l) h zo hc;unfold wc;dsimp only;rw[jE,List.map_drop];simp only[jX] at h1 ⊢;exact h1
def Ku (p:List UInt8):List UInt8:=yA 2 p.length++p
def frB (p:List UInt8):List UInt8:=yA 4 (JM (Ku p))++Ku p
theorem yf (p:List UInt8):(frB p).length=6+p.length:=by
 unfold frB Ku;rw[jc,jc,yN,yN];omega
def VW (p:List UInt8):Nat:=yb ((p.drop 4).take 2)
def zZ (p:List UInt8):Int:=if p.length<6 then 2 else if 4096<VW p then 3 else if p.length - 6<VW p then 2 else if JM ((p.drop 4).take (2+VW p))≠yb (p.take 4) then 5 else 0
def VC (p:List UInt8):List UInt8:=(p.drop 6).take (VW p)
def Y4 (p:List UInt8):List UInt8:=p.drop (6+VW p)
theorem X2 {p:List UInt8}(h:zZ p=0):6≤p.length∧VW p≤4096∧6+VW p≤p.length∧JM ((p.drop 4).take (2+VW p))=yb (p.take 4):=by
 unfold zZ at h
 split at h
 ·cases h
 split at h
 ·cases h
 split at h
 ·cases h
 split at h
 ·cases h
 ·rename_i h1 h2 h3 h4
  exact ⟨by omega,by omega,by omega,Decidable.not_not.1 h4⟩
theorem cu {p:List UInt8}(h:zZ p=0):(VC p).length=VW p:=by
 have:=X2 h;unfold VC;rw[jP,jE];omega
theorem fy (p r:List UInt8)(hp:p.length≤4096):zZ (frB p++r)=0∧VC (frB p++r)=p∧Y4 (frB p++r)=r∧VW (frB p++r)=p.length:=by
 have l4:=yN 4 (JM (Ku p));have l2:=yN 2 p.length;have e4:(frB p++r).drop 4=yA 2 p.length++(p++r):=by
  unfold frB;rw[ju,List.drop_left' l4];unfold Ku;rw[ju]
 have eN:VW (frB p++r)=p.length:=by
  unfold VW;rw[e4,List.take_left' l2,X4 2 _ zo]
 have e6:(frB p++r).drop 6=p++r:=by
  rw[show 6=4+2 from rfl,←List.drop_drop,e4,List.drop_left' l2]
 have hl:(frB p++r).length=6+p.length+r.length:=by rw[jc,yf]
 refine ⟨?_,?_,?_,eN⟩
 ·unfold zZ
  rw[ja zo,eN,ja zo,ja zo,ja];rw[Decidable.not_not,e4,←ju,List.take_left' (by rw[jc,l2])];have:(frB p++r).take 4=yA 4 (JM (Ku p)):=by
   unfold frB;rw[ju,List.take_left' l4]
  rw[this,X4 4 _ (by have:=Xy (Ku p);omega)];rfl
 ·unfold VC
  rw[e6,eN,List.take_left]
 ·unfold Y4
  rw[eN,←List.drop_drop,e6,kF]
end Go.SX
namespace Go.Proofs.YtlnfjhiphlfkjaaGreatDoor
open Go Go.SX
attribute [local irreducible] swp qq qM qL vX qh St qi qk vu qG
def jHr (M:OM)(L0:HL)(bs:List UInt8)(r:Value)(L':HL):Prop:=∃v:YB,∃M',r=.tuple #[v.val,.int .i64 (if 4096<bs.length then 3 else 0)]∧v.bs=(if 4096<bs.length then [] else frB bs)∧wc M' v∧v.bs.length≤v.c∧qU M M'∧L'=qo M'::L0
theorem zL (a:OA)(c:Nat)(vs:List YB)(M:OM)(L L0:HL)[hP:xb L M L0](h:qW L a vs.length 1 (vs.flatMap YB.cells))(hv:∀v∈vs,n4 L v)(hT:xg M)(hc:vs.length≤c)(hn:vs.length≤1000000)(hb:(qV vs).length≤100000000000000):
  qh kY 141 [.slice a vs.length c] L (jHr M L0 (qV vs)):=by
 refine qg Tryz.func141 rfl rfl rfl ?_;refine Q.r ?_;refine S.cr rfl (Wo a c vs M L L0 h hv hc hn hb) ?_;rintro _ _ ⟨v,M1,rfl,hj,hjo,hjc,hl1,rfl⟩;rw[←hj] at*;have hT1:=hT.mono hl1
 by_cases hbig:4096<v.bs.length
 ·refine Q.r ?_
  refine N.u rfl rfl (kZ _) ⟨⟨none,0,[]⟩,M1,by rw[jb hbig];rfl,by rw[jb hbig],qH.nil,jz _,hl1,rfl⟩
 ·refine Q.r ?_
  refine S.y (Y.cv8 rfl) ?_;refine Q.r ?_;refine S.y (Y.shr rfl rfl zd) ?_;refine S.y (Y.cv8 rfl) ?_;refine Q.r ?_;(repeat (intro b1;refine Q.r ?_));rename_i b2
  let w1:YB:=⟨some ⟨b2,0,none⟩,2,yA 2 v.bs.length⟩
  refine S.cr rfl (gB (some ⟨b1,0,none⟩) 2 [w1,v] _ (qW.row1y rfl) ?_ (xg.rd hT1) (by simp) ?_) ?_
  ·intro u hu
   rcases j9.1 hu with rfl|hu
   ·exact qW.row1y rfl
   ·rw[ji.1 hu];exact hjo.rd
  ·simp[qV,w1,yN];omega
  rintro _ _ ⟨rfl,rfl⟩;rw[show qV [w1,v]=Ku v.bs from by simp[qV,w1,Ku]];have hcc:frB v.bs=yA 4 (JM (Ku v.bs))++(yA 2 v.bs.length++v.bs):=rfl;generalize JM (Ku v.bs)=cc at hcc ⊢;refine Q.r ?_;refine S.y (Y.cv8 rfl) ?_;refine Q.r ?_;refine S.y (Y.shr rfl rfl zd) ?_;refine S.y (Y.cv8 rfl) ?_;refine Q.r ?_;refine S.y (Y.shr rfl rfl zd) ?_;refine S.y (Y.cv8 rfl) ?_;refine Q.r ?_;refine S.y (Y.shr rfl rfl zd) ?_;refine S.y (Y.cv8 rfl) ?_;refine Q.r ?_;(repeat (intro b1;refine Q.r ?_));rename_i b4 
  let w2:YB:=⟨some ⟨b4,0,none⟩,4,yA 4 cc⟩
  have hw:qV [w2,w1,v]=frB v.bs:=by rw[hcc];simp[qV,w1,w2]
  refine S.cr rfl (Wo (some ⟨b1,0,none⟩) 3 [w2,w1,v] M1 _ _ (qW.row1y rfl) ?_ (jz _) (by simp) (by rw[hw,yf];omega)) ?_
  ·intro u hu
   rcases j9.1 hu with rfl|hu
   ·show qW _ (some ⟨b4,0,none⟩) 4 1 ((yA 4 cc).map B)
    rw[jHn];exact qW.row1y rfl
   rcases j9.1 hu with rfl|hu
   ·exact qW.row1y rfl
   ·rw[ji.1 hu];exact hjo.rd
  rintro _ _ ⟨u,M2,rfl,hu,huo,huc,hl2,rfl⟩;refine Q.r ?_;refine N.u rfl rfl ?_ ⟨u,M2,by rw[ja hbig],by rw[ja hbig,hu,hw],huo,by rw[hu];exact huc,hl1.trans hl2,rfl⟩;exact eG
def jC6 (M:OM)(L0:HL)(p:List UInt8)(r:Value)(L':HL):Prop:=∃v w:YB,∃M',r=.tuple #[v.val,w.val,.int .i64 (zZ p)]∧v.bs=(if zZ p=0 then VC p else [])∧w.bs=(if zZ p=0 then Y4 p else [])∧wc M' v∧wc M' w∧v.bs.length≤v.c∧w.bs.length≤w.c∧qU M M'∧L'=qo M'::L0
theorem Vj (a:OA)(c:Nat)(bs:List UInt8)(M:OM)(L0:HL)(h:qH M a bs.length 1 (bs.map B))(hT:xg M)(hc:bs.length≤c)(hb:bs.length≤100000000000):
  qh kY 140 [.slice a bs.length c] (qo M::L0) (jC6 M L0 bs):=by
 refine qg Tryz.func140 rfl rfl rfl ?_
 by_cases h6:bs.length<6
 ·refine Q.r ?_
  have e:zZ bs=2:=by unfold zZ;rw[jb h6]
  exact N.r3 (RV.tmp rfl (RV.tmp rfl (RV.tmp rfl RV.nil))) (kZ _) ⟨⟨none,0,[]⟩,⟨none,0,[]⟩,M,by rw[e];rfl,by rw[e];rfl,by rw[e];rfl,qH.nil,qH.nil,jz _,jz _,qU.refl _,rfl⟩
 have hrd:qW (qo M::L0) a bs.length 1 (bs.map B):=qH.rd h;obtain ⟨b,o,rfl,hr⟩:=hrd.2.resolve_left zo;obtain ⟨x0,x1,x2,x3,x4,x5,tl,rfl⟩:∃x0 x1 x2 x3 x4 x5 tl,bs=x0::x1::x2::x3::x4::x5::tl:=by
  match bs,h6 with
  |x0::x1::x2::x3::x4::x5::tl,_=>exact ⟨x0,x1,x2,x3,x4,x5,tl,rfl⟩
  | [],h=>exact absurd (by simp) h
  | [_],h=>exact absurd (by simp) h
  | [_,_],h=>exact absurd (by simp) h
  | [_,_,_],h=>exact absurd (by simp) h
  | [_,_,_,_],h=>exact absurd (by simp) h
  | [_,_,_,_,_],h=>exact absurd (by simp) h
 have hrA:vg (qo M::[]) b o ((x0::x1::x2::x3::x4::x5::tl).map B):=by
  have h2:qW (qo M::[]) (some ⟨b,o,none⟩) _ 1 _:=qH.rd h
  rcases h2.2 with h3|⟨b',o',e,r⟩
  ·cases h3
  ·cases e;exact r
 have hx0:=x0.toNat_lt;have hx1:=x1.toNat_lt;have hx2:=x2.toNat_lt;have hx3:=x3.toNat_lt;have hx4:=x4.toNat_lt;have hx5:=x5.toNat_lt;refine Q.r ?_;refine Q.dgo [true] [] [] [0,1,2,3,4,5,6,7,8,9,10] ?_
 repeat (first|refine Q.dyn rfl rfl rfl ?_|refine Q.dyl rfl rfl rfl ?_|refine D.y rfl rfl rfl zk (by first|exact (Y.ldRj rfl (by first|assumption|exact vg.sub (by assumption)) rfl)|exact Y.guard rfl (Y.ldRj rfl (by first|assumption|exact vg.sub (by assumption)) rfl)) ?_|refine D.endA ?_|refine Q.dy rfl rfl rfl ?_|refine Q.dp rfl rfl rfl ?_|refine D.end_ ?_|refine Q.endH ?_|(refine D.e rfl rfl rfl ?_;(first|refine S.gskip1 rfl ?_|refine S.gskip rfl ?_|refine S.y (Y.gskipU rfl) ?_);refine qO ?_;refine N.tn ?_)|refine Q.dT rfl rfl rfl ?_|refine Q.dF rfl rfl rfl ?_|(refine D.e rfl rfl rfl ?_;(first|(refine GQ.a ?_;refine Q.al (λb1=> ?_))|(refine GQ.s ?_;refine Q.st ?_));refine qO ?_;refine N.tn ?_))
 refine D.yp rfl rfl rfl (Y.cv64 (a:=x4.toNat) rfl zo) ?_
 repeat (first|refine Q.dyn rfl rfl rfl ?_|refine Q.dyl rfl rfl rfl ?_|refine D.y rfl rfl rfl zk (by first|exact (Y.ldRj rfl (by first|assumption|exact vg.sub (by assumption)) rfl)|exact Y.guard rfl (Y.ldRj rfl (by first|assumption|exact vg.sub (by assumption)) rfl)) ?_|refine D.endA ?_|refine Q.dy rfl rfl rfl ?_|refine Q.dp rfl rfl rfl ?_|refine D.end_ ?_|refine Q.endH ?_|(refine D.e rfl rfl rfl ?_;(first|refine S.gskip1 rfl ?_|refine S.gskip rfl ?_|refine S.y (Y.gskipU rfl) ?_);refine qO ?_;refine N.tn ?_)|refine Q.dT rfl rfl rfl ?_|refine Q.dF rfl rfl rfl ?_|(refine D.e rfl rfl rfl ?_;(first|(refine GQ.a ?_;refine Q.al (λb1=> ?_))|(refine GQ.s ?_;refine Q.st ?_));refine qO ?_;refine N.tn ?_))
 refine D.yp rfl rfl rfl (Y.cv64 (a:=x5.toNat) rfl zo) ?_;refine D.yp rfl rfl rfl (Y.shl64 (a:=x5.toNat) (b:=8) rfl rfl zd zo) ?_;refine D.yp rfl rfl rfl (Y.or64 (a:=x4.toNat) (b:=x5.toNat) (m:=8) rfl rfl zo zo) ?_
 repeat (first|refine Q.dyn rfl rfl rfl ?_|refine Q.dyl rfl rfl rfl ?_|refine D.y rfl rfl rfl zk (by first|exact (Y.ldRj rfl (by first|assumption|exact vg.sub (by assumption)) rfl)|exact Y.guard rfl (Y.ldRj rfl (by first|assumption|exact vg.sub (by assumption)) rfl)) ?_|refine D.endA ?_|refine Q.dy rfl rfl rfl ?_|refine Q.dp rfl rfl rfl ?_|refine D.end_ ?_|refine Q.endH ?_|(refine D.e rfl rfl rfl ?_;(first|refine S.gskip1 rfl ?_|refine S.gskip rfl ?_|refine S.y (Y.gskipU rfl) ?_);refine qO ?_;refine N.tn ?_)|refine Q.dT rfl rfl rfl ?_|refine Q.dF rfl rfl rfl ?_|(refine D.e rfl rfl rfl ?_;(first|(refine GQ.a ?_;refine Q.al (λb1=> ?_))|(refine GQ.s ?_;refine Q.st ?_));refine qO ?_;refine N.tn ?_))
 have hnn:x4.toNat+x5.toNat*2^8=VW (x0::x1::x2::x3::x4::x5::tl):=by
  show _=(0*256+x5.toNat)*256+x4.toNat
  omega
 have hn8:x4.toNat+x5.toNat*2^8<65536:=by omega
 rw[hnn] at hn8 ⊢;have hw4:yb ((x0::x1::x2::x3::x4::x5::tl).take 4)=x0.toNat+x1.toNat*2^8+x2.toNat*2^16+x3.toNat*2^24:=by
  show (((0*256+x3.toNat)*256+x2.toNat)*256+x1.toNat)*256+x0.toNat=_
  omega
 have hE:zZ (x0::x1::x2::x3::x4::x5::tl)=if 4096<VW (x0::x1::x2::x3::x4::x5::tl) then 3 else if (x0::x1::x2::x3::x4::x5::tl).length - 6<VW (x0::x1::x2::x3::x4::x5::tl) then 2 else if JM (((x0::x1::x2::x3::x4::x5::tl).drop 4).take (2+VW (x0::x1::x2::x3::x4::x5::tl)))≠yb ((x0::x1::x2::x3::x4::x5::tl).take 4) then 5 else 0:=by
  conv=>lhs;unfold zZ
  rw[ja h6]
 have hnB:VC (x0::x1::x2::x3::x4::x5::tl)=((x0::x1::x2::x3::x4::x5::tl).drop 6).take (VW (x0::x1::x2::x3::x4::x5::tl)):=rfl;have hnR:Y4 (x0::x1::x2::x3::x4::x5::tl)=(x0::x1::x2::x3::x4::x5::tl).drop (6+VW (x0::x1::x2::x3::x4::x5::tl)):=rfl;generalize VW (x0::x1::x2::x3::x4::x5::tl)=nn at*;have hno:∀e:Int,e≠0→zZ (x0::x1::x2::x3::x4::x5::tl)=e→jC6 M L0 (x0::x1::x2::x3::x4::x5::tl) (.tuple #[.slice none 0 0,.slice none 0 0,.int .i64 e]) (qo M::L0):=λe he hq=>
  ⟨⟨none,0,[]⟩,⟨none,0,[]⟩,M,by rw[hq];rfl,by rw[hq,ja he],by rw[hq,ja he],qH.nil,qH.nil,jz _,jz _,qU.refl _,rfl⟩
 by_cases h4:4096<nn
 ·rw[jb h4] at hE
  refine Q.r ?_;exact N.r3 (RV.tmp rfl (RV.tmp rfl (RV.tmp rfl RV.nil))) (kZ _) (hno 3 zd hE)
 rw[ja h4] at hE
 by_cases h5:(x0::x1::x2::x3::x4::x5::tl).length - 6<nn
 ·rw[jb h5] at hE
  refine Q.r ?_;exact N.r3 (RV.tmp rfl (RV.tmp rfl (RV.tmp rfl RV.nil))) (kZ _) (hno 2 zd hE)
 rw[ja h5] at hE;refine Q.r ?_;refine Q.dgo [true] [] [] [0,1,2,3,4,5,6,7,8,9,10,11,12,13,14,15,16,17,18,19,20,21,22] ?_
 repeat (first|refine Q.dyn rfl rfl rfl ?_|refine Q.dyl rfl rfl rfl ?_|refine D.y rfl rfl rfl zk (by first|exact (Y.ldRj rfl (by first|assumption|exact vg.sub (by assumption)) rfl)|exact Y.guard rfl (Y.ldRj rfl (by first|assumption|exact vg.sub (by assumption)) rfl)) ?_|refine D.endA ?_|refine Q.dy rfl rfl rfl ?_|refine Q.dp rfl rfl rfl ?_|refine D.end_ ?_|refine Q.endH ?_|(refine D.e rfl rfl rfl ?_;(first|refine S.gskip1 rfl ?_|refine S.gskip rfl ?_|refine S.y (Y.gskipU rfl) ?_);refine qO ?_;refine N.tn ?_)|refine Q.dT rfl rfl rfl ?_|refine Q.dF rfl rfl rfl ?_|(refine D.e rfl rfl rfl ?_;(first|(refine GQ.a ?_;refine Q.al (λb1=> ?_))|(refine GQ.s ?_;refine Q.st ?_));refine qO ?_;refine N.tn ?_))
 refine D.yp rfl rfl rfl (Y.cv32 (a:=x0.toNat) rfl zo) ?_
 repeat (first|refine Q.dyn rfl rfl rfl ?_|refine Q.dyl rfl rfl rfl ?_|refine D.y rfl rfl rfl zk (by first|exact (Y.ldRj rfl (by first|assumption|exact vg.sub (by assumption)) rfl)|exact Y.guard rfl (Y.ldRj rfl (by first|assumption|exact vg.sub (by assumption)) rfl)) ?_|refine D.endA ?_|refine Q.dy rfl rfl rfl ?_|refine Q.dp rfl rfl rfl ?_|refine D.end_ ?_|refine Q.endH ?_|(refine D.e rfl rfl rfl ?_;(first|refine S.gskip1 rfl ?_|refine S.gskip rfl ?_|refine S.y (Y.gskipU rfl) ?_);refine qO ?_;refine N.tn ?_)|refine Q.dT rfl rfl rfl ?_|refine Q.dF rfl rfl rfl ?_|(refine D.e rfl rfl rfl ?_;(first|(refine GQ.a ?_;refine Q.al (λb1=> ?_))|(refine GQ.s ?_;refine Q.st ?_));refine qO ?_;refine N.tn ?_))
 refine D.yp rfl rfl rfl (Y.cv32 (a:=x1.toNat) rfl zo) ?_;refine D.yp rfl rfl rfl (Y.shl32 (a:=x1.toNat) (b:=8) rfl rfl zd zo) ?_;refine D.yp rfl rfl rfl (Y.or32a (a:=x0.toNat) (b:=x1.toNat) (m:=8) rfl rfl zo zo) ?_
 repeat (first|refine Q.dyn rfl rfl rfl ?_|refine Q.dyl rfl rfl rfl ?_|refine D.y rfl rfl rfl zk (by first|exact (Y.ldRj rfl (by first|assumption|exact vg.sub (by assumption)) rfl)|exact Y.guard rfl (Y.ldRj rfl (by first|assumption|exact vg.sub (by assumption)) rfl)) ?_|refine D.endA ?_|refine Q.dy rfl rfl rfl ?_|refine Q.dp rfl rfl rfl ?_|refine D.end_ ?_|refine Q.endH ?_|(refine D.e rfl rfl rfl ?_;(first|refine S.gskip1 rfl ?_|refine S.gskip rfl ?_|refine S.y (Y.gskipU rfl) ?_);refine qO ?_;refine N.tn ?_)|refine Q.dT rfl rfl rfl ?_|refine Q.dF rfl rfl rfl ?_|(refine D.e rfl rfl rfl ?_;(first|(refine GQ.a ?_;refine Q.al (λb1=> ?_))|(refine GQ.s ?_;refine Q.st ?_));refine qO ?_;refine N.tn ?_))
 refine D.yp rfl rfl rfl (Y.cv32 (a:=x2.toNat) rfl zo) ?_;refine D.yp rfl rfl rfl (Y.shl32 (a:=x2.toNat) (b:=16) rfl rfl zd zo) ?_;refine D.yp rfl rfl rfl (Y.or32a (a:=x0.toNat+x1.toNat*2^8) (b:=x2.toNat) (m:=16) rfl rfl zo zo) ?_
 repeat (first|refine Q.dyn rfl rfl rfl ?_|refine Q.dyl rfl rfl rfl ?_|refine D.y rfl rfl rfl zk (by first|exact (Y.ldRj rfl (by first|assumption|exact vg.sub (by assumption)) rfl)|exact Y.guard rfl (Y.ldRj rfl (by first|assumption|exact vg.sub (by assumption)) rfl)) ?_|refine D.endA ?_|refine Q.dy rfl rfl rfl ?_|refine Q.dp rfl rfl rfl ?_|refine D.end_ ?_|refine Q.endH ?_|(refine D.e rfl rfl rfl ?_;(first|refine S.gskip1 rfl ?_|refine S.gskip rfl ?_|refine S.y (Y.gskipU rfl) ?_);refine qO ?_;refine N.tn ?_)|refine Q.dT rfl rfl rfl ?_|refine Q.dF rfl rfl rfl ?_|(refine D.e rfl rfl rfl ?_;(first|(refine GQ.a ?_;refine Q.al (λb1=> ?_))|(refine GQ.s ?_;refine Q.st ?_));refine qO ?_;refine N.tn ?_))
 refine D.yp rfl rfl rfl (Y.cv32 (a:=x3.toNat) rfl zo) ?_;refine D.yp rfl rfl rfl (Y.shl32 (a:=x3.toNat) (b:=24) rfl rfl zd zo) ?_;refine D.yp rfl rfl rfl (Y.or32a (a:=x0.toNat+x1.toNat*2^8+x2.toNat*2^16) (b:=x3.toNat) (m:=24) rfl rfl zo zo) ?_
 repeat (first|refine Q.dyn rfl rfl rfl ?_|refine Q.dyl rfl rfl rfl ?_|refine D.y rfl rfl rfl zk (by first|exact (Y.ldRj rfl (by first|assumption|exact vg.sub (by assumption)) rfl)|exact Y.guard rfl (Y.ldRj rfl (by first|assumption|exact vg.sub (by assumption)) rfl)) ?_|refine D.endA ?_|refine Q.dy rfl rfl rfl ?_|refine Q.dp rfl rfl rfl ?_|refine D.end_ ?_|refine Q.endH ?_|(refine D.e rfl rfl rfl ?_;(first|refine S.gskip1 rfl ?_|refine S.gskip rfl ?_|refine S.y (Y.gskipU rfl) ?_);refine qO ?_;refine N.tn ?_)|refine Q.dT rfl rfl rfl ?_|refine Q.dF rfl rfl rfl ?_|(refine D.e rfl rfl rfl ?_;(first|(refine GQ.a ?_;refine Q.al (λb1=> ?_))|(refine GQ.s ?_;refine Q.st ?_));refine qO ?_;refine N.tn ?_))
 rw[←hw4];have hlen:6≤(x0::x1::x2::x3::x4::x5::tl).length:=by simp
 clear hrA hx0 hx1 hx2 hx3 hx4 hx5 hw4 h6;generalize x0::x1::x2::x3::x4::x5::tl=bs at*;refine Q.r ?_;refine S.y (Y.slB (l:=4) (h:=6+nn) rfl rfl rfl rfl zo zo zo) ?_;have hb4:=wc.cut h hc 4 (2+nn) zo;have el:6+nn - 4=((bs.drop 4).take (2+nn)).length:=by rw[jP,jE];omega
 rw[el];refine Q.r ?_;(repeat (intro b1;refine Q.r ?_));refine S.cr rfl (gB (some ⟨b1,0,none⟩) 1 [⟨some ⟨b,if c=4 then o else o+4*1,none⟩,c - 4,(bs.drop 4).take (2+nn)⟩] _ (qW.row1y rfl) ?_ (xg.rd hT) (by simp) ?_) ?_
 ·intro u hu
  rw[ji.1 hu];exact hb4.rd
 ·simp[qV];omega
 rintro _ _ ⟨rfl,rfl⟩;have ec:qV [⟨some ⟨b,if c=4 then o else o+4*1,none⟩,c - 4,(bs.drop 4).take (2+nn)⟩]=(bs.drop 4).take (2+nn):=by simp[qV]
 rw[ec];have hs1:=Xy ((bs.drop 4).take (2+nn))
 by_cases h7:JM ((bs.drop 4).take (2+nn))≠yb (bs.take 4)
 ·rw[jb h7] at hE
  refine Q.r ?_;exact N.r3 (RV.tmp rfl (RV.tmp rfl (RV.tmp rfl RV.nil))) (qi.drop (kZ _)) (hno 5 zd hE)
 rw[ja h7] at hE;refine Q.r ?_;refine Q.dgo [] [4,9] [] [0,1,2,3,5,6,7,8,4,9,10,11,12] ?_;refine Q.rd ?_;refine D.yp rfl rfl rfl (Y.slB (l:=6) (h:=6+nn) rfl rfl rfl rfl zo zo zo) ?_;have hb6:=wc.cut h hc 6 nn zo;have hbt:=wc.tail h hc (6+nn) zo;have el6:6+nn - 6=((bs.drop 6).take nn).length:=by rw[jP,jE];omega
 have elt:bs.length - (6+nn)=(bs.drop (6+nn)).length:=by rw[jE]
 rw[el6];refine Q.rd ?_;refine D.yp rfl rfl rfl (Y.slF (l:=6+nn) rfl rfl zo zo) ?_;rw[elt];refine Q.rd ?_;refine D.e rfl rfl rfl ?_;refine S.cr rfl (Vn _ _ ((bs.drop 6).take nn) M _ _ hb6.rd zo) ?_;rintro _ _ ⟨v,M1,rfl,hv,hvo,hvc,hl1,rfl⟩;refine Q.r ?_;refine Q.rd ?_;refine D.e rfl rfl rfl ?_;refine S.cr rfl (Vn _ _ (bs.drop (6+nn)) M1 _ _ (hbt.mono hl1).rd zo) ?_;rintro _ _ ⟨w,M2,rfl,hw,hwo,hwc,hl2,rfl⟩;refine Q.r ?_;refine Q.rd ?_;refine Q.r ?_;refine N.r3 (RV.tmp rfl (RV.tmp rfl (RV.tmp rfl RV.nil))) ?_ ⟨v,w,M2,by rw[hE],by rw[hE,jb rfl,hnB,hv],by rw[hE,jb rfl,hnR,hw],hvo.mono hl2,hwo,by rw[hv];exact hvc,by rw[hw];exact hwc,hl1.trans hl2,rfl⟩;exact eG
theorem jBc {p:List UInt8}(h:zZ p=0):(Y4 p).length<p.length:=by
 have:=X2 h;unfold Y4;rw[jE];omega
def K4 (p:List UInt8):List (List UInt8):=if h:zZ p=0 then VC p::K4 (Y4 p) else []
termination_by p.length
decreasing_by exact jBc h
theorem pY {p:List UInt8}(h:zZ p=0):K4 p=VC p::K4 (Y4 p):=by rw[K4,dif_pos h]
theorem pZ {p:List UInt8}(h:zZ p≠0):K4 p=[]:=by rw[K4,dif_neg h]
def vD (l:List (List UInt8)):Nat:=(l.map λb=>6+b.length).sum
theorem fW (a b:List (List UInt8)):vD (a++b)=vD a+vD b:=by simp[vD]
def Jj (M:OM)(vs:List YB):Prop:=∀v∈vs,wc M v∧v.bs.length≤v.c
theorem Jj.mono {M M':OM}{vs:List YB}(h:Jj M vs)(hl:qU M M'):Jj M' vs:=λv hv=>⟨(h v hv).1.mono hl,(h v hv).2⟩
theorem Xt :∀l:List (List UInt8),l.length≤vD l
 | []=>jz _
 |b::l=>by
  have:=Xt l
  show l.length+1≤6+b.length+vD l
  omega
theorem fV (b:List UInt8):vD [b]=6+b.length:=by simp[vD]
def jAP (M:OM)(L0:HL)(l:List (List UInt8))(a:OA)(c:Nat)(L':HL):Prop:=∃vs M',vs.map YB.bs=l∧Jj M' vs∧qU M M'∧L'=slO 34 1 a vs.length c (vs.flatMap YB.cells)::qo M'::L0
theorem ti (a:OA)(c:Nat)(bs:List UInt8)(M:OM)(L0:HL)(h:qH M a bs.length 1 (bs.map B))(hT:xg M)(hc:bs.length≤c)(hb:bs.length≤100000000000):
  qh kY 139 [.slice a bs.length c] (qo M::L0) (λr L'=>∃a' c',r=.tuple #[.slice a' (K4 bs).length c',.int .i64 (vD (K4 bs))]∧jAP M L0 (K4 bs) a' c' L'):=by
 refine qg Tryz.func139 rfl rfl rfl ?_;refine Q.r ?_;refine ql (σ:=List YB×(OM)×OA×Nat) (λs=> [(0,.slice a bs.length c),(4,.slice s.2.2.1 s.1.length s.2.2.2),(5,.int .i64 (vD (s.1.map YB.bs)))])
  (λs=>slO 34 1 s.2.2.1 s.1.length s.2.2.2 (s.1.flatMap YB.cells)::qo s.2.1::L0)
  (λs=>vD (s.1.map YB.bs)≤bs.length∧s.1.map YB.bs++K4 (bs.drop (vD (s.1.map YB.bs)))=K4 bs∧Jj s.2.1 s.1∧qU M s.2.1) (λs=>bs.length - vD (s.1.map YB.bs)) ([],M,none,0) zt vh ⟨jw _,rfl,(λv hv=>by cases hv),qU.refl _⟩ ?_
 rintro ⟨vs,M1,a1,c1⟩ ⟨hat,hall,hok,hl⟩;dsimp only at*;have hlen:=Xt (vs.map YB.bs);rw[jf] at hlen;have hT1:=hT.mono hl;have h1:=h.mono hl;have hsub:=qH.fromA (l:=vD (vs.map YB.bs)) h1 hat hc;rw[jX,←List.map_drop] at hsub;have eln:bs.length - vD (vs.map YB.bs)=(bs.drop (vD (vs.map YB.bs))).length:=by rw[jE]
 generalize hk:vD (vs.map YB.bs)=k at*;refine Q.r ?_;refine S.y (Y.slFa (l:=k) rfl rfl rfl hat (qH.at h1)) ?_;rw[eln] at hsub ⊢;refine S.cq (A:=qo M1) rfl (Vj _ (c - k) (bs.drop k) M1 _ hsub hT1 (by rw[jE];omega) (by rw[jE];omega)) ?_;rintro _ _ ⟨v,w,M2,rfl,hv,hw,hvo,hwo,hvc,hwc,hl2,rfl⟩
 by_cases he:zZ (bs.drop k)=0
 ·rw[jb he] at hv hw
  have hn:=X2 he;have hbl:=cu he;rw[jE] at hn;have hvl:v.bs.length=VW (bs.drop k):=by rw[hv,hbl]
  refine Q.r ?_;(repeat (intro b1;refine Q.r ?_));refine S.app rfl rfl (vA.sl vg.row zr zr) zr zo zo (λa7 c7=> ?_);refine Q.r ?_;have hk2:vD ((vs++[v]).map YB.bs)=k+(6+v.bs.length):=by rw[jq,fW,hk];exact jj (k+ ·) (fV _)
  refine ⟨(vs++[v],M2,a7,c7),⟨rfl,jj some (by simp),?_,trivial⟩,?_,⟨?_,?_,?_,hl.trans hl2⟩,?_⟩
  ·rw[hk2];exact jj some (jj (Value.int .i64) (by simp))
  ·dsimp only
   rw[qF,vE];exact eG
  ·dsimp only
   rw[hk2,hv,hbl];omega
  ·dsimp only
   rw[hk2,←hall,pY he,jq,ju];refine jj _ ?_;rw[←List.drop_drop,hvl]
   show v.bs::_=_
   rw[hv];rfl
  ·intro u hu
   rcases jy.1 hu with hu|hu
   ·exact (hok.mono hl2) u hu
   ·rw[ji.1 hu];exact ⟨hvo,hvc⟩
  ·dsimp only
   rw[hk2];omega
 ·refine Q.r ?_
  have e:K4 bs=vs.map YB.bs:=by rw[←hall,pZ he,jG]
  refine N.u rfl rfl ?_ ⟨a1,c1,by rw[e,jf,hk],vs,M2,e.symm,hok.mono hl2,hl.trans hl2,rfl⟩;exact eG
structure TR where
 txn:Int
 batch:Int
 stamp:Int
 after:Int
 who:Int
 parts:List Int
 yes:List Int
 acked:List Int
 ops:VL
structure TV where
 txn:Int
 batch:Int
 stamp:Int
 after:Int
 who:Int
 pa:OA
 pc:Nat
 parts:List Int
 ya:OA
 yc:Nat
 yes:List Int
 ka:OA
 kc:Nat
 acked:List Int
 oa:OA
 oc:Nat
 ops:List OV
abbrev TV.abs (t:TV):TR:=⟨t.txn,t.batch,t.stamp,t.after,t.who,t.parts,t.yes,t.acked,t.ops.map OV.abs⟩
abbrev TV.cells (t:TV):List Value:=[.int .u64 t.txn,.int .u64 t.batch,.int .u64 t.stamp,.int .u64 t.after,.int .i64 t.who,.slice t.pa t.parts.length t.pc,.slice t.ya t.yes.length t.yc,.slice t.ka t.acked.length t.kc,.slice t.oa t.ops.length t.oc]
structure JG where
 shards:Int
 dim:Int
 epoch:Int
 seq:Int
 last:Int
 tr:List (Int×TR)
 done:List (Int×Int)
structure ZE (M:OM)(t:TV):Prop where
 p:qH M t.pa t.parts.length 1 (t.parts.map I64)
 y:qH M t.ya t.yes.length 1 (t.yes.map I64)
 k:qH M t.ka t.acked.length 1 (t.acked.map I64)
 o:qH M t.oa t.ops.length 2 (t.ops.flatMap OV.cells)
 ov:okR M t.ops
 pl:t.parts.length≤1000000
 yl:t.yes.length≤1000000
 kl:t.acked.length≤1000000
 ol:t.ops.length≤1000000
theorem ZE.mono {M M':OM}{t:TV}(h:ZE M t)(hl:qU M M'):ZE M' t:=⟨h.p.mono hl,h.y.mono hl,h.k.mono hl,h.o.mono hl,λo ho=>(h.ov o ho).mono hl,h.pl,h.yl,h.kl,h.ol⟩
abbrev TB :=Int×Nat×TV
abbrev W5 (t:Nat×TV):Value:=.pointer (some ⟨t.1,0,none⟩)
abbrev vi (t:Nat×TV):HP:=pt t.1 (cl t.2.cells 150)
def qD (ts:List TB):HP:=xO (ts.map λu=>vi u.2)
structure QR (M:OM)(j:JG)(ts:List TB):Prop where
 s1:1≤j.shards
 s2:j.shards≤4
 tr:ts.map (λu=>(u.1,u.2.2.abs))=j.tr
 ok:∀u∈ts,ZE M u.2.2
theorem QR.mono {M M':OM}{j:JG}{ts:List TB}(h:QR M j ts)(hl:qU M M'):QR M' j ts:=⟨h.s1,h.s2,h.tr,λu hu=>(h.ok u hu).mono hl⟩
abbrev gP (p:Nat)(j:JG)(mt md:Nat):HP:=pt p (cl [.int .i64 j.shards,.int .i64 j.dim,.int .u64 j.epoch,.int .u64 j.seq,.int .u64 j.last,.map (some mt),.map (some md)] 131)
abbrev gT (mt:Nat)(ts:List TB):HP:=Vp U64 W5 mt ts
abbrev gD (md:Nat)(d:List (Int×Int)):HP:=Vp U64 U64 md d
structure GX where
 mt:Nat
 md:Nat
 ts:List TB
def qE (M:OM)(p:Nat)(j:JG):HP:=cQ λx:GX=>xO [wv (QR M j x.ts),gP p j x.mt x.md,gT x.mt x.ts,qD x.ts,gD x.md j.done]
theorem qR {p mt md:Nat}{M:OM}{j:JG}{ts:List TB}{L:HL}(h:QR M j ts):qi (gP p j mt md::gT mt ts::qD ts::gD md j.done::L) (qE M p j::L):=
 qi.trans (qi.shut_pure h) (qi.trans (qi.shut_all (L:=[_,_,_,_,_])) (qi.shut_ex (P:=λx:GX=>xO [wv (QR M j x.ts),gP p j x.mt x.md,gT x.mt x.ts,qD x.ts,gD x.md j.done]) ⟨mt,md,ts⟩))
theorem jBy {p:Nat}{M:OM}{j:JG}{L L':HL}(h:∀mt md ts,QR M j ts→qi (gP p j mt md::gT mt ts::qD ts::gD md j.done::L) L'):qi (qE M p j::L) L':=
 qi.ex λx=>qi.open_all.trans (qi.pure λhx=>h x.mt x.md x.ts hx)
theorem Yc {p:Nat}{M M':OM}{j:JG}{L:HL}(hl:qU M M'):qi (qE M p j::L) (qE M' p j::L):=jBy λ_ _ _ hq=>qR (hq.mono hl)
theorem wC {g:FuncId}{args:List Value}{R:Value→HL→Prop}{p:Nat}{M:OM}{j:JG}{L:HL}
  (h:∀mt md ts,QR M j ts→qh kY g args (gP p j mt md::gT mt ts::qD ts::gD md j.done::L) R):qh kY g args (qE M p j::L) R:=
 qh.ex λx=>qh.all (qh.pure λhx=>h x.mt x.md x.ts hx)
class K6 (p:Nat)(L:HL)(M:outParam (OM))(j:outParam JG)(L0:outParam (HL)):Prop where
 ent:qi L (qE M p j::L0)
instance K6.here {p:Nat}{M:OM}{L:HL}{j:JG}:K6 p (qE M p j::L) M j L:=⟨kZ _⟩
instance (priority :=low) K6.there {p:Nat} {M:OM} {A:HP} {L L0:HL} {j:JG} [h:K6 p L M j L0]:K6 p (A::L) M j (A::L0):=⟨(h.ent.cons).trans (qi.perm (.swap _ _ _))⟩
section
variable {n : Nat} {ops rest : List Oper} {cd : Code} {Q : vk} {f : vF} {L L0 : HL} {M : OM} {j : JG}
theorem Vs (p:Nat)[hp:K6 p L M j L0](h:∀mt md ts,QR M j ts→swp kY n cd Q f (gP p j mt md::gT mt ts::qD ts::gD md j.done::L0)):swp kY n cd Q f L:=
 vf hp.ent (lE λx=>bN (KB λhx=>h x.mt x.md x.ts hx))
theorem jA8 (p:Nat)[hp:K6 p L M j L0](h:∀mt md ts,QR M j ts→qq kY n ops rest Q f (gP p j mt md::gT mt ts::qD ts::gD md j.done::L0)):qq kY n ops rest Q f L:=
 qm hp.ent (ci λx=>XZ (Jx λhx=>h x.mt x.md x.ts hx))
theorem vP (p:Nat)[hp:K6 p L M j L0]{M':OM}(hl:qU M M')(hk:qq kY n ops rest Q f (qE M' p j::L0)):qq kY n ops rest Q f L:=qm (hp.ent.trans (Yc hl)) hk
theorem lD (p:Nat)[hp:K6 p L M j L0]{M':OM}(hl:qU M M')(hk:swp kY n cd Q f (qE M' p j::L0)):swp kY n cd Q f L:=vf (hp.ent.trans (Yc hl)) hk
theorem S.cg {d:Tmp}{ty:TypeId}{pos:String}{af:Array Edge}{g:FuncId}{xs:Array Operand}{ats:Array TypeId}{args:List Value}{R:Value→HL→Prop}{M2:OM}{L1:HL}(p:Nat)[hp:K6 p L M j L0][hm:xb L0 M2 L1][he:qj kY g]
  (hx:xv f xs.toList=some args) (hc:qh kY g args (qE M p j::qo M2::L1) R) (hk:∀v L',R v L'→qq kY n ops rest Q (upd f d v) L'):
  qq kY n ops (⟨some d,.call ⟨.value (.func g),xs,ats⟩,ty,pos,af,none⟩::rest) Q f L:=qm (hp.ent.trans (qi.cons hm.ent)) (S.cr hx hc hk)
theorem S.cgn {d:Tmp}{ty:TypeId}{pos:String}{af:Array Edge}{g:FuncId}{xs:Array Operand}{ats:Array TypeId}{args:List Value}{R:Value→HL→Prop}(p:Nat)[hp:K6 p L M j L0][he:qj kY g]
  (hx:xv f xs.toList=some args) (hc:qh kY g args (qE M p j::L0) R) (hk:∀v L',R v L'→qq kY n ops rest Q (upd f d v) L'):
  qq kY n ops (⟨some d,.call ⟨.value (.func g),xs,ats⟩,ty,pos,af,none⟩::rest) Q f L:=qm hp.ent (S.cr hx hc hk)
end
theorem yB {α:Type}:∀(l:List α) (k:Nat) (x:α),l[k]? =some x→l.Perm (x::l.eraseIdx k)
 | [],k,x,h=>by simp at h
 |a::l,0,x,h=>by
  simp only[jh,jk] at h;subst h;exact List.Perm.refl _
 |a::l,k+1,x,h=>by
  simp only[jg] at h;exact ((yB l k x h).cons a).trans (List.Perm.swap x a _)
theorem XP {α:Type}:∀(l:List α) (k:Nat) (x:α),k<l.length→(x::l.eraseIdx k).Perm (l.set k x)
 | [],k,x,h=>by simp at h
 |a::l,0,x,h=>List.Perm.refl _
 |a::l,k+1,x,h=>by
  simp only[jC] at h;exact (List.Perm.swap a x _).trans ((XP l k x zo).cons a)
theorem bI {ts:List TB}{k:Nat}{u:TB}(h:ts[k]? =some u){L:HL}:qi (qD ts::L) (vi u.2::qD (ts.eraseIdx k)::L):=by
 refine qi.trans qi.open_all (qi.trans (qi.perm ?_) (qi.cons (qi.shut_all (L:=(ts.eraseIdx k).map λu=>vi u.2))));exact ((yB ts k u h).map λu=>vi u.2).append_right L
theorem lB {ts:List TB}{k:Nat}(hk:k<ts.length)(u:TB){L:HL}:qi (vi u.2::qD (ts.eraseIdx k)::L) (qD (ts.set k u)::L):=by
 refine qi.trans (qi.cons qi.open_all) (qi.trans (qi.perm ?_) (qi.shut_all (L:=(ts.set k u).map λu=>vi u.2)));exact ((XP ts k u hk).map λu=>vi u.2).append_right L
theorem bJ (ts:List TB)(u:TB){L:HL}:qi (vi u.2::qD ts::L) (qD (ts++[u])::L):=by
 refine qi.trans (qi.cons qi.open_all) (qi.trans (qi.perm ?_) (qi.shut_all (L:=(ts++[u]).map λu=>vi u.2)));have hp:(u::ts).Perm (ts++[u]):=(List.perm_append_singleton u ts).symm;exact (hp.map λu=>vi u.2).append_right L
def VJ (s id:Int):Int:=((IntKind.u64.wrap (id*11400714819323198485)).fdiv (2^32)).tmod s
theorem lq (a:Int):0≤IntKind.u64.wrap a∧IntKind.u64.wrap a<18446744073709551616:=by
 have e:IntKind.u64.wrap a=a % 18446744073709551616:=by simp[IntKind.wrap,IntKind.bits,IntKind.signed]
 rw[e];omega
theorem Xp {s:Int}(h:1≤s)(id:Int):0≤VJ s id∧VJ s id<s:=by
 unfold VJ;have h1:=lq (id*11400714819323198485);generalize IntKind.u64.wrap (id*11400714819323198485)=w at h1;have h2:0≤w.fdiv (2^32):=Int.fdiv_nonneg h1.1 zd;exact ⟨Int.tmod_nonneg _ h2,Int.tmod_lt_of_pos _ zo⟩
theorem tH (id s:Int)(L:HL)(h1:1≤s)(h2:s≤4):
  qh kY 92 [.int .u64 id,.int .i64 s] L (λr L'=>r=.int .i64 (VJ s id)∧L'=L):=by
 refine qg Tryz.func92 rfl rfl rfl ?_;refine Q.r ?_;refine S.y (Y.mul rfl rfl) ?_;refine Q.r ?_;refine S.y (Y.shrI (b:=32) rfl rfl zd) ?_;refine Q.r ?_;refine S.y (Y.cvi rfl) ?_;have es:IntKind.u64.wrap s=s:=wrap_u64 zo zo;rw[es];refine Q.r ?_;refine S.y (Y.rem rfl rfl zo) ?_;refine Q.r ?_;refine S.y (Y.cvi rfl) ?_;have hb:=Xp h1 id;have eh:IntKind.i64.wrap (VJ s id)=VJ s id:=vl zo zo;unfold VJ at eh;rw[eh];refine Q.r ?_;exact N.t rfl (kZ _) ⟨rfl,rfl⟩
abbrev vI (p:Nat):Value:=.pointer (some ⟨p,0,none⟩)
abbrev ww (shards dim:Int):JG:=⟨shards,dim,0,0,0,[],[]⟩
theorem Qt (M:OM)(s dim:Int)(L:HL)(s1:1≤s)(s2:s≤4)(h1:1≤dim)(h2:dim≤8):
  qh kY 23 [.int .i64 s,.int .i64 dim] L (λr L'=>∃p,r=.tuple #[vI p,.int .i64 0]∧L'=qE M p (ww s dim)::L):=by
 refine qg Tryz.func23 rfl rfl rfl ?_;refine Q.r ?_;refine S.mkm U64 W5 (λmt=> ?_);refine Q.r ?_;refine S.mkm U64 U64 (λmd=> ?_);refine Q.r ?_;(repeat (intro b1;refine Q.r ?_));refine N.u rfl rfl ?_ ⟨b1,rfl,rfl⟩;refine qi.trans (M:=gP b1 (ww s dim) mt md::gT mt []::gD md []::L) eG ?_;refine qi.trans ?_ (qR (p:=b1) (mt:=mt) (md:=md) (j:=ww s dim) (ts:=[]) ⟨s1,s2,rfl,λu hu=>by cases hu⟩);refine qi.cons (qi.cons ?_);exact qi.trans (qi.perm (List.Perm.refl _)) (qi.shut_all (L:=[]))
theorem nq (M:OM)(p:Nat)(j:JG)(t:Int)(L:HL):
  qh kY 48 [vI p,.int .u64 t] (qE M p j::L) (λr L'=>r=.tuple #[.int .u64 ((qJ j.done t).getD 0),.bool (qJ j.done t).isSome]∧L'=qE M p j::L):=by
 refine wC λmt md ts hq=> ?_
 refine qg Tryz.func48 rfl rfl rfl ?_;refine Q.r ?_;refine S.y (Y.lk true rfl rfl (λw=>Tryz.zeroValue31 w)) ?_
 cases hz:qJ j.done t with
 |none=>
  dsimp only;refine Q.r ?_;exact N.u rfl rfl (qR hq) ⟨rfl,rfl⟩
 |some s=>
  dsimp only;refine Q.r ?_;exact N.u rfl rfl (qR hq) ⟨rfl,rfl⟩
theorem YN (p:Nat)(j:JG)(mt md:Nat)(id:Int)(L:HL)(s1:1≤j.shards)(s2:j.shards≤4):
  qh kY 178 [vI p,.int .u64 id] (gP p j mt md::L) (λr L'=>r=.int .i64 (VJ j.shards id+1)∧L'=gP p j mt md::L):=by
 refine qg Tryz.func178 rfl rfl rfl ?_;have hb:=Xp s1 id;refine Q.r ?_;refine S.cr rfl (tH id j.shards _ s1 s2) ?_;rintro _ _ ⟨rfl,rfl⟩;refine Q.r ?_;exact N.t rfl (kZ _) ⟨jj (Value.int .i64) (Int.add_comm _ _),rfl⟩
abbrev KY (p txn stamp code:Int):Int×NA:=(p,{NA.zero with kind:=5,txn:=txn,stamp:=stamp,code:=code})
abbrev Y2 (to batch stamp code:Int):Int×NA:=(to,{NA.zero with kind:=2,batch:=batch,stamp:=stamp,code:=code})
abbrev yd (txn:Int):NA:={NA.zero with kind:=22,txn:=txn}
theorem Jf (to b s c:Int)(L:HL):
  qh kY 170 [.int .i64 to,.int .u64 b,.int .u64 s,.int .i64 c] L (λr L'=>r=.agg (y8 (Y2 to b s c)).toArray∧L'=L):=by
 refine qg Tryz.func170 rfl rfl rfl ?_;refine Q.r ?_;(repeat (intro b1;refine Q.r ?_));exact N.r1 RV.c (qi.drop (kZ _)) ⟨rfl,rfl⟩
theorem Kk (t:Nat×TV)(L:HL):
  qh kY 119 [W5 t] (vi t::L) (λr L'=>∃b,r=.slice (some ⟨b,0,none⟩) 1 1∧L'=slO 82 16 (some ⟨b,0,none⟩) 1 1 (yd t.2.txn).nv.cells::vi t::L):=by
 refine qg Tryz.func119 rfl rfl rfl ?_;refine Q.r ?_;(repeat (intro b1;refine Q.r ?_));refine N.t rfl ?_ ⟨b1,rfl,rfl⟩;refine qi.trans ?_ (ve rfl);exact eG
theorem VV (t:Nat×TV)(a:OA)(l c:Nat)(L:HL)(hl:l≤1000000)(h2:t.2.parts.length≤1000000):
  qh kY 173 [W5 t,.slice a l c] (vi t::L) (λr L'=>r=.bool (decide (l+1=t.2.parts.length))∧L'=vi t::L):=by
 refine qg Tryz.func173 rfl rfl rfl ?_;refine Q.r ?_;refine N.t rfl (kZ _) ⟨jj Value.bool ?_,rfl⟩;rw[Bool.eq_iff_iff];simp only[jS];omega
theorem gJ (a:OA)(c:Nat)(xs:List Int)(x:Int)(A:HL)(h:qW A a xs.length 1 (xs.map I64))(hn:xs.length≤1000000):
  qh kY 164 [.slice a xs.length c,.int .i64 x] A (λr L'=>((∃k:Nat,k<xs.length∧xs[k]? =some x∧r=.int .i64 k)∨(x∉xs∧r=.int .i64 (-1)))∧L'=A):=by
 refine qg Tryz.func164 rfl rfl rfl ?_;refine Q.r ?_;refine ql (σ:=Nat) (λk=> [(0,.slice a xs.length c),(1,.int .i64 x),(7,.int .i64 xs.length),(8,.int .i64 k)])
  (λ_=>A) (λk=>k≤xs.length∧x∉xs.take k) (λk=>xs.length - k) 0 zt (kZ _) ⟨jw _,by simp⟩ ?_
 rintro k ⟨hk,hx⟩
 by_cases hlt:k<xs.length
 ·obtain ⟨q,hq⟩:=qw hlt
  obtain ⟨b,oo,hia,hr⟩:=qW.elem (g:=λz:Int=> [I64 z]) (λ_=>rfl) (by rw[yh];exact h) hq rfl;rw[hia]
  by_cases he:x=q
  ·subst he
   refine Q.r ?_;exact N.t rfl (kZ _) ⟨.inl ⟨k,hlt,hq,rfl⟩,rfl⟩
  ·refine Q.r ?_
   refine ⟨k+1,zt,kZ _,⟨by omega,?_⟩,by omega⟩;rw[qz hq,jy,ji];exact λh=>h.elim hx he
 ·have hke:k=xs.length:=by omega
  subst hke;rw[jI] at hx;refine Q.r ?_;exact N.t rfl (kZ _) ⟨.inr ⟨hx,rfl⟩,rfl⟩
theorem qN (a:OA)(c:Nat)(xs:List Int)(x:Int)(A:HL)(h:qW A a xs.length 1 (xs.map I64))(hn:xs.length≤1000000):
  qh kY 95 [.slice a xs.length c,.int .i64 x] A (λr L'=>r=.bool (decide (x∈xs))∧L'=A):=by
 refine qg Tryz.func95 rfl rfl rfl ?_;refine Q.r ?_;refine S.cr rfl (gJ a c xs x _ h hn) ?_;rintro _ _ ⟨⟨k,hk,hx,rfl⟩|⟨hx,rfl⟩,rfl⟩
 ·have hm:x∈xs:=jn hx
  refine Q.r ?_;refine N.t rfl (kZ _) ⟨jj Value.bool ?_,rfl⟩;rw[jo hm];exact jo zo
 ·refine Q.r ?_
  refine N.t rfl (kZ _) ⟨jj Value.bool ?_,rfl⟩;rw[jv hx];rfl
theorem zh (txn stamp code:Int)(a:OA)(c:Nat)(ps:List Int)(A:HL)(h:qW A a ps.length 1 (ps.map I64))(hn:ps.length≤1000000):
  qh kY 118 [.int .u64 txn,.int .u64 stamp,.int .i64 code,.slice a ps.length c] A (λr L'=>∃a' c',r=.slice a' ps.length c'∧L'=slO 176 17 a' ps.length c' ((ps.map λp=>KY p txn stamp code).flatMap y8)::A):=by
 refine qg Tryz.func118 rfl rfl rfl ?_;refine Q.r ?_;refine ql (σ:=Nat×OA×Nat×List (Int×NA)) (λs=> [(0,.int .u64 txn),(1,.int .u64 stamp),(2,.int .i64 code),(12,.slice a ps.length c),(13,.int .i64 ps.length),(9,.slice s.2.1 s.2.2.2.length s.2.2.1),(14,.int .i64 s.1)])
  (λs=>slO 176 17 s.2.1 s.2.2.2.length s.2.2.1 (s.2.2.2.flatMap y8)::A)
  (λs=>s.1≤ps.length∧s.2.2.2=(ps.take s.1).map λp=>KY p txn stamp code) (λs=>ps.length - s.1) (0,none,0,[]) zt vh ⟨by omega,by simp⟩ ?_
 rintro ⟨k,a3,c3,us⟩ ⟨hk,hus⟩;dsimp only at hk hus ⊢;have hul:us.length=k:=by rw[hus,jf,jP];omega
 by_cases hlt:k<ps.length
 ·obtain ⟨q,hq⟩:=qw hlt
  have hrs:qW (slO 176 17 a3 us.length c3 (us.flatMap y8)::A) a ps.length 1 (ps.flatMap λz:Int=> [I64 z]):=by rw[yh];exact h.sub
  obtain ⟨b,oo,hia,hr⟩:=qW.elem (g:=λz:Int=> [I64 z]) (λ_=>rfl) hrs hq rfl;clear hrs;rw[hia];refine Q.r ?_;(repeat (intro b1;refine Q.r ?_));refine S.app rfl rfl (vA.sl vg.row zr zr) zr zo zo (λa7 c7=> ?_);refine Q.r ?_;refine ⟨(k+1,a7,c7,us++[KY q txn stamp code]),⟨rfl,rfl,rfl,rfl,rfl,jj some (by simp),rfl,trivial⟩,?_,⟨by dsimp only;omega,?_⟩,by dsimp only;omega⟩
  ·dsimp only
   rw[qF,vE];exact eG
  ·dsimp only
   rw[qz hq,jq,←hus];rfl
 ·have hke:k=ps.length:=by omega
  subst hke;rw[jI] at hus;subst hus;refine Q.r ?_;rw[jf];exact N.t rfl (kZ _) ⟨a3,c3,rfl,rfl⟩
abbrev zS (t:TR)(stamp code:Int):List (Int×NA):=(t.parts.map λp=>KY p t.txn stamp code)++[Y2 t.who t.batch stamp code]
theorem nb (t:Nat×TV)(stamp code:Int)(M:OM)(L:HL)(ht:ZE M t.2):
  qh kY 120 [W5 t,.int .u64 stamp,.int .i64 code] (vi t::qo M::L) (λr L'=>∃a' c',r=.slice a' (t.2.parts.length+1) c'∧L'=slO 176 17 a' (t.2.parts.length+1) c' ((zS t.2.abs stamp code).flatMap y8)::vi t::qo M::L):=by
 refine qg Tryz.func120 rfl rfl rfl ?_;have hpl:=ht.pl;refine Q.r ?_;refine Q.dgo [true] [12,25,26,27] [] [0,1,2,3,4,5,6,7,8,9,10,11,13,14,15,16,17,18,19,20,21,22,23,24,12,25,26,27,28] ?_;refine Q.rd ?_;refine D.e rfl rfl rfl ?_;refine S.cr rfl (zh t.2.txn stamp code t.2.pa t.2.pc t.2.parts _ ht.p.rd ht.pl) ?_;rintro _ _ ⟨a1,c1,rfl,rfl⟩;refine Q.r ?_;refine Q.rd ?_;refine D.e rfl rfl rfl ?_;refine S.cr rfl (Jf t.2.who t.2.batch stamp code _) ?_;rintro _ _ ⟨rfl,rfl⟩;refine Q.r ?_;refine Q.rd ?_;(repeat (intro b1;refine Q.rd ?_));refine D.e rfl rfl rfl ?_;refine S.app rfl rfl (vA.sl vg.row zr zr) zr zo zo (λa7 c7=> ?_);refine Q.r ?_;refine Q.rd ?_;refine Q.r ?_;refine N.t rfl ?_ ⟨a7,c7,rfl,rfl⟩;unfold zS;rw[vE];exact eG
structure FV where
 a:OA
 c:Nat
 bs:List UInt8
 firm:Nat
abbrev FV.cells (v:FV):List Value:=[.slice v.a v.bs.length v.c,.int .i64 v.firm]
abbrev DE :=List UInt8×Nat×FV
abbrev DE.abs (u:DE):List UInt8×List UInt8×Nat:=(u.1,u.2.2.bs,u.2.2.firm)
abbrev fk (t:Nat×FV):Value:=.pointer (some ⟨t.1,0,none⟩)
abbrev xY (t:Nat×FV):HP:=pt t.1 (cl t.2.cells 126)
abbrev wT (t:Nat×FV):HP:=slO 5 1 t.2.a t.2.bs.length t.2.c (t.2.bs.map B)
def wX (ts:List DE):HP:=xO ((ts.map λu=>xY u.2)++(ts.map λu=>wT u.2))
structure DK where
 left:Int
 down:Bool
 room:Int
 fs:List (List UInt8×List UInt8×Nat)
def qP (l:List (List UInt8×List UInt8×Nat)):Nat:=(l.map λu=>u.2.1.length).sum
structure Wq (d:DK)(ts:List DE):Prop where
 fs:ts.map DE.abs=d.fs
 key:qn ts
 lm: -1≤d.left∧d.left≤1000000
 rm:0≤d.room∧d.room≤1048576
 used:(qP d.fs:Int)≤d.room
 few:ts.length≤16
 firm:∀u∈ts,u.2.2.firm≤u.2.2.bs.length
abbrev dP (p mp:Nat)(d:DK):HP:=pt p (cl [.int .i64 d.left,.bool d.down,.int .i64 d.room,.map (some mp)] 64)
abbrev dM (mp:Nat)(ts:List DE):HP:=Vp str fk mp ts
structure DX where
 mp:Nat
 ts:List DE
def qr (p:Nat)(d:DK):HP:=cQ λx:DX=>xO [wv (Wq d x.ts),dP p x.mp d,dM x.mp x.ts,wX x.ts]
theorem vz {p mp:Nat}{d:DK}{ts:List DE}{L:HL}(h:Wq d ts):qi (dP p mp d::dM mp ts::wX ts::L) (qr p d::L):=
 qi.trans (qi.shut_pure h) (qi.trans (qi.shut_all (L:=[_,_,_,_])) (qi.shut_ex (P:=λx:DX=>xO [wv (Wq d x.ts),dP p x.mp d,dM x.mp x.ts,wX x.ts]) ⟨mp,ts⟩))
theorem v8 {g:FuncId}{args:List Value}{R:Value→HL→Prop}{p:Nat}{d:DK}{L:HL}
  (h:∀mp ts,Wq d ts→qh kY g args (dP p mp d::dM mp ts::wX ts::L) R):qh kY g args (qr p d::L) R:=
 qh.ex λx=>qh.all (qh.pure λhx=>h x.mp x.ts hx)
class WP (p:Nat)(L:HL)(d:outParam DK)(L0:outParam (HL)):Prop where
 ent:qi L (qr p d::L0)
instance WP.here {p:Nat}{L:HL}{d:DK}:WP p (qr p d::L) d L:=⟨kZ _⟩
instance (priority :=low) WP.there {p:Nat} {A:HP} {L L0:HL} {d:DK} [h:WP p L d L0]:WP p (A::L) d (A::L0):=⟨(h.ent.cons).trans (qi.perm (.swap _ _ _))⟩
section
variable {n : Nat} {ops rest : List Oper} {cd : Code} {Q : vk} {f : vF} {L L0 L1 : HL} {d : DK}
theorem XK (p:Nat)[hp:WP p L d L0](h:∀mp ts,Wq d ts→swp kY n cd Q f (dP p mp d::dM mp ts::wX ts::L0)):swp kY n cd Q f L:=
 vf hp.ent (lE λx=>bN (KB λhx=>h x.mp x.ts hx))
theorem S.ck {dd:Tmp}{ty:TypeId}{pos:String}{af:Array Edge}{g:FuncId}{xs:Array Operand}{ats:Array TypeId}{args:List Value}{R:Value→HL→Prop}(p:Nat)[hp:WP p L d L0][he:Go.SX.qj kY g]
  (hx:xv f xs.toList=some args) (hc:qh kY g args (qr p d::L0) R) (hk:∀v L',R v L'→qq kY n ops rest Q (upd f dd v) L'):
  qq kY n ops (⟨some dd,.call ⟨.value (.func g),xs,ats⟩,ty,pos,af,none⟩::rest) Q f L:=qm hp.ent (S.cr hx hc hk)
theorem S.ckm {dd:Tmp}{ty:TypeId}{pos:String}{af:Array Edge}{g:FuncId}{xs:Array Operand}{ats:Array TypeId}{args:List Value}{R:Value→HL→Prop}{M:OM}(p:Nat)[hp:WP p L d L0][hm:xb L0 M L1][he:Go.SX.qj kY g]
  (hx:xv f xs.toList=some args) (hc:qh kY g args (qr p d::qo M::L1) R) (hk:∀v L',R v L'→qq kY n ops rest Q (upd f dd v) L'):
  qq kY n ops (⟨some dd,.call ⟨.value (.func g),xs,ats⟩,ty,pos,af,none⟩::rest) Q f L:=qm (hp.ent.trans (qi.cons hm.ent)) (S.cr hx hc hk)
end
theorem mw {ts:List DE}{k:Nat}{u:DE}(h:ts[k]? =some u){L:HL}:qi (wX ts::L) (xY u.2::wT u.2::wX (ts.eraseIdx k)::L):=by
 refine qi.trans qi.open_all (qi.trans (qi.perm ?_) (qi.cons (qi.cons (qi.shut_all (L:=((ts.eraseIdx k).map λu=>xY u.2)++(ts.eraseIdx k).map λu=>wT u.2)))));have h1:=(yB ts k u h).map λu=>xY u.2
 have h2:=(yB ts k u h).map λu=>wT u.2
 have h3:=(h1.append h2).append_right L;refine h3.trans ?_;simp only[jL,List.cons_append,ju];exact (List.perm_middle).cons _
theorem jBJ {ts ts':List DE}{u:DE}(hp:(u::ts).Perm ts'){L:HL}:qi (xY u.2::wT u.2::wX ts::L) (wX ts'::L):=by
 refine qi.trans (qi.cons (qi.cons qi.open_all)) (qi.trans (qi.perm ?_) (qi.shut_all (L:=(ts'.map λu=>xY u.2)++ts'.map λu=>wT u.2)));have h1:=hp.map λu=>xY u.2
 have h2:=hp.map λu=>wT u.2
 have h3:=(h1.append h2).append_right L;refine List.Perm.trans ?_ h3;simp only[jL,List.cons_append,ju];exact (List.perm_middle.symm).cons _
theorem jGw {ts:List DE}{k:Nat}(hk:k<ts.length)(u:DE){L:HL}:qi (xY u.2::wT u.2::wX (ts.eraseIdx k)::L) (wX (ts.set k u)::L):=jBJ (XP ts k u hk)
theorem jBK (ts:List DE)(u:DE){L:HL}:qi (xY u.2::wT u.2::wX ts::L) (wX (ts++[u])::L):=jBJ (List.perm_append_singleton u ts).symm
def wk (d:DK):Bool:= !(d.down||decide (d.left=0))
def qY (d:DK):DK:=if wk d then {d with left:=max (d.left - 1) (-1)} else {d with down:=true}
theorem lK (p mp:Nat)(d:DK)(L:HL)(hl: -1≤d.left∧d.left≤1000000):
  qh kY 122 [.pointer (some ⟨p,0,none⟩)] (dP p mp d::L) (λr L'=>r=.bool (wk d)∧L'=dP p mp (qY d)::L):=by
 refine qg Tryz.func122 rfl rfl rfl ?_;obtain ⟨left,down,room,fs⟩:=d;dsimp only at hl
 show swp _ _ _ _ _ (pt p (cl [.int .i64 left,.bool down,.int .i64 room,.map (some mp)] 64)::L)
 cases down with
 |true=>
  refine Q.r ?_;exact N.t rfl (kZ _) ⟨rfl,rfl⟩
 |false=>
  by_cases h0:left=0
  ·subst h0
   refine Q.r ?_;exact N.t rfl (kZ _) ⟨rfl,rfl⟩
  ·refine Q.r ?_
   have e:wk ⟨left,false,room,fs⟩=true:=by unfold wk;rw[jv h0];rfl
   exact N.t rfl (kZ _) ⟨by rw[e],by unfold qY;rw[e];rfl⟩
def V4 (bs:List UInt8):Prop:=1≤bs.length∧bs.length≤8∧∀b∈bs,(97≤b.toNat∧b.toNat≤122)∨(48≤b.toNat∧b.toNat≤57)
theorem XS (bs:List UInt8)(L:HL)(h:V4 bs):
  qh kY 60 [str bs] L (λr L'=>r=.bool true∧L'=L):=by
 refine qg Tryz.func60 rfl rfl rfl ?_;obtain ⟨h1,h8,hb⟩:=h;have h128:∀b∈bs,b.toNat<128:=λb hbm=>by rcases hb b hbm with h|h<;>omega
 refine Q.r ?_;refine S.rgs rfl (λr=> ?_);refine Q.r ?_;refine qx (σ:=Unit) (λ_=> [(0,str bs)]) (λ_=>L) (λ_=>True) ?_ ?_
 ·refine ql (σ:=Nat) (λk=> [(0,str bs),(6,.pointer (some ⟨r,0,none⟩))]) (λk=>pt r (.stringIter ⟨bs.toArray⟩ k)::L) (λk=>k≤bs.length) (λk=>bs.length - k) 0 zt (kZ _) zo ?_
  intro k hk;refine Q.r ?_;refine S.nxs (k:=k) rfl (λhle=> ?_) (λb hbk=> ?_) h128
  ·refine Q.r ?_
   exact ⟨(),zt,qi.drop (kZ _),trivial⟩
  ·have hlt:k<bs.length:=(jm.1 hbk).1
   have hq:=hb b (jn hbk)
   by_cases hlet:97≤b.toNat
   ·have h122:b.toNat≤122:=by omega
    refine Q.r ?_;exact ⟨k+1,zt,kZ _,by omega,by omega⟩
   ·have h48:48≤b.toNat:=by omega
    have h57:b.toNat≤57:=by omega
    refine Q.r ?_;exact ⟨k+1,zt,kZ _,by omega,by omega⟩
 ·intro _ _
  have hne:bs≠[]:=by intro h;subst h;exact absurd h1 zd
  have h8':(bs.length:Int)≤8:=by omega
  refine Q.r ?_;rw[jv hne];refine Q.r ?_;refine S.y (Y.stL rfl) ?_;refine Q.r ?_;refine N.t rfl (kZ _) ⟨?_,rfl⟩;rw[jo h8']
abbrev qK (p:Nat):Value:=.pointer (some ⟨p,0,none⟩)
theorem WE {ts:List DE}{fs:List (List UInt8×List UInt8×Nat)}(h:ts.map DE.abs=fs)(x:List UInt8):qJ fs x=(qJ (α:=Nat×FV) ts x).map λu=>(u.2.bs,u.2.firm):=by
 subst h
 induction ts with
 |nil=>rfl
 |cons t ts ih=>
  unfold qJ at ih ⊢;rw[jL,List.find?_cons,List.find?_cons]
  by_cases hx:t.1=x
  ·have:decide ((DE.abs t).1=x)=true:=jo hx
   rw[this];rfl
  ·have:decide ((DE.abs t).1=x)=false:=jv hx
   rw[this];exact ih
theorem X9 {ts:List DE}{x:List UInt8}{u:Nat×FV}(h:qJ (α:=Nat×FV) ts x=some u):∃k:Nat,ts[k]? =some ((x,u):DE):=by
 unfold qJ at h;obtain ⟨v,hv,rfl⟩:=Option.map_eq_some_iff.1 h;have h1:=List.mem_of_find?_eq_some hv;have h2:=List.find?_some hv
 simp at h2
 obtain ⟨k,hk⟩:=List.mem_iff_getElem?.1 h1;exact ⟨k,by rw[hk,←h2]⟩
theorem zA {ts:List DE}{fs:List (List UInt8×List UInt8×Nat)}(h:ts.map DE.abs=fs){x:List UInt8}:qJ fs x=none↔qJ (α:=Nat×FV) ts x=none:=by
 rw[WE h,Option.map_eq_none_iff]
theorem qS (d:DK):(qY d).fs=d.fs:=by unfold qY;split<;>rfl
theorem Ww (d:DK):(qY d).room=d.room:=by unfold qY;split<;>rfl
theorem Wq.spend {d:DK}{ts:List DE}(h:Wq d ts):Wq (qY d) ts:=by
 have h1:=h.lm;refine ⟨by rw[qS];exact h.fs,h.key,?_,by rw[Ww];exact h.rm,by rw[qS,Ww];exact h.used,h.few,h.firm⟩;unfold qY
 split
 ·show -1≤max (d.left - 1) (-1)∧max (d.left - 1) (-1)≤1000000
  omega
 ·exact h1
def vV (d:DK)(n:List UInt8):Prop:=qJ d.fs n≠none
instance (d :DK) (n:List UInt8):Decidable (vV d n):=inferInstanceAs (Decidable (_≠none))
abbrev sC (n:List UInt8):List Value:=[str n]
theorem VM (xs:List (List UInt8)):xs.flatMap sC=xs.map str:=by induction xs with
 |nil=>rfl
 |cons x xs ih=>simp[jK,ih]
def jHB (p:Nat)(d:DK)(ns:List (List UInt8))(L:HL)(R:Value→HL→Prop)(r:Value)(L':HL):Prop:=
 (wk d=false∧r=.int .i64 9∧L'=qr p (qY d)::L)∨(wk d=true∧(∃n∈ns,¬vV d n)∧r=.int .i64 6∧L'=qr p (qY d)::L)∨(wk d=true∧(∀n∈ns,vV d n)∧R r L')
theorem yR (p:Nat)(d:DK)(g:FuncId)(cs:List Value)[he:Go.SX.qj kY g](a:OA)(c:Nat)(ns:List (List UInt8))(L:HL)(R:Value→HL→Prop)
  (hns:∀(X:HL),qW (X++L) a ns.length 1 (ns.map str)) (hn:ns.length≤1000000) (hc:wk d=true→(∀n∈ns,vV d n)→qh kY g cs (qr p (qY d)::L) R):
  qh kY 57 [qK p,.func (.func g) #[] cs.toArray,.slice a ns.length c] (qr p d::L) (jHB p d ns L R):=by
 refine v8 λmp ts hd=> ?_
 refine qg Tryz.func57 rfl rfl rfl ?_;refine Q.r ?_;refine S.cq (A:=dP p mp d) rfl (lK p mp d _ hd.lm) ?_;rintro _ _ ⟨rfl,rfl⟩;have hds:=hd.spend
 cases hsp:wk d with
 |false=>
  refine Q.r ?_;exact N.t rfl (qi.trans (M:=dP p mp (qY d)::dM mp ts::wX ts::L) eG (vz hds)) (.inl ⟨hsp,rfl,rfl⟩)
 |true=>
  refine Q.r ?_;have hns0:=hns [dP p mp (qY d),dM mp ts,wX ts];rw[←VM] at hns0;refine qx (σ:=Unit) (λ_=> [(1,.func (.func g) #[] cs.toArray)]) (λ_=>qr p (qY d)::L) (λ_=>∀n∈ns,vV d n) ?_ ?_
  ·refine ql (σ:=Nat) (λk=> [(0,qK p),(1,.func (.func g) #[] cs.toArray),(18,.slice a ns.length c),(19,.int .i64 ns.length),(20,.int .i64 k)]) (λ_=>dP p mp (qY d)::dM mp ts::wX ts::L)
    (λk=>k≤ns.length∧∀n∈ns.take k,vV d n) (λk=>ns.length - k) 0 zt (kZ _) ⟨by omega,λn hn=>by simp at hn⟩ ?_
   rintro k ⟨hk,hall⟩
   by_cases hlt:k<ns.length
   ·obtain ⟨n,hnk⟩:=qw hlt
    obtain ⟨b,o,rfl,hr⟩:=qW.elem (g:=sC) (λ_=>rfl) hns0 hnk rfl;refine Q.r ?_;refine S.y (Y.lk false rfl rfl (λw=>Tryz.zeroValue124 w)) ?_
    cases hz:qJ (α:=Nat×FV) ts n with
    |none=>
     dsimp only;refine Q.r ?_;exact N.t rfl (vz hds) (.inr (.inl ⟨hsp,⟨n,jn hnk,λh=>h ((zA hd.fs).2 hz)⟩,rfl,rfl⟩))
    |some u=>
     dsimp only;refine Q.r ?_;refine ⟨k+1,zt,kZ _,⟨by omega,λm hm=> ?_⟩,by omega⟩;rw[qz hnk] at hm
     rcases jy.1 hm with hm|hm
     ·exact hall m hm
     ·rw[ji.1 hm]
      intro h;rw[(zA hd.fs).1 h] at hz;cases hz
   ·have hke:k=ns.length:=by omega
    subst hke;rw[jI] at hall;refine Q.r ?_;exact ⟨(),zt,vz hds,hall⟩
  ·intro _ hall
   refine Q.r ?_;refine S.crF (fs:=[]) (args:=[]) (cs:=cs) rfl rfl (hc hsp hall) ?_;intro v L' hR;refine Q.r ?_;exact N.t rfl (kZ _) (.inr (.inr ⟨hsp,hall,hR⟩))
theorem Xs {ts:List DE}{k:Nat}{u:DE}(h:ts[k]? =some u){L:HL}:qi (xY u.2::wT u.2::wX (ts.eraseIdx k)::L) (wX ts::L):=jBJ (yB ts k u h).symm
section
variable {n : Nat} {ops rest : List Oper} {cd : Code} {Q : vk} {f : vF} {L L0 : HL}
theorem ce {ts:List DE}[hp:xe (wX ts) L L0]{k:Nat}{u:DE}(h:ts[k]? =some u)(hk:qq kY n ops rest Q f (xY u.2::wT u.2::wX (ts.eraseIdx k)::L0)):qq kY n ops rest Q f L:=qm (hp.ent.trans (mw h)) hk
theorem QZ {ts:List DE}[hp:xe (wX ts) L L0]{k:Nat}{u:DE}(h:ts[k]? =some u)(hk:swp kY n cd Q f (xY u.2::wT u.2::wX (ts.eraseIdx k)::L0)):swp kY n cd Q f L:=vf (hp.ent.trans (mw h)) hk
end
theorem JY {d:DK}{ts:List DE}(h:Wq d ts):(ts.map λu=>u.2.2.bs.length).sum=qP d.fs:=by
 rw[←h.fs];unfold qP;rw[kE];rfl
def WR (ts:List DE)(vis:List Nat):Nat:=(vis.filterMap λi=>(ts[i]?).map λu=>u.2.2.bs.length).sum
theorem dO (ts:List DE)(a b:List Nat):WR ts (a++b)=WR ts a+WR ts b:=by unfold WR;rw[List.filterMap_append,List.sum_append]
theorem dQ {ts:List DE}{vis:List Nat}(h1:vis.Nodup)(h2:∀i∈vis,i<ts.length)(h3:∀i,i<ts.length→i∈vis):WR ts vis=(ts.map λu=>u.2.2.bs.length).sum:=by
 unfold WR;exact (Xi (λu:DE=>u.2.2.bs.length) h1 h2 h3).sum_nat
theorem jCJ {ts:List DE}{vis:List Nat}(h1:vis.Nodup)(h2:∀i∈vis,i<ts.length):WR ts vis≤(ts.map λu=>u.2.2.bs.length).sum:=by
 have h:=dQ (ts:=ts) (vis:=vis++(List.range ts.length).filter λi=>decide (i∉vis)) ?_ ?_ ?_
 ·rw[dO] at h;omega
 ·refine List.nodup_append.2 ⟨h1,List.Sublist.nodup List.filter_sublist List.nodup_range,λx hx y hy e=> ?_⟩
  subst e;have:=(jB.1 hy).2
  simp at this;exact this hx
 ·intro i hi
  rcases jy.1 hi with hi|hi
  ·exact h2 i hi
  ·exact List.mem_range.1 (jB.1 hi).1
 ·intro i hi
  by_cases h:i∈vis
  ·exact jy.2 (.inl h)
  ·exact jy.2 (.inr (jB.2 ⟨List.mem_range.2 hi,by simpa using h⟩))
theorem sZ (p mp:Nat)(d:DK)(ts:List DE)(L:HL)(hd:Wq d ts):
  qh kY 61 [qK p] (dP p mp d::dM mp ts::wX ts::L) (λr L'=>r=.int .i64 (qP d.fs)∧L'=dP p mp d::dM mp ts::wX ts::L):=by
 refine qg Tryz.func61 rfl rfl rfl ?_;have hu:=hd.used;have hr:=hd.rm;refine Q.r ?_;refine S.rg rfl (λr=> ?_);refine Q.r ?_;refine qx (σ:=Unit) (λ_=> [(3,.int .i64 (qP d.fs))]) (λ_=>dP p mp d::dM mp ts::wX ts::L) (λ_=>True) ?_ ?_
 ·refine ql (σ:=List Nat) (λvis=> [(12,.pointer (some ⟨r,0,none⟩)),(3,.int .i64 (WR ts vis))])
   (λvis=>dP p mp d::ZO str fk mp r ts vis::wX ts::L) (λvis=>vis.Nodup∧(∀i∈vis,i<ts.length)∧WR ts vis≤qP d.fs) (λvis=>ts.length - vis.length) [] zt eG ⟨by simp,by simp,jw _⟩ ?_
  rintro vis ⟨hv1,hv2,hv3⟩;refine Q.r ?_;refine S.nx rfl (λhend=> ?_) (λi q hp hi=> ?_)
  ·refine Q.r ?_
   refine ⟨(),⟨?_,trivial⟩,?_,trivial⟩
   ·rw[dQ hv1 hv2 hend,JY hd];rfl
   ·exact qi.cons Qn
  ·have hil:i<ts.length:=(jm.1 hp).1
   obtain ⟨hm1,hm2,hm3⟩:=Kz hv1 hv2 hil hi;have hle:=jCJ hm1 hm2;rw[JY hd] at hle;have hap:WR ts (vis++[i])=WR ts vis+q.2.2.bs.length:=by
    rw[dO];unfold WR;simp[hp]
   rw[hap] at hle;refine Q.r ?_;refine S.y (Y.en rfl hp) ?_;refine Q.r ?_;refine ce hp ?_;refine Q.r ?_;refine ⟨vis++[i],⟨rfl,by rw[hap];rfl,trivial⟩,?_,⟨hm1,hm2,by rw[hap];exact hle⟩,by simp;omega⟩;exact qi.trans (M:=xY q.2::wT q.2::wX (ts.eraseIdx i)::dP p mp d::ZO str fk mp r ts (vis++[i])::L) eG (qi.trans (Xs hp) eG)
 ·intro _ _
  refine Q.r ?_;exact N.t rfl (kZ _) ⟨rfl,rfl⟩
theorem gH (p mp:Nat)(d:DK)(L:HL):qh kY 136 [qK p] (dP p mp d::L) (λr L'=>r=.bool (!d.down)∧L'=dP p mp d::L):=by
 refine qg Tryz.func136 rfl rfl rfl ?_;refine Q.r ?_;exact N.t rfl (kZ _) ⟨rfl,rfl⟩
theorem jCw (p mp:Nat)(d:DK)(L:HL):qh kY 70 [qK p] (dP p mp d::L) (λr L'=>r=.bool (!d.down)∧L'=dP p mp d::L):=by
 refine qg Tryz.func70 rfl rfl rfl ?_;refine Q.r ?_;refine S.cr rfl (gH p mp d L) ?_;rintro _ _ ⟨rfl,rfl⟩;refine Q.r ?_;exact N.t rfl (kZ _) ⟨rfl,rfl⟩
theorem Qf :∀{l:List Nat} {x:Nat},x∈l→x≤l.sum
 |y::l,x,h=>by
  rw[List.sum_cons]
  rcases j9.1 h with rfl|h
  ·omega
  ·have:=Qf h;omega
def D0 (room:Int):DK:=⟨-1,false,room,[]⟩
theorem Wr (room:Int)(L:HL)(h:0≤room∧room≤1048576):qh kY 6 [.int .i64 room] L (λr L'=>∃p,r=.tuple #[qK p,.int .i64 0]∧L'=qr p (D0 room)::L):=by
 refine qg Tryz.func6 rfl rfl rfl ?_;obtain ⟨h1,h2⟩:=h;refine Q.r ?_;refine S.mkm str fk (λmt=> ?_);refine Q.r ?_;(repeat (intro b1;refine Q.r ?_));refine N.u rfl rfl ?_ ⟨b1,rfl,rfl⟩;refine qi.trans (M:=dP b1 mt (D0 room)::dM mt []::L) eG ?_;refine qi.trans ?_ (vz (p:=b1) (mp:=mt) (d:=D0 room) (ts:=[]) ⟨rfl,List.nodup_nil,⟨by show (-1:Int)≤ -1;decide,by show (-1:Int)≤1000000;decide⟩,⟨h1,h2⟩,by simpa[qP,D0] using h1,by simp,λu hu=>by cases hu⟩);refine qi.cons (qi.cons ?_);exact qi.trans (qi.perm (List.Perm.refl _)) (qi.shut_all (L:=[]))
def rdE (d:DK)(n:List UInt8):Int:=if d.down then 9 else if qJ d.fs n=none then 6 else 0
def JU (d:DK)(n:List UInt8):List UInt8:=if d.down then [] else ((qJ d.fs n).map (·.1)).getD []
theorem Z5 (p:Nat)(d:DK)(n:List UInt8)(M:OM)(L:HL):
  qh kY 72 [qK p,str n] (qr p d::qo M::L) (λr L'=>∃v M',r=.tuple #[YB.val v,.int .i64 (rdE d n)]∧v.bs=JU d n∧wc M' v∧v.bs.length≤v.c∧qU M M'∧L'=qr p d::qo M'::L):=by
 refine v8 λmp ts hd=> ?_
 refine qg Tryz.func72 rfl rfl rfl ?_;refine Q.r ?_;refine S.cr rfl (jCw p mp d _) ?_;rintro _ _ ⟨rfl,rfl⟩;unfold rdE JU
 cases hdn:d.down with
 |true=>
  refine Q.r ?_;exact N.u rfl rfl (qi.trans (M:=dP p mp d::dM mp ts::wX ts::qo M::L) eG (vz hd)) ⟨⟨none,0,[]⟩,M,rfl,rfl,qH.nil,jz _,qU.refl _,rfl⟩
 |false=>
  refine Q.r ?_;refine S.y (Y.lk false rfl rfl (λw=>Tryz.zeroValue124 w)) ?_;rw[WE hd.fs]
  cases hz:qJ (α:=Nat×FV) ts n with
  |none=>
   dsimp only;refine Q.r ?_;exact N.u rfl rfl (qi.trans (M:=dP p mp d::dM mp ts::wX ts::qo M::L) eG (vz hd)) ⟨⟨none,0,[]⟩,M,rfl,rfl,qH.nil,jz _,qU.refl _,rfl⟩
  |some u=>
   dsimp only;refine Q.r ?_;refine S.y (Y.lk false rfl rfl (λw=>Tryz.zeroValue124 w)) ?_;rw[hz];dsimp only[cond_false];obtain ⟨k,hkk⟩:=X9 hz;refine ce hkk ?_;obtain ⟨ub,ua,uc,ubs,ufirm⟩:=u;refine jC4 ua (λhl ha hc=> ?_);have hul:ubs.length≤1048576:=by
    have h1:=hd.used;have h2:=hd.rm;have h3:ubs.length≤qP d.fs:=by
     rw[←JY hd];exact Qf (jA (f:=λu:DE=>u.2.2.bs.length) (jn hkk))
    omega
   refine Q.r ?_;refine S.cr rfl (Vn ua uc ubs M _ _ (qW.ofS (by simp) ha) zo) ?_;rintro _ _ ⟨v,M',rfl,hv,hvo,hvc,hl',rfl⟩;refine Q.r ?_;refine N.u rfl rfl ?_ ⟨v,M',rfl,hv,hvo,by rw[hv];exact hvc,hl',rfl⟩;exact qi.trans (M:=xY (ub,(⟨ua,uc,ubs,ufirm⟩:FV))::wT (ub,(⟨ua,uc,ubs,ufirm⟩:FV))::wX (ts.eraseIdx k)::dP p mp d::dM mp ts::qo M'::L) eG (qi.trans (Xs hkk) (qi.trans (M:=dP p mp d::dM mp ts::wX ts::qo M'::L) eG (vz hd)))
end Go.Proofs.YtlnfjhiphlfkjaaGreatDoor
namespace Go.SX
open Go
section
variable {P : Program} {n : Nat} {ops : List Oper} {Q : vk} {f : vF} {A L : HL} {E cs σ : List Nat} {listed : Array Bool}
theorem jC5 {i:Nat}{o:Oper}{F:HL}{a:Act}{w:World}{k:Nat}(hi:ops[i]? =some o)(ok:wj n ops=true)(s:Ki n a f)(t:St w (L++(A++F)))(hsh:WZ ops.toArray (listed.setIfInBounds i true))
    (h:wT P n ops o (λf L2=>∃L',qi L2 (L'++A)∧vu P n ops Q cs A k (listed.setIfInBounds i true) true f L') f (L++A)):
    wpOp P ops.toArray (lift n F Q) i (λa w=>xi cs (λw=>∃L,St w (L++(A++F))) (listed.setIfInBounds i true) w∧Zd P ops.toArray (lift n F Q) (xi cs λw=>∃L,St w (L++(A++F))) k (listed.setIfInBounds i true) a w) a w:=by
  have h2:=h (by simpa[wj] using KJ ok hi) F a w s (by simpa using t);simp only[wpList] at h2;unfold wpOp;have hi':ops.toArray[i]? =some o:=by simpa using hi
  simp only[hi'];have key:∀a w,lift n F (λe f L2=>match e with| .normal=>∃L',qi L2 (L'++A)∧vu P n ops Q cs A k (listed.setIfInBounds i true) true f L'|_=>False) .normal a w→
      xi cs (λw=>∃L,St w (L++(A++F))) (listed.setIfInBounds i true) w∧Zd P ops.toArray (lift n F Q) (xi cs λw=>∃L,St w (L++(A++F))) k (listed.setIfInBounds i true) a w:=by
    rintro a w ⟨f,L2,s,t,L',he,q⟩;have t3:=he w F t;exact ⟨.inr ⟨L',by simpa using t3⟩,q ok F a w s hsh (by simpa using t3) (λh=>by cases h)⟩
  by_cases hw:Region.wanted o (yielded ops.toArray a.tmps)=true
  · rw[jb hw] at h2 ⊢
    refine .inl ?_
    rcases h2 with h2|⟨_,a',w',f,L,_,_,q⟩
    · unfold Oper.wp at h2 ⊢
      generalize (execOp a.eval o).run P w=r at*
      cases r with
      |ok m w'=>
        cases m<;>simp only[Oper.upon] at h2 ⊢ <;>first
          |exact key _ _ h2
          |exact h2
          | (refine Calls.mono h2 fun e w'' he => ?_
             cases e with
             |returned u=>exact key _ _ he
             |panicked c=>obtain ⟨_,_,_,_,q⟩:=he;exact q.elim
             |outgrown=>obtain ⟨_,_,_,_,_,_,q⟩:=he;exact q.elim)
          |exact Rows.mono h2 λ_ _ he=>key _ _ he
      |halt x w'=>cases x<;>simp only[Oper.upon] at h2 ⊢ <;>first|exact h2|(obtain ⟨_,_,_,_,q⟩:=h2;exact q.elim)
    · exact q.elim
  · rw[ja hw] at h2 ⊢
    exact key _ _ h2
theorem A.oneA (i:Nat){k:Nat}{o:Oper}(hr:Region.ready .any ops.toArray listed=[i])(hi:ops[i]? =some o)
  (h:wT P n ops o (λf L2=>∃L',qi L2 (L'++A)∧vu P n ops Q cs A k (listed.setIfInBounds i true) true f L') f (L++A)):vu P n ops Q cs A (k+1) listed true f L:=by
 intro ok F a w s hsh t hh;refine ⟨λh0=>(by rw[h0] at hr;cases hr),λj hj=> ?_⟩;have hri:i∈Region.ready .any ops.toArray listed:=by rw[hr];simp
 rw[hr] at hj;obtain rfl:j=i:=by simpa using hj
 exact jC5 hi ok s (by simpa using t) (hsh.set hri) h
class jAc (A L:HL)(L2:outParam (HL)):Prop where
 eq:A++L=L2
instance jAc.nil {L:HL}:jAc [] L L:=⟨rfl⟩
instance jAc.cons {x:HP}{A L L2:HL}[h:jAc A L L2]:jAc (x::A) L (x::L2):=⟨jj (List.cons x) h.eq⟩
theorem D.ea {i:Nat}{o:Oper}{L2:HL}[hL:jAc A L L2](hi:ops[i]? =some o)(h9:Nat.beq i 99999=false)(hE:E.contains i=true)
  (h:qq P n ops [o] (qM (λf L2=>∃L',qi L2 (A++L')∧qG P n ops E cs A σ Q (listed.setIfInBounds i true) true f L') (λ_ _ _=>False)) f L2):qG P n ops E cs A (i::σ) Q listed true f L:=by
 intro ho hs hQ;simp only[zx,h9,hE,cond_true,cond_false,jF,beq_iff_eq] at ho;refine _root_.Go.SX.A.oneA i ho.1 hi (qm (qi.perm (List.perm_append_comm.trans (hL.eq▸List.Perm.refl _))) λok F a w s t=>vS (h ok F a w s t) ?_);rintro e a w ⟨f,L,s,t,q⟩
 cases e<;>first|exact q.elim|(obtain ⟨L',he,q⟩:=q;exact ⟨f,L,s,t,L',he.trans (qi.perm List.perm_append_comm),q ho.2 hs hQ⟩)
class Z8 (A L:HL)(L':outParam (HL)):Prop where
 ent:qi L (A++L')
instance Z8.nil {L:HL}:Z8 [] L L:=⟨kZ _⟩
instance Z8.cons {x:HP}{A L L1 L':HL}[h1:xe x L L1][h2:Z8 A L1 L']:Z8 (x::A) L L':=⟨h1.ent.trans h2.ent.cons⟩
theorem D.back {L':HL}[h:Z8 A L L'](hk:qG P n ops E cs A σ Q listed true f L'):∃L',qi L (A++L')∧qG P n ops E cs A σ Q listed true f L':=⟨L',h.ent,hk⟩
end
end Go.SX
namespace Go.Proofs.YtlnfjhiphlfkjaaGreatDoor
open Go Go.SX
attribute [local irreducible] swp qq qM qL vX qh St qi qk vu qG
def vM (d:DK)(n:List UInt8):List UInt8×Nat:=(qJ d.fs n).getD ([],0)
def fT (d:DK)(bs:List UInt8):Prop:=d.room<qP d.fs+bs.length
instance (d :DK) (bs:List UInt8):Decidable (fT d bs):=inferInstanceAs (Decidable (_<_))
def wrD (d:DK)(n bs:List UInt8):DK:={d with fs:=qZ d.fs n ((vM d n).1++bs,(vM d n).2)}
theorem jBZ {ts ts':List DE}(mp:Nat)(h:ts.map (λu=>(u.1,u.2.1))=ts'.map λu=>(u.1,u.2.1)):dM mp ts=dM mp ts':=by
 have e1:∀l:List DE,(l.map λp=>(str p.1,fk p.2))=(l.map λu=>(u.1,u.2.1)).map λq=>(str q.1,Value.pointer (some ⟨q.2,0,none⟩)):=λl=>by rw[kE];rfl
 have e2:∀l:List DE,l.map (·.1)=(l.map λu=>(u.1,u.2.1)).map (·.1):=λl=>by rw[kE];rfl
 unfold dM Vp yC qn;rw[e1,e2,h,←e1,←e2]
theorem bV {κ α:Type}[DecidableEq κ]{m:List (κ×α)}{k:Nat}{x:κ}{a c:α}(hk:qn m)(h:m[k]? =some (x,a)):qZ m x c=m.set k (x,c):=by
 have hlt:=(jm.1 h).1;have e:m=m.take k++(x,a)::m.drop (k+1):=by
  conv=>lhs;rw[←kJ k m]
  congr 1
  rw[List.drop_eq_getElem_cons hlt,(jm.1 h).2]
 have hk2:qn (m.take k++(x,a)::m.drop (k+1)):=e▸hk;unfold qn at hk2;rw[jq,jL,List.nodup_append] at hk2;obtain ⟨_,h2,h3⟩:=hk2;have hp:∀u∈m.take k,u.1≠x:=λu hu he=>h3 _ (jA hu) _ (by simp) he
 have hq:∀u∈m.drop (k+1),u.1≠x:=λu hu he=>(List.nodup_cons.1 h2).1 (jM.2 ⟨u,hu,he⟩)
 conv=>lhs;rw[e]
 rw[wS hp hq,List.set_eq_take_append_cons_drop,jb hlt]
theorem KQ {ts:List DE}{fs:List (List UInt8×List UInt8×Nat)}(h:ts.map DE.abs=fs)(hk:qn ts):qn fs:=by
 subst h;unfold qn at*;rw[kE];exact hk
theorem KA (a b:List (List UInt8×List UInt8×Nat)):qP (a++b)=qP a+qP b:=by simp[qP]
theorem nN {d:DK}(hk:qn d.fs)(n bs:List UInt8):qP (wrD d n bs).fs=qP d.fs+bs.length:=by
 show qP (qZ d.fs n _)=_
 unfold vM
 rcases w9 d.fs hk n with ⟨p,v,q,e,hp,hq⟩|hno
 ·rw[e,wS hp hq,Jc hp]
  rw[KA,KA]
  simp[qP];omega
 ·rw[vH hno,zB hno,KA]
  simp[qP]
theorem XO {α β:Type}(f:α→β){l:List α}{k:Nat}{x y:α}(h:l[k]? =some x)(hf:f x=f y):(l.set k y).map f=l.map f:=by
 apply List.ext_getElem?;intro i;rw[List.map_set,List.getElem?_set]
 by_cases hik:k=i
 ·subst hik
  have:=(jm.1 h).1;rw[jb rfl,jZ,h]
  simp[this,hf]
 ·rw[ja hik]
theorem Wq.set {d d':DK}{ts:List DE}(hd:Wq d ts){k:Nat}{n:List UInt8}{ub:Nat}{fv:FV}(hkk:ts[k]? =some (n,ub,fv))(fv':FV)(hl:d'.left=d.left)(hr:d'.room=d.room)(hfs:d'.fs=d.fs.set k (n,fv'.bs,fv'.firm))(hu:(qP d'.fs:Int)≤d'.room)(hfi:fv'.firm≤fv'.bs.length):Wq d' (ts.set k (n,ub,fv')):=by
 refine ⟨?_,?_,by rw[hl];exact hd.lm,by rw[hr];exact hd.rm,hu,by rw[List.length_set];exact hd.few,λu hu=> ?_⟩
 ·rw[hfs,←hd.fs,List.map_set]
 ·have hk2:=hd.key
  unfold qn at*;rw[XO (·.1) (y:=(n,ub,fv')) hkk rfl];exact hk2
 ·rcases List.mem_or_eq_of_mem_set hu with hu|rfl
  ·exact hd.firm u hu
  ·exact hfi
theorem KW {p mp:Nat}{d':DK}{ts:List DE}{k:Nat}{n:List UInt8}{ub:Nat}{fv fv':FV}{L:HL}(hkk:ts[k]? =some (n,ub,fv))(hd2:Wq d' (ts.set k (n,ub,fv'))):
  qi (xY (ub,fv')::wT (ub,fv')::wX (ts.eraseIdx k)::dP p mp d'::dM mp ts::L) (qr p d'::L):=by
 rw[jBZ (ts:=ts) (ts':=ts.set k (n,ub,fv')) mp (XO (λu=>(u.1,u.2.1)) (y:=(n,ub,fv')) hkk rfl).symm];refine qi.trans (jGw (jm.1 hkk).1 (n,ub,fv')) ?_;exact qi.trans (M:=dP p mp d'::dM mp (ts.set k (n,ub,fv'))::wX (ts.set k (n,ub,fv'))::L) eG (vz hd2)
def wrR (p:Nat)(d:DK)(n bs:List UInt8)(M:OM)(L:HL)(r:Value)(L':HL):Prop:=
 ∃M',qU M M'∧((fT d bs∧r=.int .i64 8∧L'=qr p d::qo M'::L)∨(¬fT d bs∧r=.int .i64 0∧L'=qr p (wrD d n bs)::qo M'::L))
theorem gA (p bp bn bd:Nat)(d:DK)(n:List UInt8)(a:OA)(c:Nat)(vs:List YB)(M:OM)(L:HL)(hn:V4 n)(hfew:d.fs.length≤15)(h:qH M a vs.length 1 (vs.flatMap YB.cells))(hv:∀v∈vs,wc M v)(hc:vs.length≤c)(hvl:vs.length≤1000000)(hb:(qV vs).length≤1000000000):
  qh kY 58 [qK bp,qK bn,qK bd] (qr p d::pt bp (cl [.slice a vs.length c] 73)::pt bn (cl [str n] 9)::pt bd (cl [qK p] 24)::qo M::L) (wrR p d n (qV vs) M L):=by
 refine v8 λmp ts hd=> ?_
 refine qg Tryz.func58 rfl rfl rfl ?_;refine Q.r ?_;refine S.cr rfl (Wo a c vs M _ _ (qH.rd h) (λv hm=>(hv v hm).rd) hc hvl zo) ?_;rintro _ _ ⟨v,M1,rfl,hvb,hvo,hvc,hl1,rfl⟩;rw[←hvb];refine Q.r ?_;refine S.cr rfl (XS n _ hn) ?_;rintro _ _ ⟨rfl,rfl⟩;refine Q.r ?_;have hur:=hd.used;have hrm:=hd.rm;have hvl2:v.bs.length≤1000000000:=by rw[hvb];exact hb
 refine Q.dgo [false,true,false,false,true,true,true] [1] [] [0,2,3,5,6,7,8,1,4,9,10] ?_;refine Q.rd2 ?_;refine D.ea rfl rfl rfl ?_;refine S.c3 (A:=dP p mp d) (B:=dM mp ts) (C:=wX ts) rfl (sZ p mp d ts _ hd) ?_;rintro _ _ ⟨rfl,rfl⟩;refine qO ?_;refine N.tn ?_;refine D.back ?_;refine Q.rd2 ?_
 by_cases hf:fT d v.bs
 ·have hf':d.room<(qP d.fs:Int)+(v.bs.length:Int):=hf
  refine Q.r ?_;refine N.t rfl ?_ ⟨M1,hl1,.inl ⟨hf,rfl,rfl⟩⟩;exact qi.trans (M:=dP p mp d::dM mp ts::wX ts::qo M1::L) eG (vz hd)
 have hf':¬d.room<(qP d.fs:Int)+(v.bs.length:Int):=hf;have hlen:ts.length≤15:=by have:=hd.fs;rw[←this,jf] at hfew;exact hfew
 refine Q.r ?_;refine vf (L':=dP p mp d::dM mp ts::wX ts::pt bp (cl [.slice a vs.length c] 73)::pt bn (cl [str n] 9)::pt bd (cl [qK p] 24)::qo M1::L) eG ?_;refine Q.dgo [true,true,true,true,true,true,true] [] [] [0,1,2,3,4,5,6,7,8,9,10,11,12,13,14,15] ?_;refine Q.rd ?_;refine D.y rfl rfl rfl zk (Y.lk false rfl rfl (λw=>Tryz.zeroValue124 w)) ?_
 cases hz:qJ (α:=Nat×FV) ts n with
 |none=>
  dsimp only;refine Q.rd ?_;refine Q.r ?_;refine Q.dgo [true,true,true,true,true,true,true] [] [] [0,1,2,3,4,5,6] ?_;refine Q.rd ?_;refine D.y rfl rfl rfl zk (Y.lk false rfl rfl (λw=>Tryz.zeroValue124 w)) ?_;rw[hz];dsimp only;refine Q.rd ?_;refine Q.r ?_;refine Q.dgo [true,false,true,true,true,true,true] [6,7] [] [0,1,2,3,4,5,6,7] ?_;refine Q.rd ?_;(repeat (intro b1;refine Q.rd ?_));refine D.e rfl rfl rfl ?_;refine S.mu (r:=fk) (u:=(b1,(⟨none,0,[],0⟩:FV))) rfl rfl rfl ?_;refine Q.r ?_;refine Q.rd ?_;have hnk:∀u∈ts,u.1≠n:=λu hu he=>by
   have h1:=hd.key;have h2:qJ (α:=Nat×FV) ts n=some u.2:=(vQ h1).2 (by rw[←he];exact hu);rw[h2] at hz;cases hz
  rw[vH hnk];have hkk:(ts++[((n,b1,⟨none,0,[],0⟩):DE)])[ts.length]? =some (n,b1,⟨none,0,[],0⟩):=by simp
  have hd1:Wq {d with fs:=d.fs++[(n,[],0)]} (ts++[((n,b1,⟨none,0,[],0⟩):DE)]):=by
   refine ⟨by rw[jq,hd.fs];rfl,?_,hd.lm,hd.rm,?_,by rw[jc];simp;omega,λu hu=> ?_⟩
   ·have h1:=hd.key
    unfold qn at*;rw[jq,List.nodup_append];refine ⟨h1,by simp,λx hx y hy he=> ?_⟩;obtain ⟨u,hu,rfl⟩:=jM.1 hx
    simp at hy;subst hy;exact hnk u hu he
   ·show (qP (d.fs++[(n,[],0)]):Int)≤d.room
    rw[KA];simpa[qP] using hd.used
   ·rcases jy.1 hu with hu|hu
    ·exact hd.firm u hu
    ·rw[ji.1 hu];exact jz _
  have hz1:qJ (α:=Nat×FV) (ts++[((n,b1,⟨none,0,[],0⟩):DE)]) n=some (b1,⟨none,0,[],0⟩):=(vQ hd1.key).2 (by simp);refine Q.r ?_;refine vf (L':=wX (ts++[((n,b1,⟨none,0,[],0⟩):DE)])::dP p mp d::dM mp (ts++[((n,b1,⟨none,0,[],0⟩):DE)])::pt bp (cl [.slice a vs.length c] 73)::pt bn (cl [str n] 9)::pt bd (cl [qK p] 24)::qo M1::L) ?_ ?_
  ·exact qi.trans (M:=xY (b1,(⟨none,0,[],0⟩:FV))::wT (b1,(⟨none,0,[],0⟩:FV))::wX ts::dP p mp d::dM mp (ts++[((n,b1,⟨none,0,[],0⟩):DE)])::pt bp (cl [.slice a vs.length c] 73)::pt bn (cl [str n] 9)::pt bd (cl [qK p] 24)::qo M1::L) eG (jBK ts (n,b1,⟨none,0,[],0⟩))
  generalize hub:b1=ub at*;refine QZ hkk ?_;refine Q.dgo [true,false,false,true,true,true,true,true] [16,19] [19] [0,1,2,3,4,5,6,7,8,9,10,11,12,13,14,15,16,17,18,19] ?_;refine Q.rd2 ?_;refine D.y rfl rfl rfl zk (Y.lk false rfl rfl (λw=>Tryz.zeroValue124 w)) ?_;rw[hz1];dsimp only;refine Q.rd2 ?_;refine D.y rfl rfl rfl zk (Y.lk false rfl rfl (λw=>Tryz.zeroValue124 w)) ?_;rw[hz1];dsimp only;refine Q.rd2 ?_;refine D.e rfl rfl rfl ?_;refine S.app rfl rfl (vA.rd hvo.rd (zM _)) zr (by show (0+v.bs.length)*1≤_;omega) (by show 0+v.bs.length≤_;omega) (λa7 c7=> ?_);refine Q.r ?_;refine Q.rd2 ?_;refine Q.dc rfl rfl rfl rfl ?_;refine Q.r ?_;refine Q.rd2 ?_;refine Q.r ?_;have hwf:(wrD d n v.bs).fs=(d.fs++[(n,[],0)]).set d.fs.length (n,[]++v.bs,0):=by
   show qZ d.fs n _=_
   have hl0 : qJ d.fs n = none := (zA hd.fs).2 hz;unfold vM;rw [hl0,vH (fun u hu he => by
    have h2:qJ d.fs n=some u.2:=(vQ (KQ hd.fs hd.key)).2 (by rw[←he];exact hu);rw[h2] at hl0;cases hl0)]
   simp
  have hlf:d.fs.length=ts.length:=by rw[←hd.fs,jf]
  rw [hlf] at hwf;have hd2 : Wq (wrD d n v.bs) ((ts ++ [((n,ub,⟨none,0,[],0⟩) : DE)]).set ts.length (n,ub,⟨a7,c7,[] ++ v.bs,0⟩)) := hd1.set hkk _ rfl rfl hwf (by
   rw[nN (KQ hd.fs hd.key)]
   show ((qP d.fs+v.bs.length:Nat):Int)≤d.room
   omega) (jw _)
  refine N.t rfl ?_ ⟨M1,hl1,.inr ⟨hf,rfl,rfl⟩⟩;refine qi.trans (M:=xY (ub,(⟨a7,c7,[]++v.bs,0⟩:FV))::wT (ub,(⟨a7,c7,[]++v.bs,0⟩:FV))::wX ((ts++[((n,ub,⟨none,0,[],0⟩):DE)]).eraseIdx ts.length)::dP p mp d::dM mp (ts++[((n,ub,⟨none,0,[],0⟩):DE)])::qo M1::L) ?_ (KW hkk hd2)
  show qi _ (pt ub (cl [.slice a7 ([]++v.bs).length c7,.int .i64 0] 126)::slO 5 1 a7 ([]++v.bs).length c7 (([]++v.bs).map B)::wX _::dP p mp d::dM mp (ts++[((n,ub,⟨none,0,[],0⟩):DE)])::qo M1::L)
  rw[jc,jq];exact eG
 |some u=>
  dsimp only;refine Q.rd ?_;refine Q.r ?_;refine Q.dgo [true,true,true,true,true,true,true] [] [] [0,1,2,3,4,5,6] ?_;refine Q.rd ?_;refine D.y rfl rfl rfl zk (Y.lk false rfl rfl (λw=>Tryz.zeroValue124 w)) ?_;rw[hz];dsimp only;refine Q.rd ?_;refine Q.r ?_;obtain ⟨k,hkk⟩:=X9 hz;obtain ⟨ub,ua,uc,ubs,ufirm⟩:=u;have hul:ubs.length≤qP d.fs:=by
   rw[←JY hd];exact Qf (jA (f:=λu:DE=>u.2.2.bs.length) (jn hkk))
  refine QZ hkk ?_;refine Q.dgo [true,false,false,true,true,true,true,true] [16,19] [19] [0,1,2,3,4,5,6,7,8,9,10,11,12,13,14,15,16,17,18,19] ?_;refine Q.rd2 ?_;refine D.y rfl rfl rfl zk (Y.lk false rfl rfl (λw=>Tryz.zeroValue124 w)) ?_;rw[hz];dsimp only;refine Q.rd2 ?_;refine D.y rfl rfl rfl zk (Y.lk false rfl rfl (λw=>Tryz.zeroValue124 w)) ?_;rw[hz];dsimp only;refine Q.rd2 ?_;refine D.e rfl rfl rfl ?_;refine S.app rfl rfl (vA.rd hvo.rd (zM _)) zr (by dsimp only;omega) (by dsimp only;omega) (λa7 c7=> ?_);refine Q.r ?_;refine Q.rd2 ?_;refine Q.dc rfl rfl rfl rfl ?_;refine Q.r ?_;refine Q.rd2 ?_;refine Q.r ?_;have hkf:=KQ hd.fs hd.key;have hfk:d.fs[k]? =some (n,ubs,ufirm):=by rw[←hd.fs,jZ,hkk];rfl
  have hlk:qJ d.fs n=some (ubs,ufirm):=by rw[WE hd.fs,hz];rfl
  have hwf:(wrD d n v.bs).fs=d.fs.set k (n,ubs++v.bs,ufirm):=by
   show qZ d.fs n _=_
   unfold vM;rw[hlk];exact bV hkf hfk
  have hd2 : Wq (wrD d n v.bs) (ts.set k (n,ub,⟨a7,c7,ubs ++ v.bs,ufirm⟩)) := hd.set hkk _ rfl rfl hwf (by
   rw[nN hkf]
   show ((qP d.fs+v.bs.length:Nat):Int)≤d.room
   omega) (by
   have:=hd.firm _ (jn hkk);dsimp only at this ⊢;rw[jc];omega)
  refine N.t rfl ?_ ⟨M1,hl1,.inr ⟨hf,rfl,rfl⟩⟩;refine qi.trans (M:=xY (ub,(⟨a7,c7,ubs++v.bs,ufirm⟩:FV))::wT (ub,(⟨a7,c7,ubs++v.bs,ufirm⟩:FV))::wX (ts.eraseIdx k)::dP p mp d::dM mp ts::qo M1::L) ?_ (KW hkk hd2)
  show qi _ (pt ub (cl [.slice a7 (ubs++v.bs).length c7,.int .i64 ufirm] 126)::slO 5 1 a7 (ubs++v.bs).length c7 ((ubs++v.bs).map B)::wX (ts.eraseIdx k)::dP p mp d::dM mp ts::qo M1::L)
  rw[jc,jq];exact eG
def Ws (d:DK)(bs:List UInt8):Int:=if wk d=false then 9 else if fT (qY d) bs then 8 else 0
def zQ (d:DK)(n bs:List UInt8):DK:=if Ws d bs=0 then wrD (qY d) n bs else qY d
theorem Vi (p:Nat)(d:DK)(n:List UInt8)(a:OA)(c:Nat)(vs:List YB)(M:OM)(L:HL)(hn:V4 n)(hfew:d.fs.length≤15)(h:qH M a vs.length 1 (vs.flatMap YB.cells))(hv:∀v∈vs,wc M v)(hc:vs.length≤c)(hvl:vs.length≤1000000)(hb:(qV vs).length≤1000000000):
  qh kY 21 [qK p,str n,.slice a vs.length c] (qr p d::qo M::L) (λr L'=>r=.int .i64 (Ws d (qV vs))∧∃M',qU M M'∧L'=qr p (zQ d n (qV vs))::qo M'::L):=by
 refine qg Tryz.func21 rfl rfl rfl ?_;refine Q.r ?_;(repeat (intro b1;refine Q.r ?_));refine S.y (Y.mf rfl rfl) ?_;rename_i bd bn;refine S.ck p rfl (yR p d 58 [qK b1,qK bn,qK bd] none 0 [] _ (wrR p (qY d) n (qV vs) M L) (λX=>⟨rfl,.inl rfl⟩) (by simp) (λh1 h2=> ?_)) ?_
 ·refine qh.ent (L':=qr p (qY d)::pt b1 (cl [.slice a vs.length c] 73)::pt bn (cl [str n] 9)::pt bd (cl [qK p] 24)::qo M::L) eG ?_
  exact gA p b1 bn bd (qY d) n a c vs M L hn (by rw[qS];exact hfew) h hv hc hvl hb
 intro v L' hR;refine Q.r ?_
 rcases hR with ⟨h1,rfl,rfl⟩|⟨_,⟨x,hx,_⟩,_,_⟩|⟨h1,_,M1,hl1,hw⟩
 ·have e:Ws d (qV vs)=9:=by unfold Ws;rw[jb h1]
  refine N.t rfl ?_ ⟨by rw[e],M,qU.refl _,by unfold zQ;rw[e,ja zd]⟩;exact eG
 ·cases hx
 ·rcases hw with ⟨hf,rfl,rfl⟩|⟨hf,rfl,rfl⟩
  ·have e:Ws d (qV vs)=8:=by unfold Ws;rw[ja (by rw[h1];decide),jb hf]
   exact N.t rfl (kZ _) ⟨by rw[e],M1,hl1,by unfold zQ;rw[e,ja zd]⟩
  ·have e:Ws d (qV vs)=0:=by unfold Ws;rw[ja (by rw[h1];decide),ja hf]
   exact N.t rfl (kZ _) ⟨by rw[e],M1,hl1,by unfold zQ;rw[e,jb rfl]⟩
def fmD (d:DK)(n:List UInt8):DK:={d with fs:=qZ d.fs n ((vM d n).1,(vM d n).1.length)}
theorem ny (p bp bd:Nat)(d:DK)(n:List UInt8)(a:OA)(c:Nat)(M:OM)(L:HL)(h:qH M a 1 1 [str n])(hh:vV d n):
  qh kY 183 [qK bp,qK bd] (qr p d::pt bp (cl [.slice a 1 c] 68)::pt bd (cl [qK p] 24)::qo M::L) (λr L'=>r=.int .i64 0∧L'=qr p (fmD d n)::qo M::L):=by
 refine v8 λmp ts hd=> ?_
 refine qg Tryz.func183 rfl rfl rfl ?_;obtain ⟨u,hz⟩:∃u,qJ (α:=Nat×FV) ts n=some u:=by
  cases hz:qJ (α:=Nat×FV) ts n with
  |some u=>exact ⟨u,rfl⟩
  |none=>exact absurd ((zA hd.fs).2 hz) hh
 obtain ⟨k,hkk⟩:=X9 hz;obtain ⟨ub,ua,uc,ubs,ufirm⟩:=u;refine QZ hkk ?_;refine Q.r ?_;have hrd:qW (xY (ub,(⟨ua,uc,ubs,ufirm⟩:FV))::wT (ub,(⟨ua,uc,ubs,ufirm⟩:FV))::wX (ts.eraseIdx k)::dP p mp d::dM mp ts::pt bp (cl [.slice a 1 c] 68)::pt bd (cl [qK p] 24)::qo M::L) a 1 1 ([n].flatMap sC):=h.rd;obtain ⟨b,o,rfl,hr⟩:=qW.elem (k:=0) (x:=n) (g:=sC) (λ_=>rfl) hrd rfl rfl;refine qx (σ:=Unit) (λ_=> []) (λ_=>qr p (fmD d n)::qo M::L) (λ_=>True) ?_ ?_
 ·refine ql (σ:=Nat) (λk=> [(1,qK bd),(5,.slice (some ⟨b,o,none⟩) 1 c),(6,.int .i64 ((1:Nat):Int)),(7,.int .i64 k)])
   (λi=>xY (ub,(⟨ua,uc,ubs,if i=0 then ufirm else ubs.length⟩:FV))::wT (ub,(⟨ua,uc,ubs,ufirm⟩:FV))::wX (ts.eraseIdx k)::dP p mp d::dM mp ts::pt bp (cl [.slice (some ⟨b,o,none⟩) 1 c] 68)::pt bd (cl [qK p] 24)::qo M::L)
   (λi=>i≤1) (λi=>1 - i) 0 zt (kZ _) zo ?_
  intro i hi
  by_cases h0:i=0
  ·subst h0
   rw[jb rfl];refine Q.r ?_;refine Q.dgo [true,false,false,true,true,true,true] [18] [18] [0,1,2,3,4,5,6,7,8,9,10,11,12,13,14,15,16,17,18] ?_;refine Q.rd2 ?_;refine D.y rfl rfl rfl zk (Y.lk false rfl rfl (λw=>Tryz.zeroValue124 w)) ?_;rw[hz];dsimp only;refine Q.rd2 ?_;refine D.y rfl rfl rfl zk (Y.lk false rfl rfl (λw=>Tryz.zeroValue124 w)) ?_;rw[hz];dsimp only;refine Q.rd2 ?_;refine Q.dc rfl rfl rfl rfl ?_;refine Q.r ?_;refine Q.rd2 ?_;refine Q.r ?_;exact ⟨1,zt,by rw[ja zd];exact eG,by omega,by omega⟩
  ·have h1:i=1:=by omega
   subst h1;rw[ja zd];refine Q.r ?_;have hkf:=KQ hd.fs hd.key;have hfk:d.fs[k]? =some (n,ubs,ufirm):=by rw[←hd.fs,jZ,hkk];rfl
   have hlk:qJ d.fs n=some (ubs,ufirm):=by rw[WE hd.fs,hz];rfl
   have hwf:(fmD d n).fs=d.fs.set k (n,ubs,ubs.length):=by
    show qZ d.fs n _=_
    unfold vM;rw[hlk];exact bV hkf hfk
   have hus:qP (fmD d n).fs=qP d.fs:=by
    rw[hwf];unfold qP;rw[XO (λu:List UInt8×List UInt8×Nat=>u.2.1.length) (y:=(n,ubs,ubs.length)) hfk rfl]
   have hd2:Wq (fmD d n) (ts.set k (n,ub,⟨ua,uc,ubs,ubs.length⟩)):=hd.set hkk _ rfl rfl hwf (by rw[hus];exact hd.used) (jz _);refine ⟨(),trivial,?_,trivial⟩;exact qi.trans (M:=xY (ub,(⟨ua,uc,ubs,ubs.length⟩:FV))::wT (ub,(⟨ua,uc,ubs,ubs.length⟩:FV))::wX (ts.eraseIdx k)::dP p mp d::dM mp ts::qo M::L) eG (KW hkk hd2)
 ·intro _ _
  refine Q.r ?_;exact N.t rfl (kZ _) ⟨rfl,rfl⟩
theorem KS {M:OM}{L:HL}:∀X:HL,wY M L→wY M (X++L)
 | [],h=>h
 |A::X,h=>by
  have:=KS X h;exact wY.there
def Xu (d:DK)(n:List UInt8):Int:=if wk d=false then 9 else if vV d n then 0 else 6
def Va (d:DK)(n:List UInt8):DK:=if Xu d n=0 then fmD (qY d) n else qY d
theorem v6 (d:DK)(n:List UInt8):vV (qY d) n↔vV d n:=by unfold vV;rw[qS]
theorem Qu (p:Nat)(d:DK)(n:List UInt8)(a:OA)(c:Nat)(M:OM)(L:HL)(h:qH M a 1 1 [str n]):
  qh kY 128 [qK p,.slice a 1 c] (qr p d::qo M::L) (λr L'=>r=.int .i64 (Xu d n)∧L'=qr p (Va d n)::qo M::L):=by
 refine qg Tryz.func128 rfl rfl rfl ?_;refine Q.r ?_;(repeat (intro b1;refine Q.r ?_));refine S.y (Y.mf rfl rfl) ?_;refine Q.r ?_;rename_i bd;refine S.ck p rfl (yR p d 183 [qK b1,qK bd] a c [n] _ (λr L'=>r=.int .i64 0∧L'=qr p (fmD (qY d) n)::qo M::L) (λX=>qH.rd h (hm:=KS X inferInstance)) (by simp) (λh1 h2=> ?_)) ?_
 ·refine qh.ent (L':=qr p (qY d)::pt b1 (cl [.slice a 1 c] 68)::pt bd (cl [qK p] 24)::qo M::L) eG ?_
  exact ny p b1 bd (qY d) n a c M L h ((v6 d n).2 (h2 n (by simp)))
 intro v L' hR;refine Q.r ?_
 rcases hR with ⟨h1,rfl,rfl⟩|⟨h1,⟨x,hx,hx2⟩,rfl,rfl⟩|⟨h1,h2,rfl,rfl⟩
 ·have e:Xu d n=9:=by unfold Xu;rw[jb h1]
  refine N.t rfl ?_ ⟨by rw[e],by unfold Va;rw[e,ja zd]⟩;exact eG
 ·rw[ji.1 hx] at hx2
  have e:Xu d n=6:=by unfold Xu;rw[ja (by rw[h1];decide),ja hx2]
  refine N.t rfl ?_ ⟨by rw[e],by unfold Va;rw[e,ja zd]⟩;exact eG
 ·have e:Xu d n=0:=by unfold Xu;rw[ja (by rw[h1];decide),jb (h2 n (by simp))]
  exact N.t rfl (kZ _) ⟨by rw[e],by unfold Va;rw[e,jb rfl]⟩
end Go.Proofs.YtlnfjhiphlfkjaaGreatDoor
namespace Go.SX
open Go
theorem bM {P:Program}{n:Nat}{cd:Code}{Q:vk}{f:vF}{L:HL}(a:OA){t sz m c:Nat}{cs:List Value}{L0:HL}[h:Kq a L t sz m c cs L0]
  (hk:cs.length=m*sz→(m=0∨∃b,a=some ⟨b,0,none⟩)→m≤c→swp P n cd Q f (slO t sz a m c cs::L0)):swp P n cd Q f L:=
 vf (h.ent.trans nT) (KB λhp=>hk hp.1 hp.2.1 hp.2.2)
theorem jAN {t sz m c k:Nat}{a:OA}{cs:List Value}{L:HL}(hk:k≤m):qi (slO t sz a m c cs::L) (slO t sz a k c (cs.take (k*sz))::L):=λw F H=>by
 have H0:St w (slO t sz a m c cs::(L++F)):=by simpa using H
 obtain ⟨hl,hq⟩:=St.slO_open H0
 rcases hq with ⟨rfl,rfl,rfl,rfl,H2⟩|⟨b,rest,rfl,hm,hc,H2⟩
 ·have:k=0:=by omega
  subst this;have:=St.slO_none (t:=t) (sz:=sz) H2
  simpa using this
 ·have e:cs++rest=cs.take (k*sz)++(cs.drop (k*sz)++rest):=by rw[←ju,kJ]
  have hks:k*sz≤m*sz:=Nat.mul_le_mul_right _ hk;rw[e] at H2 hc;have:=St.slO_shut (sz:=sz) (m:=k) (c:=c) (by rw[jP];omega) zo hc H2
  simpa using this
end Go.SX
namespace Go.Proofs.YtlnfjhiphlfkjaaGreatDoor
open Go Go.SX
attribute [local irreducible] swp qq qM qL vX qh St qi qk vu qG
theorem XN {t m c k:Nat}{a:OA}{bs:List UInt8}{L:HL}(hm:bs.length=m)(hk:k≤m):qi (slO t 1 a m c (bs.map B)::L) (slO t 1 a (bs.take k).length c ((bs.take k).map B)::L):=by
 have h:=jAN (t:=t) (sz:=1) (m:=m) (c:=c) (k:=k) (a:=a) (cs:=bs.map B) (L:=L) hk;rw[jX,←List.map_take] at h;have e:(bs.take k).length=k:=by rw[jP];omega
 rw[e];exact h
theorem Wq.len {d:DK}{ts:List DE}(hd:Wq d ts){k:Nat}{u:DE}(h:ts[k]? =some u):u.2.2.bs.length≤1048576∧u.2.2.bs.length≤qP d.fs:=by
 have h1:=hd.used;have h2:=hd.rm;have h3:u.2.2.bs.length≤qP d.fs:=by
  rw[←JY hd];exact Qf (jA (f:=λu:DE=>u.2.2.bs.length) (jn h))
 omega
theorem dU {l:List (List UInt8×List UInt8×Nat)}{i:Nat}{u v:List UInt8×List UInt8×Nat}(h:l[i]? =some u)(hl:v.2.1.length≤u.2.1.length):qP (l.set i v)≤qP l:=by
 induction l generalizing i with
 |nil=>simp at h
 |cons x l ih=>
  cases i with
  |zero=>
   simp at h;subst h
   show v.2.1.length+qP l≤x.2.1.length+qP l
   omega
  |succ i=>
   have:=ih (i:=i) (by simpa using h)
   show x.2.1.length+qP (l.set i v)≤x.2.1.length+qP l
   omega
def yX (d:DK)(n:List UInt8):Nat:=(vM d n).1.length - (vM d n).2
theorem YG (p:Nat)(d:DK)(n:List UInt8)(L:HL):
  qh kY 143 [qK p,str n] (qr p d::L) (λr L'=>r=.int .i64 (yX d n)∧L'=qr p d::L):=by
 refine v8 λmp ts hd=> ?_
 refine qg Tryz.func143 rfl rfl rfl ?_;refine Q.r ?_;refine S.y (Y.lk false rfl rfl (λw=>Tryz.zeroValue124 w)) ?_
 cases hz:qJ (α:=Nat×FV) ts n with
 |none=>
  dsimp only;refine Q.r ?_;refine N.t rfl (vz hd) ⟨?_,rfl⟩;unfold yX vM;rw[WE hd.fs,hz];rfl
 |some u=>
  dsimp only;obtain ⟨k,hkk⟩:=X9 hz;obtain ⟨ub,ua,uc,ubs,ufirm⟩:=u;have hfi:=hd.firm _ (jn hkk);dsimp only at hfi;have hul:=hd.len hkk;dsimp only at hul;refine ce hkk ?_;refine Q.r ?_;refine Q.dgo [true,false,false,true,true] [] [] [0,1,2,3,4,5,6,7,8,9,10,11,12,13,14,15,16,17,18,19,20] ?_;refine Q.rd ?_;refine D.y rfl rfl rfl zk (Y.lk false rfl rfl (λw=>Tryz.zeroValue124 w)) ?_;rw[hz];dsimp only;refine Q.rd ?_;refine D.y rfl rfl rfl zk (Y.lk false rfl rfl (λw=>Tryz.zeroValue124 w)) ?_;rw[hz];dsimp only;refine Q.rd ?_;refine D.yp rfl rfl rfl (Y.subN (a:=ubs.length) (b:=ufirm) rfl rfl ⟨hfi,by omega⟩) ?_;refine Q.rd ?_;refine Q.r ?_;refine N.t rfl (qi.trans (M:=xY (ub,(⟨ua,uc,ubs,ufirm⟩:FV))::wT (ub,(⟨ua,uc,ubs,ufirm⟩:FV))::wX (ts.eraseIdx k)::dP p mp d::dM mp ts::L) eG (qi.trans (Xs hkk) (qi.trans (M:=dP p mp d::dM mp ts::wX ts::L) eG (vz hd)))) ⟨?_,rfl⟩;unfold yX vM;rw[WE hd.fs,hz];rfl
def tmD (d:DK)(n:List UInt8)(k:Nat):DK:={d with fs:=qZ d.fs n ((vM d n).1.take k,min (vM d n).2 k)}
theorem mQ (p bd bn bk:Nat)(d:DK)(n:List UInt8)(k:Nat)(L:HL)(hh:vV d n)(hk:k≤(vM d n).1.length):
  qh kY 192 [qK bd,qK bn,qK bk] (qr p d::pt bd (cl [qK p] 24)::pt bn (cl [str n] 9)::pt bk (cl [.int .i64 k] 3)::L) (λr L'=>r=.int .i64 0∧L'=qr p (tmD d n k)::L):=by
 refine v8 λmp ts hd=> ?_
 refine qg Tryz.func192 rfl rfl rfl ?_;obtain ⟨u,hz⟩:∃u,qJ (α:=Nat×FV) ts n=some u:=by
  cases hz:qJ (α:=Nat×FV) ts n with
  |some u=>exact ⟨u,rfl⟩
  |none=>exact absurd ((zA hd.fs).2 hz) hh
 obtain ⟨i,hkk⟩:=X9 hz;obtain ⟨ub,ua,uc,ubs,ufirm⟩:=u;have hlk:qJ d.fs n=some (ubs,ufirm):=by rw[WE hd.fs,hz];rfl
 have hfd:vM d n=(ubs,ufirm):=by unfold vM;rw[hlk];rfl
 rw[hfd] at hk;dsimp only at hk;have hfi:=hd.firm _ (jn hkk);dsimp only at hfi;have hul:=hd.len hkk;dsimp only at hul;refine QZ hkk ?_;refine Q.r ?_;refine Q.dgo [false,false,false,true,true,true,true,true] [] [] [0,1,2,3,4,5,6] ?_;refine Q.rd ?_;refine D.y rfl rfl rfl zk (Y.lk false rfl rfl (λw=>Tryz.zeroValue124 w)) ?_;rw[hz];dsimp only[cond_false];refine Q.rd ?_;refine Q.r ?_;refine Q.dgo [true,false,false,true,true,true,true,true] [] [] [0,1,2,3,4,5,6,7,8,9,10] ?_;refine Q.rd ?_;refine Q.r ?_;have hfin:qi (slO 5 1 ua ubs.length uc (ubs.map B)::pt ub (cl [.slice ua k uc,.int .i64 (min (ufirm:Int) (k:Int))] 126)::wX (ts.eraseIdx i)::dP p mp d::dM mp ts::L) (qr p (tmD d n k)::L):=by
  have hkf:=KQ hd.fs hd.key;have hfk:d.fs[i]? =some (n,ubs,ufirm):=by rw[←hd.fs,jZ,hkk];rfl
  have hwf:(tmD d n k).fs=d.fs.set i (n,ubs.take k,min ufirm k):=by
   show qZ d.fs n _=_
   rw[hfd];exact bV hkf hfk
  have hd2 : Wq (tmD d n k) (ts.set i (n,ub,⟨ua,uc,ubs.take k,min ufirm k⟩)) := hd.set hkk _ rfl rfl hwf (by
   have h1:=hd.used;have h2:qP (tmD d n k).fs≤qP d.fs:=by
    rw[hwf];exact dU hfk (by simp;omega)
   show (qP (tmD d n k).fs:Int)≤d.room
   omega) (by
   show min ufirm k≤(ubs.take k).length
   rw[jP];omega)
  refine qi.trans (XN rfl hk) ?_;have e1:(ubs.take k).length=k:=by rw[jP];omega
  have e2:(min (ufirm:Int) (k:Int))=((min ufirm k:Nat):Int):=by omega
  refine qi.trans (M:=xY (ub,(⟨ua,uc,ubs.take k,min ufirm k⟩:FV))::wT (ub,(⟨ua,uc,ubs.take k,min ufirm k⟩:FV))::wX (ts.eraseIdx i)::dP p mp d::dM mp ts::L) ?_ (KW hkk hd2)
  show qi _ (pt ub (cl [.slice ua (ubs.take k).length uc,.int .i64 ((min ufirm k:Nat):Int)] 126)::slO 5 1 ua (ubs.take k).length uc ((ubs.take k).map B)::wX (ts.eraseIdx i)::dP p mp d::dM mp ts::L)
  rw[e1,e2];exact eG

 refine bM ua (λ_ _ hcap=> ?_);dsimp only at hcap;refine vf (L':=xY (ub,(⟨ua,uc,ubs,ufirm⟩:FV))::wT (ub,(⟨ua,uc,ubs,ufirm⟩:FV))::wX (ts.eraseIdx i)::dP p mp d::dM mp ts::pt bd (cl [qK p] 24)::pt bn (cl [str n] 9)::pt bk (cl [.int .i64 k] 3)::L) eG ?_;refine Q.dgo [false,true,true,true,true,true,true,true] [5,11,16,19] [] [0,1,2,3,4,6,8,9,10,12,99999,0,0,0,0,0,0,0,0,0] ?_;refine Q.rd2 ?_;refine D.two 5 11 [7,11,13,14,15,16,17,18,19] [13,5,7,14,15,16,17,18,19] zk rfl rfl rfl rfl zk zk ?_ ?_
 ·refine Q.r ?_
  refine Q.rd2 ?_;refine D.yp rfl rfl rfl (Y.slT (h:=k) rfl rfl rfl (by dsimp only;omega)) ?_;refine Q.rd2 ?_;refine D.e rfl rfl rfl ?_;refine Q.r ?_;refine Q.rd2 ?_;refine D.e rfl rfl rfl ?_;refine Q.r ?_;refine Q.rd2 ?_;refine D.e rfl rfl rfl ?_;refine Q.r ?_;refine Q.rd2 ?_;refine Q.r ?_;refine N.t rfl (qi.trans (M:=slO 5 1 ua ubs.length uc (ubs.map B)::pt ub (cl [.slice ua k uc,.int .i64 (min (ufirm:Int) (k:Int))] 126)::wX (ts.eraseIdx i)::dP p mp d::dM mp ts::L) eG hfin) ⟨rfl,rfl⟩
 ·refine Q.r ?_
  refine Q.rd2 ?_;refine D.e rfl rfl rfl ?_;refine Q.r ?_;refine Q.rd2 ?_;refine D.yp rfl rfl rfl (Y.slT (h:=k) rfl rfl rfl (by dsimp only;omega)) ?_;refine Q.rd2 ?_;refine D.e rfl rfl rfl ?_;refine Q.r ?_;refine Q.rd2 ?_;refine D.e rfl rfl rfl ?_;refine Q.r ?_;refine Q.rd2 ?_;refine Q.r ?_;refine N.t rfl (qi.trans (M:=slO 5 1 ua ubs.length uc (ubs.map B)::pt ub (cl [.slice ua k uc,.int .i64 (min (ufirm:Int) (k:Int))] 126)::wX (ts.eraseIdx i)::dP p mp d::dM mp ts::L) eG hfin) ⟨rfl,rfl⟩
def tmE (d:DK)(n:List UInt8):Int:=if wk d=false then 9 else if vV d n then 0 else 6
def Wv (d:DK)(n:List UInt8)(k:Nat):DK:=if tmE d n=0 then tmD (qY d) n k else qY d
theorem fZ (d:DK)(n:List UInt8):vM (qY d) n=vM d n:=by unfold vM;rw[qS]
theorem qW.rowk {L:HL}{b n:Nat}{l:List Value}{t:TypeId}[h:y9 b L (cl l t)](hl:l.length=n):qW L (some ⟨b,0,none⟩) n 1 l:=⟨by rw[hl,jX],.inr ⟨b,0,rfl,vg.row⟩⟩
theorem qW.app {L:HL}{a:OA}{m sz:Nat}{cs:List Value}(h:qW L a m sz cs):∀X:HL,qW (X++L) a m sz cs
 | []=>h
 |A::X=>qW.ent (qW.app h X) (tg.there (A:=A) (h:=tg.refl)).ent
theorem td (p:Nat)(d:DK)(n:List UInt8)(k:Nat)(L:HL)(hk:k≤(vM d n).1.length):
  qh kY 142 [qK p,str n,.int .i64 k] (qr p d::L) (λr L'=>r=.int .i64 (tmE d n)∧L'=qr p (Wv d n k)::L):=by
 refine qg Tryz.func142 rfl rfl rfl ?_;refine Q.r ?_;(repeat (intro b1;refine Q.r ?_));refine S.y (Y.mf rfl rfl) ?_;refine Q.r ?_;(repeat (intro b1;refine Q.r ?_));rename_i bd bn bk;refine S.ck p rfl (yR p d 192 [qK bd,qK bn,qK bk] (some ⟨b1,0,none⟩) 1 [n] _ (λr L'=>r=.int .i64 0∧L'=qr p (tmD (qY d) n k)::L) (λX=>qW.app (qW.rowk rfl) X) (by simp) (λh1 h2=> ?_)) ?_
 ·refine qh.ent (L':=qr p (qY d)::pt bd (cl [qK p] 24)::pt bn (cl [str n] 9)::pt bk (cl [.int .i64 k] 3)::L) eG ?_
  exact mQ p bd bn bk (qY d) n k L ((v6 d n).2 (h2 n (by simp))) (by rw[fZ];exact hk)
 intro v L' hR;refine Q.r ?_
 rcases hR with ⟨h1,rfl,rfl⟩|⟨h1,⟨x,hx,hx2⟩,rfl,rfl⟩|⟨h1,h2,rfl,rfl⟩
 ·have e:tmE d n=9:=by unfold tmE;rw[jb h1]
  refine N.t rfl ?_ ⟨by rw[e],by unfold Wv;rw[e,ja zd]⟩;exact eG
 ·rw[ji.1 hx] at hx2
  have e:tmE d n=6:=by unfold tmE;rw[ja (by rw[h1];decide),ja hx2]
  refine N.t rfl ?_ ⟨by rw[e],by unfold Wv;rw[e,ja zd]⟩;exact eG
 ·have e:tmE d n=0:=by unfold tmE;rw[ja (by rw[h1];decide),jb (h2 n (by simp))]
  exact N.t rfl (kZ _) ⟨by rw[e],by unfold Wv;rw[e,jb rfl]⟩
theorem Vb {α:Type}{ts:List (List UInt8×α)}(hk:qn ts){k:Nat}{n:List UInt8}{u:α}(h:ts[k]? =some (n,u)):qT ts n=ts.eraseIdx k:=by
 have hkl:k<ts.length:=(jm.1 h).1;have he:=(jm.1 h).2
 rcases w9 ts hk n with ⟨p,a,q,hpq,hp,hqn⟩|hn
 ·have hkp:k=p.length:=by
   rw[hpq] at h
   rcases Nat.lt_trichotomy k p.length with h1|h1|h1
   ·rw[ko h1] at h
    exact absurd rfl (hp _ (jn h))
   ·exact h1
   ·rw[kG zo] at h
    obtain ⟨d,hd⟩:∃d,k - p.length=d+1:=⟨k - p.length - 1,by omega⟩;rw[hd,jg] at h;exact absurd rfl (hqn _ (jn h))
  rw[hpq,KX hp hqn,hkp,List.eraseIdx_append_of_length_le (jz _),Nat.sub_self,List.eraseIdx_cons_zero]
 ·exact absurd rfl (hn (n,u) (jn h))
theorem jAv (l:List (List UInt8×List UInt8×Nat))(n:List UInt8):qP (qT l n)≤qP l:=by
 induction l with
 |nil=>exact jz _
 |cons x l ih=>
  have e:qP (x::l)=x.2.1.length+qP l:=by simp[qP]
  by_cases h:x.1=n
  ·have:qT (x::l) n=qT l n:=by simp[qT,h]
   rw[this];omega
  ·have:qT (x::l) n=x::qT l n:=by simp[qT,h]
   rw[this];have:qP (x::qT l n)=x.2.1.length+qP (qT l n):=by simp[qP]
   omega
theorem p0 (ts:List DE)(n:List UInt8):(qT (α:=Nat×FV) ts n).map DE.abs=qT (ts.map DE.abs) n:=by
 induction ts with
 |nil=>rfl
 |cons x ts ih=>
  by_cases h:x.1=n
  ·have e1:qT (α:=Nat×FV) (x::ts) n=qT (α:=Nat×FV) ts n:=by simp[qT,h]
   have e2:qT ((x::ts).map DE.abs) n=qT (ts.map DE.abs) n:=by simp[qT,h]
   rw[e1,e2,ih]
  ·have e1:qT (α:=Nat×FV) (x::ts) n=x::qT (α:=Nat×FV) ts n:=by simp[qT,h]
   have e2:qT ((x::ts).map DE.abs) n=x.abs::qT (ts.map DE.abs) n:=by simp[qT,h]
   rw[e1,e2,←ih];rfl
def sH (d:DK)(n:List UInt8):DK:={d with fs:=qT d.fs n}
theorem Wq.del {d:DK}{ts:List DE}(h:Wq d ts)(n:List UInt8):Wq (sH d n) (qT (α:=Nat×FV) ts n):=
 ⟨by rw[p0,h.fs];rfl,ze h.key n,h.lm,h.rm,by
  have h1:=jAv d.fs n;have h2:=h.used
  show (qP (qT d.fs n):Int)≤d.room
  omega,ke (kw _ _) h.few,λu hu=>h.firm u (jB.1 hu).1⟩
theorem jFb {ts:List DE}(hk:qn ts)(n:List UInt8){L:HL}:qi (wX ts::L) (wX (qT (α:=Nat×FV) ts n)::L):=by
 cases hz:qJ (α:=Nat×FV) ts n with
 |none=>
  have e:qT (α:=Nat×FV) ts n=ts:=Wg λu hu h=>by
   have:=(vQ hk (x:=n) (a:=u.2)).2 (by rw[←h];exact hu);rw[this] at hz;cases hz
  rw[e];exact kZ _
 |some u=>
  obtain ⟨k,hkk⟩:=X9 hz;rw[Vb hk hkk];exact qi.trans (mw hkk) (qi.drop (qi.drop (kZ _)))
def swD (d:DK)(n m:List UInt8):DK:={d with fs:=qT d.fs n++[(m,(vM d n).1.take (vM d n).2,(vM d n).2)]}
theorem mR (p bd bn bm:Nat)(d:DK)(n m:List UInt8)(L:HL)(hh:vV d n)(hm:¬vV d m)(hr:V4 m):
  qh kY 184 [qK bd,qK bn,qK bm] (qr p d::pt bd (cl [qK p] 24)::pt bn (cl [str n] 9)::pt bm (cl [str m] 9)::L) (λr L'=>r=.int .i64 0∧L'=qr p (swD d n m)::L):=by
 refine v8 λmp ts hd=> ?_
 refine qg Tryz.func184 rfl rfl rfl ?_;obtain ⟨u,hz⟩:∃u,qJ (α:=Nat×FV) ts n=some u:=by
  cases hz:qJ (α:=Nat×FV) ts n with
  |some u=>exact ⟨u,rfl⟩
  |none=>exact absurd ((zA hd.fs).2 hz) hh
 obtain ⟨i,hkk⟩:=X9 hz;obtain ⟨ub,ua,uc,ubs,ufirm⟩:=u;have hlk:qJ d.fs n=some (ubs,ufirm):=by rw[WE hd.fs,hz];rfl
 have hfd:vM d n=(ubs,ufirm):=by unfold vM;rw[hlk];rfl
 have hfi:=hd.firm _ (jn hkk);dsimp only at hfi;have hul:=hd.len hkk;dsimp only at hul;refine QZ hkk ?_;refine Q.r ?_;refine Q.dgo [false,false,false,true,true,true,true,true] [] [] [0,1,2,3,4,5,6] ?_;refine Q.rd ?_;refine D.y rfl rfl rfl zk (Y.lk false rfl rfl (λw=>Tryz.zeroValue124 w)) ?_;rw[hz];dsimp only[cond_false];refine Q.rd ?_;refine Q.r ?_;refine S.cr rfl (XS m _ hr) ?_;rintro _ _ ⟨rfl,rfl⟩;refine Q.r ?_;refine bM ua (λ_ _ hcap=> ?_);dsimp only at hcap;refine vf (L':=xY (ub,(⟨ua,uc,ubs,ufirm⟩:FV))::wT (ub,(⟨ua,uc,ubs,ufirm⟩:FV))::wX (ts.eraseIdx i)::dP p mp d::dM mp ts::pt bd (cl [qK p] 24)::pt bn (cl [str n] 9)::pt bm (cl [str m] 9)::L) eG ?_;refine Q.dgo [true,false,false,false,false,false,false,false] [12] [12] [0,1,2,3,4,5,6,7,8,9,10,11,12] ?_;refine Q.rd2 ?_;refine D.yp rfl rfl rfl (Y.slT (h:=ufirm) rfl rfl rfl (by dsimp only;omega)) ?_;refine Q.rd2 ?_;refine Q.dc rfl rfl rfl rfl ?_;refine Q.r ?_;refine Q.rd2 ?_;refine Q.r ?_;refine vf (L':=pt ub (cl [.slice ua ufirm uc,.int .i64 ufirm] 126)::slO 5 1 ua ubs.length uc (ubs.map B)::wX (ts.eraseIdx i)::dP p mp d::pt bd (cl [qK p] 24)::pt bn (cl [str n] 9)::pt bm (cl [str m] 9)::dM mp ts::L) eG ?_;refine Q.dgo [false,false,false,true,true,true,true,false] [5] [] [0,1,2,3,4,5] ?_;refine Q.rd ?_;refine D.e rfl rfl rfl ?_;refine S.dl rfl rfl ?_;refine Q.r ?_;refine Q.rd2 ?_;refine Q.r ?_;rw[Vb hd.key hkk];refine vf (L':=dP p mp d::pt bd (cl [qK p] 24)::pt bn (cl [str n] 9)::pt bm (cl [str m] 9)::dM mp (ts.eraseIdx i)::pt ub (cl [.slice ua ufirm uc,.int .i64 ufirm] 126)::slO 5 1 ua ubs.length uc (ubs.map B)::wX (ts.eraseIdx i)::L) eG ?_;refine Q.dgo [true,true,true,true,false,false,false,false] [6] [] [0,1,2,3,4,5,6] ?_;refine Q.rd ?_;refine D.e rfl rfl rfl ?_;refine S.mu (u:=((ub,⟨ua,uc,ubs.take ufirm,ufirm⟩):Nat×FV)) rfl rfl rfl ?_;refine Q.r ?_;refine Q.rd2 ?_
 refine Q.r ?_;have hdel:qT (α:=Nat×FV) ts n=ts.eraseIdx i:=Vb hd.key hkk;have hmn:∀u∈ts.eraseIdx i,u.1≠m:=by
  intro u hu h;rw[←hdel] at hu;have h1:=(jB.1 hu).1;exact hm λh2=>by
   have:=(vQ hd.key (x:=m) (a:=u.2)).2 (by rw[←h];exact h1);rw[(zA hd.fs).1 h2] at this;cases this
 have hk1:(ubs.take ufirm).length=ufirm:=by rw[jP];omega
 have hput:qZ (α:=Nat×FV) (ts.eraseIdx i) m ((ub,⟨ua,uc,ubs.take ufirm,ufirm⟩):Nat×FV)=ts.eraseIdx i++[(m,ub,⟨ua,uc,ubs.take ufirm,ufirm⟩)]:=vH hmn;rw[hput];have hus:qP (qT d.fs n)+ubs.length=qP d.fs:=by
  have h1:=yB ts i _ hkk;have h2:=(h1.map λu:DE=>u.2.2.bs.length).sum_nat;rw[jL,List.sum_cons] at h2;rw[JY hd] at h2;have h3:=JY (hd.del n);rw[hdel] at h3;have h4:qP (sH d n).fs=qP (qT d.fs n):=rfl;rw[h4] at h3;dsimp only at h2;omega
 have hd2:Wq (swD d n m) (ts.eraseIdx i++[(m,ub,⟨ua,uc,ubs.take ufirm,ufirm⟩)]):=by
  refine ⟨?_,?_,hd.lm,hd.rm,?_,?_,?_⟩
  ·rw[jq,←hdel,p0,hd.fs]
   show _=qT d.fs n++[(m,(vM d n).1.take (vM d n).2,(vM d n).2)]
   rw[hfd];rfl
  ·rw[←hput,←hdel];exact vL (ze hd.key n) m _
  ·show (qP (qT d.fs n++[(m,(vM d n).1.take (vM d n).2,(vM d n).2)]):Int)≤d.room
   rw[KA,hfd];have h1:=hd.used;have h2:qP [(m,ubs.take ufirm,ufirm)]=ufirm:=by simp[qP];omega
   rw[h2];omega
  ·have h1:=hd.few
   have h2:=(jm.1 hkk).1;rw[jc,List.length_eraseIdx_of_lt h2]
   show _+1≤16
   omega
  ·intro u hu
   rcases jy.1 hu with hu|hu
   ·rw[←hdel] at hu;exact hd.firm u (jB.1 hu).1
   ·rw[ji.1 hu]
    show ufirm≤(ubs.take ufirm).length
    omega
 refine N.t rfl ?_ ⟨rfl,rfl⟩;refine qi.trans (M:=slO 5 1 ua ubs.length uc (ubs.map B)::pt ub (cl [.slice ua ufirm uc,.int .i64 ufirm] 126)::wX (ts.eraseIdx i)::dP p mp d::dM mp (ts.eraseIdx i++[(m,ub,⟨ua,uc,ubs.take ufirm,ufirm⟩)])::L) eG ?_;refine qi.trans (XN rfl hfi) ?_;refine qi.trans (M:=xY (ub,(⟨ua,uc,ubs.take ufirm,ufirm⟩:FV))::wT (ub,(⟨ua,uc,ubs.take ufirm,ufirm⟩:FV))::wX (ts.eraseIdx i)::dP p mp (swD d n m)::dM mp (ts.eraseIdx i++[(m,ub,⟨ua,uc,ubs.take ufirm,ufirm⟩)])::L) ?_ (qi.trans (jBK (ts.eraseIdx i) (m,ub,⟨ua,uc,ubs.take ufirm,ufirm⟩)) (qi.trans (M:=dP p mp (swD d n m)::dM mp (ts.eraseIdx i++[(m,ub,⟨ua,uc,ubs.take ufirm,ufirm⟩)])::wX (ts.eraseIdx i++[(m,ub,⟨ua,uc,ubs.take ufirm,ufirm⟩)])::L) eG (vz hd2)))
 show qi _ (pt ub (cl [.slice ua (ubs.take ufirm).length uc,.int .i64 ufirm] 126)::slO 5 1 ua (ubs.take ufirm).length uc ((ubs.take ufirm).map B)::wX (ts.eraseIdx i)::dP p mp d::dM mp (ts.eraseIdx i++[(m,ub,⟨ua,uc,ubs.take ufirm,ufirm⟩)])::L)
 rw[hk1];exact eG
def swE (d:DK):Int:=if wk d=false then 9 else 0
def swS (d:DK)(n m:List UInt8):DK:=if wk d=false then qY d else swD (qY d) n m
theorem tf (p:Nat)(d:DK)(n m:List UInt8)(L:HL)(hh:vV d n)(hm:¬vV d m)(hr:V4 m):
  qh kY 129 [qK p,str n,str m] (qr p d::L) (λr L'=>r=.int .i64 (swE d)∧L'=qr p (swS d n m)::L):=by
 refine qg Tryz.func129 rfl rfl rfl ?_;refine Q.r ?_;(repeat (intro b1;refine Q.r ?_));refine S.y (Y.mf rfl rfl) ?_;refine Q.r ?_;rename_i bd bn;refine S.ck p rfl (yR p d 184 [qK bd,qK bn,qK b1] none 0 [] _ (λr L'=>r=.int .i64 0∧L'=qr p (swD (qY d) n m)::L) (λX=>⟨rfl,.inl rfl⟩) (by simp) (λh1 h2=> ?_)) ?_
 ·refine qh.ent (L':=qr p (qY d)::pt bd (cl [qK p] 24)::pt bn (cl [str n] 9)::pt b1 (cl [str m] 9)::L) eG ?_
  exact mR p bd bn b1 (qY d) n m L ((v6 d n).2 hh) (λh=>hm ((v6 d m).1 h)) hr
 intro v L' hR;refine Q.r ?_
 rcases hR with ⟨h1,rfl,rfl⟩|⟨h1,⟨x,hx,hx2⟩,rfl,rfl⟩|⟨h1,h2,rfl,rfl⟩
 ·refine N.t rfl ?_ ⟨by unfold swE;rw[jb h1],by unfold swS;rw[jb h1]⟩
  exact eG
 ·cases hx
 ·have h3:¬wk d=false:=by rw[h1];decide
  exact N.t rfl (kZ _) ⟨by unfold swE;rw[ja h3],by unfold swS;rw[ja h3]⟩
def KV (d:DK)(ns:List (List UInt8)):DK:={d with fs:=ns.foldl qT d.fs}
theorem mz (d:DK)(ns:List (List UInt8))(n:List UInt8):KV d (ns++[n])=sH (KV d ns) n:=by
 unfold KV sH;rw[List.foldl_append];rfl
theorem nA (p bn bd:Nat)(d:DK)(a:OA)(c:Nat)(ns:List (List UInt8))(L:HL)(hns:∀X:HL,qW (X++L) a ns.length 1 (ns.map str))(hn:ns.length≤1000000):
  qh kY 144 [qK bn,qK bd] (qr p d::pt bn (cl [.slice a ns.length c] 68)::pt bd (cl [qK p] 24)::L) (λr L'=>r=.int .i64 0∧L'=qr p (KV d ns)::L):=by
 refine qg Tryz.func144 rfl rfl rfl ?_;refine Q.r ?_;have hns0:∀X:HL,qW (X++L) a ns.length 1 (ns.flatMap sC):=λX=>by rw[VM];exact hns X
 refine qx (σ:=Unit) (λ_=> []) (λ_=>qr p (KV d ns)::L) (λ_=>True) ?_ ?_
 ·refine ql (σ:=Nat) (λk=> [(0,qK bn),(1,qK bd),(5,.slice a ns.length c),(6,.int .i64 ns.length),(7,.int .i64 k)]) (λk=>qr p (KV d (ns.take k))::pt bn (cl [.slice a ns.length c] 68)::pt bd (cl [qK p] 24)::L)
   (λk=>k≤ns.length) (λk=>ns.length - k) 0 zt (kZ _) zo ?_
  intro k hk
  by_cases hlt:k<ns.length
  ·obtain ⟨n,hnk⟩:=qw hlt
   obtain ⟨b,o,rfl,hr⟩:=qW.elem (g:=sC) (λ_=>rfl) (show qW L a ns.length 1 (ns.flatMap sC) from hns0 []) hnk rfl;refine XK p λmp ts hd=> ?_
   have hr2:=hr.sub (L:=dP p mp (KV d (ns.take k))::dM mp ts::wX ts::pt bn (cl [.slice (some ⟨b,o,none⟩) ns.length c] 68)::pt bd (cl [qK p] 24)::L);refine Q.r ?_;refine S.dl rfl rfl ?_;refine Q.r ?_;refine ⟨k+1,zt,?_,by omega,by omega⟩;rw[qz hnk,mz];refine qi.trans (M:=wX ts::dP p mp (sH (KV d (ns.take k)) n)::dM mp (qT (α:=Nat×FV) ts n)::pt bn (cl [.slice (some ⟨b,o,none⟩) ns.length c] 68)::pt bd (cl [qK p] 24)::L) eG (qi.trans (jFb hd.key n) ?_);exact qi.trans (M:=dP p mp (sH (KV d (ns.take k)) n)::dM mp (qT (α:=Nat×FV) ts n)::wX (qT (α:=Nat×FV) ts n)::pt bn (cl [.slice (some ⟨b,o,none⟩) ns.length c] 68)::pt bd (cl [qK p] 24)::L) eG (vz (hd.del n))
  ·have hke:k=ns.length:=by omega
   subst hke;rw[jI];refine Q.r ?_;exact ⟨(),trivial,by exact eG,trivial⟩
 ·intro _ _
  refine Q.r ?_;exact N.t rfl (kZ _) ⟨rfl,rfl⟩
def drE (d:DK)(ns:List (List UInt8)):Int:=if wk d=false then 9 else 0
def sB (d:DK)(ns:List (List UInt8)):DK:=if wk d=false then qY d else KV (qY d) ns
theorem Wp (p:Nat)(d:DK)(a:OA)(c:Nat)(ns:List (List UInt8))(L:HL)(hns:∀X:HL,qW (X++L) a ns.length 1 (ns.map str))(hn:ns.length≤1000000)(hh:∀n∈ns,vV d n):
  qh kY 76 [qK p,.slice a ns.length c] (qr p d::L) (λr L'=>r=.int .i64 (drE d ns)∧L'=qr p (sB d ns)::L):=by
 refine qg Tryz.func76 rfl rfl rfl ?_;refine Q.r ?_;(repeat (intro b1;refine Q.r ?_));refine S.y (Y.mf rfl rfl) ?_;refine Q.r ?_;rename_i bd;refine S.ck p rfl (yR p d 144 [qK b1,qK bd] a c ns _ (λr L'=>r=.int .i64 0∧L'=qr p (KV (qY d) ns)::L) (λX=>by have:=hns (X++[pt b1 (cl [.slice a ns.length c] 68),pt bd (cl [qK p] 24)]);rw[ju] at this;exact this) hn (λh1 h2=> ?_)) ?_
 ·refine qh.ent (L':=qr p (qY d)::pt b1 (cl [.slice a ns.length c] 68)::pt bd (cl [qK p] 24)::L) eG ?_
  exact nA p b1 bd (qY d) a c ns L hns hn
 intro v L' hR;refine Q.r ?_
 rcases hR with ⟨h1,rfl,rfl⟩|⟨h1,⟨x,hx,hx2⟩,rfl,rfl⟩|⟨h1,h2,rfl,rfl⟩
 ·refine N.t rfl ?_ ⟨by unfold drE;rw[jb h1],by unfold sB;rw[jb h1]⟩
  exact eG
 ·exact absurd (hh x hx) hx2
 ·have h3:¬wk d=false:=by rw[h1];decide
  exact N.t rfl (kZ _) ⟨by unfold drE;rw[ja h3],by unfold sB;rw[ja h3]⟩
end Go.Proofs.YtlnfjhiphlfkjaaGreatDoor
