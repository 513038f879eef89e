/- Walks of functions, and plain laws, that the last text rests on. No condition. -/
import Derived.Test.YtlnfjhiphlfkjaaGreatDoorPk07
set_option linter.unusedVariables false
set_option linter.unusedSimpArgs false
set_option linter.unusedSectionVars false
set_option maxHeartbeats 4000000
namespace Go.Proofs.YtlnfjhiphlfkjaaGreatDoor
open Go Go.SX
theorem JD {α:Type}(x y:List UInt8)(a:α)(m:List (List UInt8×α)):qJ ((x,a)::m) y=if x=y then some a else qJ m y:=by
 unfold qJ;rw[List.find?_cons]
 by_cases h:x=y
 ·simp[h]
 ·simp[h]
theorem Qp {α:Type}(x y:List UInt8)(a:α)(m:List (List UInt8×α)):qT ((x,a)::m) y=if x=y then qT m y else (x,a)::qT m y:=by
 unfold qT;rw[kI]
 by_cases h:x=y
 ·simp[h]
 ·simp[h]
theorem Ym {α:Type}(y:List UInt8):qT ([]:List (List UInt8×α)) y=[]:=rfl
theorem bW {α:Type}(x y:List UInt8)(a b:α)(m:List (List UInt8×α))(h:x≠y):qZ ((x,a)::m) y b=(x,a)::qZ m y b:=by
 unfold qZ;rw[kX,jv h,jR,jL,ja h]
 split<;>rfl
theorem Vz {α:Type}(x:List UInt8)(a b:α)(m:List (List UInt8×α))(h:∀u∈m,u.1≠x):qZ ((x,a)::m) x b=(x,b)::m:=wS (p:=[]) (by simp) h
theorem n9 (a b:Nat):nm 99 a≠nm 108 b:=λh=>absurd (List.cons.inj h).1 zd
theorem jBh (a b:Nat):nm 108 a≠nm 99 b:=λh=>absurd (List.cons.inj h).1 zd
theorem jGk (a:Nat):nm 99 a≠tN:=λh=>absurd (List.cons.inj h).1 zd
theorem jEi (a:Nat):nm 108 a≠tN:=λh=>absurd (List.cons.inj h).1 zd
structure VF (d:DK):Prop where
 l:d.left= -1
 d:d.down=false
theorem VF.sp {d:DK}(h:VF d):wk d=true:=by unfold wk;rw[h.d,h.l];rfl
theorem VF.sd {d:DK}(h:VF d):qY d=d:=by
 unfold qY;rw[jb h.sp,h.l];obtain ⟨l,dn,r,fs⟩:=d;have:=h.l;dsimp only at this;subst this;rfl
def dJ (room:Int)(n:Nat)(s:List UInt8)(lg:Option (List UInt8×Nat)):DK:=
 ⟨-1,false,room,(nm 99 n,wE s,(wE s).length)::(match lg with|none=> []|some v=> [(nm 108 n,v)])⟩
theorem Kc (room:Int)(n:Nat)(s:List UInt8)(lg:Option (List UInt8×Nat)):VF (dJ room n s lg):=⟨rfl,rfl⟩
theorem dD (room:Int):VF (D0 room):=⟨rfl,rfl⟩
theorem bB {d:DK}(h:VF d)(b:List UInt8):Ws d b=if d.room<qP d.fs+b.length then 8 else 0:=by
 unfold Ws;rw[h.sp,h.sd,ja zd];rfl
theorem XD {d:DK}(h:VF d){n b:List UInt8}(he:Ws d b=0):zQ d n b=wrD d n b:=by unfold zQ;rw[jb he,h.sd]
theorem KT {d:DK}(h:VF d){n:List UInt8}(hh:vV d n):Xu d n=0:=by unfold Xu;rw[h.sp,ja zd,jb hh]
theorem Yg {d:DK}(h:VF d){n:List UInt8}(hh:vV d n):Va d n=fmD d n:=by unfold Va;rw[KT h hh,jb rfl,h.sd]
theorem jAI {d:DK}(h:VF d):swE d=0:=by unfold swE;rw[h.sp,ja zd]
theorem jAH {d:DK}(h:VF d)(n m:List UInt8):swS d n m=swD d n m:=by unfold swS;rw[h.sp,ja zd,h.sd]
def sc (lg:Option (List UInt8×Nat)):List UInt8:=(lg.getD ([],0)).1
def lgF (lg:Option (List UInt8×Nat)):Nat:=(lg.getD ([],0)).2
theorem pE (room:Int)(n:Nat)(s:List UInt8)(lg:Option (List UInt8×Nat)):qP (dJ room n s lg).fs=(wE s).length+(sc lg).length:=by
 cases lg<;>simp[dJ,qP,sc]
theorem jFl (room:Int)(n:Nat)(s:List UInt8)(lg:Option (List UInt8×Nat)):qn (dJ room n s lg).fs:=by
 cases lg<;>simp[dJ,qn,n9]
theorem jB0 (room:Int)(n:Nat)(s:List UInt8)(lg:Option (List UInt8×Nat)):(dJ room n s lg).fs.length≤2:=by
 cases lg<;>simp[dJ]
theorem jGr (room:Int)(s:List UInt8):KO (D0 room) s=(if room<(wE s).length then 8 else 0)∧(¬room<(wE s).length→zC (D0 room) s 0=dJ room 0 s none):=by
 have h0:=dD room;have hw:Ws (D0 room) (wE s)=if room<(wE s).length then 8 else 0:=by
  rw[bB h0];have:qP (D0 room).fs=0:=rfl;rw[this];simp[D0]
 by_cases hf:room<(wE s).length
 ·refine ⟨?_,λh=>absurd hf h⟩
  unfold KO;rw[hw,jb hf,jb zd]
 ·rw[ja hf] at hw
  have e1:zQ (D0 room) tN (wE s)=⟨-1,false,room,[(tN,wE s,0)]⟩:=by rw[XD h0 hw];rfl
  have hl:VF (⟨-1,false,room,[(tN,wE s,0)]⟩:DK):=⟨rfl,rfl⟩;have hh:vV (⟨-1,false,room,[(tN,wE s,0)]⟩:DK) tN:=by unfold vV;rw[JD,jb rfl];simp
  have e2:Va (⟨-1,false,room,[(tN,wE s,0)]⟩:DK) tN=⟨-1,false,room,[(tN,wE s,(wE s).length)]⟩:=by
   rw[Yg hl hh];unfold fmD vM;dsimp only;rw[JD,jb rfl,Vz _ _ _ _ (by simp)];rfl
  have hl2:VF (⟨-1,false,room,[(tN,wE s,(wE s).length)]⟩:DK):=⟨rfl,rfl⟩;refine ⟨?_,λ_=> ?_⟩
  ·unfold KO
   rw[hw,ja zd,e1,KT hl hh,ja zd,e2,jAI hl2,ja hf]
  ·unfold zC
   rw[hw,ja zd,e1,KT hl hh,ja zd,e2,jAH hl2];unfold swD vM dJ;dsimp only;rw[JD,jb rfl,Qp,jb rfl,Ym]
   simp
theorem jGl (n:Nat):nm 99 n≤nm 108 n:=List.cons_le_cons_iff.2 (.inl zd)
theorem l8 (room:Int)(n:Nat)(s:List UInt8)(lg:Option (List UInt8×Nat)):qI (dJ room n s lg)=nm 99 n::(if lg.isSome then [nm 108 n] else []):=by
 unfold qI Jp
 cases lg with
 |none=>exact List.mergeSort_of_pairwise (by simp[dJ])
 |some v=>exact List.mergeSort_of_pairwise (by simpa[dJ] using jGl n)
theorem jGu {room:Int}{n:Nat}{s:List UInt8}{lg:Option (List UInt8×Nat)}(hn:n<100):∀x∈qI (dJ room n s lg),fR x:=by
 intro x hx;rw[l8] at hx
 rcases j9.1 hx with rfl|hx
 ·exact .inl ⟨n,hn,rfl⟩
 ·split at hx
  ·rw[ji.1 hx];exact .inr (.inl ⟨n,hn,rfl⟩)
  ·cases hx
theorem jE4 {room:Int}{n:Nat}{s:List UInt8}{lg:Option (List UInt8×Nat)}(hn:n<100):vO (qI (dJ room n s lg))=n:=by
 rw[l8];have h1:VH (-1) (nm 99 n)=n:=by unfold VH;rw[Jz hn];dsimp only;omega
 unfold vO;rw[List.foldl_cons,h1]
 cases lg with
 |none=>rfl
 |some v=>
  show VH n (nm 108 n)=n
  unfold VH nm;rw[xk zd]
theorem jBa {room:Int}{n:Nat}{s:List UInt8}{lg:Option (List UInt8×Nat)}(hn:n<100):dI (dJ room n s lg)=[]:=by
 unfold dI;rw[jE4 hn,l8];have h1:yo n (nm 99 n)=false:=by
  unfold yo;rw[Jz hn];have:wq 108 (nm 99 n)=none:=xk zd;rw[this,jv (jGk n)]
  simp
 have h2:yo n (nm 108 n)=false:=by
  unfold yo;have:wq 99 (nm 108 n)=none:=xk zd;rw[Jz hn,this,jv (jEi n)]
  simp
 unfold xp
 cases lg with
 |none=>simp[h1]
 |some v=>simp[h1,h2]
theorem jGo (room:Int)(n:Nat)(s:List UInt8)(lg:Option (List UInt8×Nat)):qJ (dJ room n s lg).fs (nm 99 n)=some (wE s,(wE s).length):=by
 unfold dJ;dsimp only;rw[JD,jb rfl]
theorem mb (room:Int)(n:Nat)(s:List UInt8)(lg:Option (List UInt8×Nat)):qJ (dJ room n s lg).fs (nm 108 n)=lg:=by
 unfold dJ;dsimp only;rw[JD,ja (n9 n n)]
 cases lg with
 |none=>rfl
 |some v=>rw[JD,jb rfl]
theorem jEe (room:Int)(n:Nat)(s:List UInt8)(lg:Option (List UInt8×Nat))(v:List UInt8×Nat):qZ (dJ room n s lg).fs (nm 108 n) v=(dJ room n s (some v)).fs:=by
 unfold dJ;dsimp only;rw[bW _ _ _ _ _ (n9 n n)]
 cases lg with
 |none=>rfl
 |some w=>rw[Vz _ _ _ _ (by simp)]
theorem jBQ (room:Int)(n:Nat)(s:List UInt8)(lg:Option (List UInt8×Nat)):vM (dJ room n s lg) (nm 108 n)=(sc lg,lgF lg):=by unfold vM;rw[mb];rfl
theorem fmJ (room:Int)(n:Nat)(s b:List UInt8)(f:Nat):fmD (dJ room n s (some (b,f))) (nm 108 n)=dJ room n s (some (b,b.length)):=by
 unfold fmD;rw[jBQ,jEe];rfl
def jBb (R:List (List UInt8)):Prop:=∀x∈R,x.length≤4096∧x.length≠0
theorem fH {R:List (List UInt8)}(h:jBb R):wa (wO R)=R:=by
 have:=jDj (r:=[]) h;rw[jG,Xo (λh=>n5 h.1),jG] at this;exact this
theorem jEV {room:Int}{n:Nat}{s:List UInt8}{R:List (List UInt8)}{lg:Option (List UInt8×Nat)}(hn:n<100)(hR:jBb R)(hl:(lg=none∧R=[])∨∃f,f≤(wO R).length∧lg=some (wO R,f)):
  xU (dJ room n s lg)=0∧yj (dJ room n s lg)=dJ room n s (lg.map λ_=>(wO R,(wO R).length))∧fw (dJ room n s lg)=n∧la (dJ room n s lg)=some s∧Vo (dJ room n s lg)=R:=by
 have hN:fw (dJ room n s lg)=n:=by unfold fw;rw[jE4 hn];rfl
 have hdn:¬(dJ room n s lg).down=true:=by show ¬(false=true);decide
 have hB:la (dJ room n s lg)=some s:=by
  unfold la;rw[ja (by rw[jE4 hn];omega),hN];unfold JU;rw[ja hdn,jGo];exact jEE s
 have hD:opD (dJ room n s lg)=X1 (dJ room n s lg):=by unfold opD;rw[ja (λh=>h.2 (jBa hn))]
 have hL:X1 (dJ room n s lg)=(0,dJ room n s (lg.map λ_=>(wO R,(wO R).length)))∧Vo (dJ room n s lg)=R:=by
  unfold X1 Vo;rw[hN]
  rcases hl with ⟨rfl,rfl⟩|⟨f,hf,rfl⟩
  ·have he:rdE (dJ room n s none) (nm 108 n)=6:=by unfold rdE;rw[ja hdn,mb,jb rfl]
   refine ⟨by unfold Kt;rw[he,jb zd];rfl,by unfold yO;rw[he,jb (.inl zd)]⟩
  ·have he:rdE (dJ room n s (some (wO R,f))) (nm 108 n)=0:=by unfold rdE;rw[ja hdn,mb,ja (by simp)]
   have hb:JU (dJ room n s (some (wO R,f))) (nm 108 n)=wO R:=by unfold JU;rw[ja hdn,mb];rfl
   have hlo:fI (dJ room n s (some (wO R,f))) (nm 108 n)=(0,dJ room n s (some (wO R,(wO R).length))):=by
    unfold fI;have hlen:yX (dJ room n s (some (wO R,f))) (nm 108 n)=(wO R).length - f:=by unfold yX;rw[jBQ];rfl
    rw[hlen];have hh:vV (dJ room n s (some (wO R,f))) (nm 108 n):=by unfold vV;rw[mb];simp
    split
    ·rw[KT (Kc _ _ _ _) hh,Yg (Kc _ _ _ _) hh,fmJ]
    ·have:f=(wO R).length:=by omega
     rw[←this]
   have hlg:Kt (dJ room n s (some (wO R,f))) (nm 108 n)=(0,dJ room n s (some (wO R,(wO R).length))):=by
    unfold Kt;rw[he,ja zd,hb,fH hR,←pu,ja zo,hlo]
   refine ⟨hlg,?_⟩;unfold yO;rw[he,hlg,ja (by simp),hb,fH hR]
 refine ⟨?_,?_,hN,hB,hL.2⟩
 ·unfold xU;rw[ja hdn,ja (by rw[hB];simp),hD,hL.1]
 ·unfold yj;rw[ja hdn,ja (by rw[hB];simp),hD,hL.1]
theorem jGd {room:Int}{n k:Nat}{s:List UInt8}{lg:Option (List UInt8×Nat)}{rs:List (List UInt8)}(h1:n3 rs=0)(h2:rs≠[]):
  (room<((wE s).length+(sc lg).length:Nat)+((wO rs).length:Nat)→gZ ⟨dJ room n s lg,n,k,false⟩ rs=8∧fj ⟨dJ room n s lg,n,k,false⟩ rs=⟨dJ room n s lg,n,k,false⟩)∧
  (¬room<((wE s).length+(sc lg).length:Nat)+((wO rs).length:Nat)→gZ ⟨dJ room n s lg,n,k,false⟩ rs=0∧fj ⟨dJ room n s lg,n,k,false⟩ rs=⟨dJ room n s (some (sc lg++wO rs,lgF lg)),n,k+rs.length,false⟩):=by
 have hw:=bB (Kc room n s lg) (wO rs);rw[pE] at hw;have hr:(dJ room n s lg).room=room:=rfl;rw[hr] at hw;refine ⟨λh=> ?_,λh=> ?_⟩
 ·rw[jb h] at hw
  refine ⟨?_,?_⟩
  ·unfold gZ;dsimp only;rw[ja zd,h1,ja zd,ja h2,hw]
  ·unfold fj;dsimp only;rw[ja zd,h1,ja zd,ja h2,hw]
   have:zQ (dJ room n s lg) (nm 108 n) (wO rs)=dJ room n s lg:=by unfold zQ;rw[hw,ja zd,(Kc room n s lg).sd]
   rw[this];rfl
 ·rw[ja h] at hw
  refine ⟨?_,?_⟩
  ·unfold gZ;dsimp only;rw[ja zd,h1,ja zd,ja h2,hw]
  ·unfold fj;dsimp only;rw[ja zd,h1,ja zd,ja h2,hw]
   have:zQ (dJ room n s lg) (nm 108 n) (wO rs)=dJ room n s (some (sc lg++wO rs,lgF lg)):=by
    rw[XD (Kc room n s lg) hw];unfold wrD;rw[jBQ,jEe];rfl
   rw[this];rfl
theorem jFc {room:Int}{n k:Nat}{s b:List UInt8}{f:Nat}(hk:k≠0):ZT ⟨dJ room n s (some (b,f)),n,k,false⟩=0∧ZS ⟨dJ room n s (some (b,f)),n,k,false⟩=⟨dJ room n s (some (b,b.length)),n,k,false⟩:=by
 have hh:vV (dJ room n s (some (b,f))) (nm 108 n):=by unfold vV;rw[mb];simp
 have hE:=KT (Kc room n s (some (b,f))) hh;have hS:=Yg (Kc room n s (some (b,f))) hh;refine ⟨?_,?_⟩
 ·unfold ZT;dsimp only;rw[ja zd,ja hk,hE]
 ·unfold ZS;dsimp only;rw[ja zd,ja hk,hE,hS,fmJ];rfl
theorem jHs (room:Int)(s:List UInt8):foE (D0 room) s=(if room<(wE s).length then 8 else 0)∧(¬room<(wE s).length→foS (D0 room) s=dJ room 0 s none):=by
 have h:=jGr room s;refine ⟨by unfold foE;rw[jb (show (D0 room).fs.length=0 from rfl),h.1],λhf=>by unfold foS;rw[jb (show (D0 room).fs.length=0 from rfl),h.2 hf]⟩
def fJ (n:Nat)(s:List UInt8)(lg:Option (List UInt8×Nat)):List FE:=(nm 99 n,wE s,(wE s).length)::(match lg with|none=> []|some v=> [(nm 108 n,v)])
def dn (l:Int):Int:=max (l - 1) (-1)
theorem sB1 {l:Int}(h:l≠0)(room:Int)(fs:List FE):wk ⟨l,false,room,fs⟩=true:=by unfold wk;simp[h]
theorem sD1 {l:Int}(h:l≠0)(room:Int)(fs:List FE):qY ⟨l,false,room,fs⟩=⟨dn l,false,room,fs⟩:=by unfold qY;rw[sB1 h];rfl
theorem jCH {l:Int}(h:l≠0)(room:Int)(fs:List FE)(b:List UInt8):Ws ⟨l,false,room,fs⟩ b=if room<qP fs+b.length then 8 else 0:=by
 unfold Ws;rw[sB1 h,ja zd,sD1 h];rfl
theorem jG5 {l:Int}(h:l≠0){room:Int}{fs:List FE}{b:List UInt8}(n:List UInt8)(hf:room<qP fs+b.length):zQ ⟨l,false,room,fs⟩ n b=⟨dn l,false,room,fs⟩:=by
 unfold zQ;rw[jCH h,jb hf,ja zd,sD1 h]
theorem jG6 {l:Int}(h:l≠0){room:Int}{fs:List FE}{b:List UInt8}(n:List UInt8)(hf:¬room<qP fs+b.length):zQ ⟨l,false,room,fs⟩ n b=⟨dn l,false,room,qZ fs n (((qJ fs n).getD ([],0)).1++b,((qJ fs n).getD ([],0)).2)⟩:=by
 unfold zQ;rw[jCH h,ja hf,jb rfl,sD1 h];rfl
theorem jGy {l:Int}(h:l≠0){room:Int}{fs:List FE}{n:List UInt8}(hh:qJ fs n≠none):Xu ⟨l,false,room,fs⟩ n=0:=by unfold Xu;rw[sB1 h,ja zd,jb (show vV ⟨l,false,room,fs⟩ n from hh)]
theorem jHu {l:Int}(h:l≠0){room:Int}{fs:List FE}{n:List UInt8}(hh:qJ fs n≠none):Va ⟨l,false,room,fs⟩ n=⟨dn l,false,room,qZ fs n (((qJ fs n).getD ([],0)).1,((qJ fs n).getD ([],0)).1.length)⟩:=by
 unfold Va;rw[jGy h hh,jb rfl,sD1 h];rfl
theorem jHc {l:Int}(h:l≠0)(room:Int)(fs:List FE):swE ⟨l,false,room,fs⟩=0:=by unfold swE;rw[sB1 h,ja zd]
theorem jHb {l:Int}(h:l≠0)(room:Int)(fs:List FE)(n m:List UInt8):swS ⟨l,false,room,fs⟩ n m=swD ⟨dn l,false,room,fs⟩ n m:=by unfold swS;rw[sB1 h,ja zd,sD1 h]
theorem jGB {l:Int}(h:l≠0)(room:Int)(fs:List FE)(ns:List (List UInt8)):drE ⟨l,false,room,fs⟩ ns=0:=by unfold drE;rw[sB1 h,ja zd]
theorem jHx {l:Int}(h:l≠0)(room:Int)(fs:List FE)(ns:List (List UInt8)):sB ⟨l,false,room,fs⟩ ns=⟨dn l,false,room,ns.foldl qT fs⟩:=by unfold sB;rw[sB1 h,ja zd,sD1 h];rfl
theorem sA (n:Nat)(s:List UInt8)(lg:Option (List UInt8×Nat)):∀u∈fJ n s lg,u.1≠tN:=by
 intro u hu;unfold fJ at hu
 rcases j9.1 hu with rfl|hu
 ·exact jGk n
 ·cases lg with
  |none=>cases hu
  |some v=>rw[ji.1 hu];exact jEi n
theorem jHv {n:Nat}(hn:n+1<100)(s:List UInt8)(lg:Option (List UInt8×Nat)):∀u∈fJ n s lg,u.1≠nm 99 (n+1):=by
 intro u hu;unfold fJ at hu
 rcases j9.1 hu with rfl|hu
 ·intro h;have:=(l7 zo hn h).2;omega
 ·cases lg with
  |none=>cases hu
  |some v=>rw[ji.1 hu];exact jBh _ _
theorem jAU {α:Type}{m:List (List UInt8×α)}{x:List UInt8}(h:∀u∈m,u.1≠x)(a:α):qZ m x a=m++[(x,a)]:=by
 unfold qZ;rw[ja];intro h2;obtain ⟨u,hu,hx⟩:=ku.1 h2;exact h u hu (kV hx)
theorem jAV {α:Type}{m:List (List UInt8×α)}{x:List UInt8}(h:∀u∈m,u.1≠x)(a b:α):qZ (m++[(x,a)]) x b=m++[(x,b)]:=wS h (by simp)
theorem jBX {α:Type}{m:List (List UInt8×α)}{x:List UInt8}(h:∀u∈m,u.1≠x)(a:α):qT (m++[(x,a)]) x=m:=by
 unfold qT;rw[jU,List.filter_eq_self.2 (λu hu=>by simpa using h u hu)]
 simp
theorem pA (n:Nat)(s:List UInt8)(lg:Option (List UInt8×Nat)):qP (fJ n s lg)=(wE s).length+(sc lg).length:=pE 0 n s lg
section
variable {l room : Int} {n k : Nat} {s s' : List UInt8} {lg : Option (List UInt8 × Nat)}
theorem jHt (h:l≠0)(b:List UInt8)(f:Nat):Xu ⟨l,false,room,fJ n s lg++[(tN,b,f)]⟩ tN=0∧Va ⟨l,false,room,fJ n s lg++[(tN,b,f)]⟩ tN=⟨dn l,false,room,fJ n s lg++[(tN,b,b.length)]⟩:=by
 have hl:qJ (fJ n s lg++[(tN,b,f)]) tN=some (b,f):=Jc (sA n s lg);refine ⟨jGy h (by rw[hl];simp),?_⟩;rw[jHu h (by rw[hl];simp),hl,jAV (sA n s lg)];rfl
theorem jHa (h:l≠0)(m b:List UInt8):swS ⟨l,false,room,fJ n s lg++[(tN,b,b.length)]⟩ tN m=⟨dn l,false,room,fJ n s lg++[(m,b,b.length)]⟩:=by
 have hl:qJ (fJ n s lg++[(tN,b,b.length)]) tN=some (b,b.length):=Jc (sA n s lg);rw[jHb h];unfold swD vM;dsimp only;rw[hl,jBX (sA n s lg)];dsimp only[Option.getD_some];rw[jI]
theorem jG4 (h:l≠0){b:List UInt8}(hf:¬room<(((wE s).length+(sc lg).length:Nat):Int)+b.length):Ws ⟨l,false,room,fJ n s lg⟩ b=0∧zQ ⟨l,false,room,fJ n s lg⟩ tN b=⟨dn l,false,room,fJ n s lg++[(tN,b,0)]⟩:=by
 have hf':¬room<(qP (fJ n s lg):Nat)+(b.length:Int):=by rw[pA];exact hf
 refine ⟨by rw[jCH h,ja hf'],?_⟩;rw[jG6 h _ hf',zB (sA n s lg),jAU (sA n s lg)];rfl
theorem jFi (hn:n+1<100)(hk:lg.isSome=decide (0<k))(b:List UInt8)(f:Nat):(Q4 ⟨⟨l,false,room,fJ n s lg⟩,n,k,false⟩).foldl qT (fJ n s lg++[(nm 99 (n+1),b,f)])=[(nm 99 (n+1),b,f)]:=by
 have h1:nm 99 (n+1)≠nm 99 n:=by intro h;have:=(l7 hn zo h).2;omega
 unfold Q4 fJ;dsimp only
 cases lg with
 |none=>
  have hk0:¬0<k:=λh=>by rw[jo h] at hk;cases hk
  rw[ja hk0];simp only[List.foldl_cons,List.foldl_nil,List.cons_append,kO];rw[Qp,jb rfl,Qp,ja h1,Ym]
 |some v=>
  have hk0:0<k:=by by_cases h:0<k;exact h;rw[jv h] at hk;cases hk
  rw[jb hk0];simp only[List.foldl_cons,List.foldl_nil,List.cons_append,kO]
  simp[Qp,Ym,h1,n9,jBh]
theorem jEQ (h:l≠0)(hf:room<(((wE s).length+(sc lg).length:Nat):Int)+(wE s').length):Jr ⟨⟨l,false,room,fJ n s lg⟩,n,k,false⟩ s'=8∧yv ⟨⟨l,false,room,fJ n s lg⟩,n,k,false⟩ s'=⟨⟨dn l,false,room,fJ n s lg⟩,n,k,false⟩:=by
 have hf':room<(qP (fJ n s lg):Nat)+((wE s').length:Int):=by rw[pA];exact hf
 have hw:Ws ⟨l,false,room,fJ n s lg⟩ (wE s')=8:=by rw[jCH h,jb hf']
 have hE:KO ⟨l,false,room,fJ n s lg⟩ s'=8:=by unfold KO;rw[hw,jb zd]
 have hS:zC ⟨l,false,room,fJ n s lg⟩ s' (n+1)=⟨dn l,false,room,fJ n s lg⟩:=by unfold zC;rw[hw,jb zd,jG5 h _ hf']
 exact ⟨by unfold Jr;dsimp only;rw[hE,ja zd,jb zd],by unfold yv;dsimp only;rw[hE,hS,ja zd,jb zd];rfl⟩
theorem jGq (h0:l≠0)(h1:dn l≠0)(h2:dn (dn l)≠0)(hf:¬room<(((wE s).length+(sc lg).length:Nat):Int)+(wE s').length):KO ⟨l,false,room,fJ n s lg⟩ s'=0∧zC ⟨l,false,room,fJ n s lg⟩ s' (n+1)=⟨dn (dn (dn l)),false,room,fJ n s lg++[(nm 99 (n+1),wE s',(wE s').length)]⟩:=by
 obtain ⟨w1,w2⟩:=jG4 (l:=l) (room:=room) (n:=n) h0 hf;obtain ⟨f1,f2⟩:=jHt (l:=dn l) (room:=room) (n:=n) (s:=s) (lg:=lg) h1 (wE s') 0;refine ⟨by unfold KO;rw[w1,w2,ja zd,f1,f2,ja zd,jHc h2],by unfold zC;rw[w1,w2,ja zd,f1,f2,ja zd,jHa h2]⟩
theorem jEP (hn:n+1<100)(hk:lg.isSome=decide (0<k))(h0:l≠0)(h1:dn l≠0)(h2:dn (dn l)≠0)(h3:dn (dn (dn l))≠0)(hf:¬room<(((wE s).length+(sc lg).length:Nat):Int)+(wE s').length):Jr ⟨⟨l,false,room,fJ n s lg⟩,n,k,false⟩ s'=0∧yv ⟨⟨l,false,room,fJ n s lg⟩,n,k,false⟩ s'=⟨⟨dn (dn (dn (dn l))),false,room,fJ (n+1) s' none⟩,n+1,0,false⟩:=by
 obtain ⟨hE,hS⟩:=jGq (l:=l) (room:=room) (n:=n) h0 h1 h2 hf;have hD:=jFi (l:=l) (room:=room) (n:=n) (k:=k) (s:=s) (lg:=lg) hn hk (wE s') (wE s').length;exact ⟨by unfold Jr;dsimp only;rw[hE,hS,ja zd,ja zd,jGB h3],by unfold yv;dsimp only;rw[hE,hS,ja zd,ja zd,jGB h3,jHx h3,hD];rfl⟩
end
structure LJ where
 room:Int
 n:Nat
 s:List UInt8
 R:List (List UInt8)
def lc (R:List (List UInt8)):Option (List UInt8×Nat):=if R=[] then none else some (wO R,(wO R).length)
abbrev LJ.d (l:LJ):DK:=dJ l.room l.n l.s (lc l.R)
abbrev LJ.z (l:LJ):JZ:=⟨l.d,l.n,l.R.length,false⟩
theorem jBq (R:List (List UInt8)):sc (lc R)=wO R:=by
 unfold lc
 split
 ·next h=>rw[h];rfl
 ·rfl
theorem jEk (R:List (List UInt8)):(lc R).isSome=decide (0<R.length):=by
 unfold lc
 split
 ·next h=>rw[h];rfl
 ·next h=>rw[jo (kA.2 h)];rfl
def LJ.used (l:LJ):Nat:=(wE l.s).length+(wO l.R).length
def zO (T:JZ)(rs:List (List UInt8)):Int:=if gZ T rs≠0 then gZ T rs else ZT (fj T rs)
def ye (T:JZ)(rs:List (List UInt8)):JZ:=if gZ T rs≠0 then fj T rs else ZS (fj T rs)
theorem jEp (l:LJ){rs:List (List UInt8)}(h1:n3 rs=0)(h2:rs≠[]):
  (l.room<l.used+(wO rs).length→zO l.z rs=8∧ye l.z rs=l.z)∧
  (¬l.room<l.used+(wO rs).length→zO l.z rs=0∧ye l.z rs=({l with R:=l.R++rs}:LJ).z):=by
 obtain ⟨p1,p2⟩:=jGd (room:=l.room) (n:=l.n) (k:=l.R.length) (s:=l.s) (lg:=lc l.R) h1 h2;rw[jBq] at p1 p2;unfold LJ.used;refine ⟨λh=> ?_,λh=> ?_⟩
 ·obtain ⟨q1,q2⟩:=p1 h
  unfold zO ye;rw[q1,jb zd,jb zd];exact ⟨rfl,q2⟩
 ·obtain ⟨q1,q2⟩:=p2 h
  have hk:l.R.length+rs.length≠0:=by have:=kA.2 h2;omega
  obtain ⟨f1,f2⟩:=jFc (room:=l.room) (n:=l.n) (s:=l.s) (b:=wO l.R++wO rs) (f:=lgF (lc l.R)) hk;unfold zO ye;rw[q1,ja zd,ja zd,q2,f1,f2];refine ⟨rfl,?_⟩;have hne:l.R++rs≠[]:=by simp[h2]
  show (⟨_,_,_,_⟩:JZ)=⟨dJ l.room l.n l.s (lc (l.R++rs)),l.n,(l.R++rs).length,false⟩
  unfold lc;rw[ja hne,pw,show (l.R++rs).length=l.R.length+rs.length from jc]
theorem jF9 (l:LJ)(s':List UInt8)(hn:l.n+1<100):
  (l.room<l.used+(wE s').length→Jr l.z s'=8∧yv l.z s'=l.z)∧
  (¬l.room<l.used+(wE s').length→Jr l.z s'=0∧yv l.z s'=(⟨l.room,l.n+1,s',[]⟩:LJ).z):=by
 unfold LJ.used;refine ⟨λh=> ?_,λh=> ?_⟩
 ·exact jEQ (l:= -1) (n:=l.n) (k:=l.R.length) (s:=l.s) (s':=s') (lg:=lc l.R) zd (by rw[jBq];exact h)
 ·exact jEP (l:= -1) (n:=l.n) (k:=l.R.length) (s:=l.s) (s':=s') (lg:=lc l.R) hn (jEk _) zd zd zd zd (by rw[jBq];exact h)
theorem jGg (l:LJ)(hn:l.n<100)(hR:jBb l.R):xU l.d=0∧yj l.d=l.d∧fw l.d=l.n∧la l.d=some l.s∧Vo l.d=l.R:=by
 have h:(lc l.R=none∧l.R=[])∨∃f,f≤(wO l.R).length∧lc l.R=some (wO l.R,f):=by
  unfold lc
  split
  ·next h=>exact .inl ⟨rfl,h⟩
  ·exact .inr ⟨_,jz _,rfl⟩
 obtain ⟨o1,o2,o3,o4,o5⟩:=jEV (room:=l.room) (n:=l.n) (s:=l.s) hn hR h;refine ⟨o1,?_,o3,o4,o5⟩;rw[o2]
 show dJ _ _ _ _=dJ _ _ _ _
 congr 1
 unfold lc
 split<;>rfl
theorem jDH (l:LJ){kf:List UInt8→Nat}(hk:∀u∈l.d.fs,u.2.2+kf u.1≤u.2.1.length):crD l.d kf=l.d:=by
 unfold crD;have:l.d.fs.map (λu=>(u.1,u.2.1.take (u.2.2+kf u.1),u.2.2+kf u.1))=l.d.fs:=by
  refine Eq.trans (List.map_congr_left (g:=id) λu hu=> ?_) (List.map_id _);have h1:=hk u hu;have h2:u.2.2=u.2.1.length:=by
   unfold LJ.d dJ lc at hu;dsimp only at hu
   rcases j9.1 hu with rfl|hu
   ·rfl
   ·split at hu
    ·cases hu
    ·next v hv=>
     split at hv
     ·cases hv
     ·cases hv
      rw[ji.1 hu]
  have h3:kf u.1=0:=by omega
  rw[h3,Nat.add_zero,h2,jI,←h2];rfl
 rw[this];rfl
def VP (T:JZ)(s:List UInt8)(ps:List (List UInt8)):Int:=if zO T ps≠8 then zO T ps else if Jr (ye T ps) s≠0 then Jr (ye T ps) s else zO (yv (ye T ps) s) ps
def Kd (T:JZ)(s:List UInt8)(ps:List (List UInt8)):JZ:=if zO T ps≠8 then ye T ps else if Jr (ye T ps) s≠0 then yv (ye T ps) s else ye (yv (ye T ps) s) ps
structure jDZ (T:JZ):Prop where
 n:T.n<100
 k:T.k≤1000000
 f:T.d.fs.length≤15
structure jFC (T:JZ):Prop where
 n:T.n+1<100
 key:qn T.d.fs
 f:T.d.fs.length≤15
 no:¬vV T.d (nm 99 (T.n+1))
 old:∀m∈Q4 T,vV T.d m
structure jDU (T:JZ)(s:List UInt8)(ps:List (List UInt8)):Prop where
 a:jDZ T
 b:zO T ps=8→jFC (ye T ps)
 c:zO T ps=8→Jr (ye T ps) s=0→jDZ (yv (ye T ps) s)
theorem jA9 {room:Int}{n k:Nat}{s:List UInt8}{lg:Option (List UInt8×Nat)}(hk:lg.isSome=decide (0<k)):∀m∈Q4 ⟨dJ room n s lg,n,k,false⟩,vV (dJ room n s lg) m:=by
 intro m hm;unfold Q4 at hm
 rcases j9.1 hm with rfl|hm
 ·unfold vV;rw[jGo];simp
 ·split at hm
  ·next h0=>
   rw[ji.1 hm];unfold vV;rw[mb];intro h;rw[h,jo h0] at hk;cases hk
  ·cases hm
theorem jDb {room:Int}{n:Nat}{s:List UInt8}{lg:Option (List UInt8×Nat)}(hn:n+1<100):¬vV (dJ room n s lg) (nm 99 (n+1)):=λh=>h (zB (jHv hn s lg))
theorem LJ.fc (l:LJ)(hn:l.n<100)(hk:l.R.length≤1000000):jDZ l.z:=by
 refine ⟨hn,hk,?_⟩;exact ke (jB0 _ _ _ _) zd
theorem LJ.sv (l:LJ)(hn:l.n+1<100):jFC l.z:=⟨hn,jFl _ _ _ _,ke (jB0 _ _ _ _) zd,jDb hn,jA9 (jEk _)⟩
theorem jEt {T:JZ}{s:List UInt8}{ps:List (List UInt8)}(h:zO T ps≠8):VP T s ps=zO T ps∧Kd T s ps=ye T ps:=⟨jb h,jb h⟩
theorem jGC {T:JZ}{s:List UInt8}{ps:List (List UInt8)}(h:zO T ps=8)(h2:Jr (ye T ps) s≠0):VP T s ps=Jr (ye T ps) s∧Kd T s ps=yv (ye T ps) s:=by
 unfold VP Kd;rw[ja (not_not_intro h),ja (not_not_intro h),jb h2,jb h2];exact ⟨rfl,rfl⟩
theorem jGD {T:JZ}{s:List UInt8}{ps:List (List UInt8)}(h:zO T ps=8)(h2:Jr (ye T ps) s=0):VP T s ps=zO (yv (ye T ps) s) ps∧Kd T s ps=ye (yv (ye T ps) s) ps:=by
 unfold VP Kd;rw[ja (not_not_intro h),ja (not_not_intro h),ja (not_not_intro h2),ja (not_not_intro h2)];exact ⟨rfl,rfl⟩
theorem LJ.wr (l:LJ)(s:List UInt8){ps:List (List UInt8)}(h1:n3 ps=0)(h2:ps≠[])(hn:l.n+1<100)(hk:l.R.length≤1000000):jDU l.z s ps:=by
 have hz:zO l.z ps=8→ye l.z ps=l.z:=λh=>by
  obtain ⟨f1,f2⟩:=jEp l h1 h2
  by_cases hc:l.room<l.used+(wO ps).length
  ·exact (f1 hc).2
  ·rw[(f2 hc).1] at h;cases h
 refine ⟨l.fc zo hk,λh=> ?_,λh hs=> ?_⟩
 ·rw[hz h];exact l.sv hn
 ·rw[hz h] at hs ⊢
  obtain ⟨s1,s2⟩:=jF9 l s hn
  by_cases hc:l.room<l.used+(wE s).length
  ·rw[(s1 hc).1] at hs;cases hs
  ·rw[(s2 hc).2];exact LJ.fc ⟨l.room,l.n+1,s,[]⟩ hn (jw _)
end Go.Proofs.YtlnfjhiphlfkjaaGreatDoor
namespace Go.SX
open Go
def xH (L:HL)(F:HL→Prop):Prop:=∀w G,St w (L++G)→∃L2,F L2∧St w (L2++G)
theorem xH.ent {L L':HL}{F:HL→Prop}(h:qi L L')(hk:xH L' F):xH L F:=λw G t=>hk w G (h w G t)
theorem xH.done {L:HL}{F:HL→Prop}(h:F L):xH L F:=λ_ _ t=>⟨L,h,t⟩
theorem xH.ex {α:Sort _}{X:α→HP}{L:HL}{F:HL→Prop}(h:∀x,xH (X x::L) F):xH (cQ X::L) F:=λw G t=>let ⟨x,t⟩:=St.open_ex t;h x w G t
theorem xH.pure {φ:Prop}{L:HL}{F:HL→Prop}(h:φ→xH L F):xH (wv φ::L) F:=λw G t=>let ⟨x,t⟩:=St.open_pure t;h x w G t
theorem xH.abs (a:OA){t sz m c:Nat}{cs:List Value}{M:OM}{L L0 L1:HL}{F:HL→Prop}[h:Kq a L t sz m c cs L0][h1:xb L0 M L1](hk:∀M',qU M M'→qH M' a m sz cs→xH (qo M'::L1) F):xH L F:=
 xH.ent h.ent (xH.ent qi.absorb (xH.ex λM'=>xH.ent qi.open_all (xH.pure λh=>hk M' h.1 h.2)))
theorem qh.post {P:Program}{g:FuncId}{args:List Value}{L:HL}{R R':Value→HL→Prop}(h:qh P g args L R)(hR:∀v L1,R v L1→xH L1 (R' v)):qh P g args L R':=by
 intro F w t;refine (h F w t).mono ?_;rintro e w' ⟨v,M,rfl,t',r⟩;obtain ⟨L2,h1,h2⟩:=hR v M r w' F t';exact ⟨v,L2,rfl,h2,h1⟩
end Go.SX
namespace Go.Proofs.YtlnfjhiphlfkjaaGreatDoor
open Go Go.SX
attribute [local irreducible] swp qq qM qL vX qh St qi qk vu qG
structure PG where
 rec_:List NA
 notes:List NA
 mail:List (Int×NA)
 inst:List NA
 els:List (Int×NA)
def PG.none :PG:=⟨[],[],[],[],[]⟩
def jAq (j:JG)(fr:Int)(n:NA):PG:=
 match qJ j.tr n.txn with
 |none=>PG.none
 |some t=>
  if 0<t.stamp∨fr∉t.parts then PG.none
  else if n.code≠0 then ⟨[],[yd t.txn],zS t 0 n.code,[],[]⟩
  else if fr∈t.yes then PG.none
  else if t.yes.length+1≠t.parts.length then ⟨[],[{NA.zero with kind:=20,txn:=n.txn,who:=fr}],[],[],[]⟩
  else ⟨[{NA.zero with kind:=17,txn:=t.txn,batch:=t.batch,stamp:=j.last+1,parts:=t.parts}],[],zS t (j.last+1) 0,[yd t.txn],zS t 0 8⟩
def jFA (j:JG)(fr:Int)(n:NA):PG:=
 match qJ j.tr n.txn with
 |none=>PG.none
 |some t=>
  if t.stamp=0∨fr∉t.parts∨fr∈t.acked then PG.none
  else if t.acked.length+1≠t.parts.length then ⟨[],[{NA.zero with kind:=21,txn:=n.txn,who:=fr}],[],[],[]⟩
  else ⟨[{NA.zero with kind:=18,txn:=n.txn}],[],[],[],[]⟩
def lU (j:JG)(fr:Int)(n:NA):PG:=
 match qJ j.tr n.txn with
 |none=>⟨[],[],[KY fr n.txn 0 6],[],[]⟩
 |some t=>if t.stamp=0 then PG.none else ⟨[],[],[KY fr n.txn t.stamp 0],[],[]⟩
def yK (M:OM)(a:OA)(xs:List NV):Prop:=qH M a xs.length 16 (xs.flatMap NV.cells)∧∀n∈xs,xt M n
def J9 (M:OM)(a:OA)(xs:List (Int×NV)):Prop:=qH M a xs.length 17 (xs.flatMap vx)∧∀n∈xs,xt M n.2
theorem yK.mono {M M':OM}{a:OA}{xs:List NV}(h:yK M a xs)(hl:qU M M'):yK M' a xs:=⟨h.1.mono hl,λn hn=>(h.2 n hn).mono hl⟩
theorem J9.mono {M M':OM}{a:OA}{xs:List (Int×NV)}(h:J9 M a xs)(hl:qU M M'):J9 M' a xs:=⟨h.1.mono hl,λn hn=>(h.2 n hn).mono hl⟩
theorem yK.nil {M:OM}{a:OA}:yK M a []:=⟨qH.nil0,λ_ h=>by cases h⟩
theorem J9.nil {M:OM}{a:OA}:J9 M a []:=⟨qH.nil0,λ_ h=>by cases h⟩
theorem J9.nv {M:OM}{a:OA}{l:List (Int×NA)}(h:qH M a l.length 17 (l.flatMap y8)):J9 M a (l.map λm=>(m.1,m.2.nv)):=by
 refine ⟨by rw[jf,List.flatMap_map];exact h,λn hn=> ?_⟩;obtain ⟨u,_,rfl⟩:=jM.1 hn;exact xt.nv u.2
theorem yK.nv {M:OM}{a:OA}{l:List NA}(h:qH M a l.length 16 (l.flatMap λr=>r.nv.cells)):yK M a (l.map NA.nv):=by
 refine ⟨by rw[jf,List.flatMap_map];exact h,λn hn=> ?_⟩;obtain ⟨u,_,rfl⟩:=jM.1 hn;exact xt.nv u
def zw (M:OM)(p:Nat)(j:JG)(pl:PG)(L:HL)(r:Value)(L':HL):Prop:=∃(a1:OA) (c1:Nat) (rs:List NV) (a2:OA) (c2:Nat) (ns:List NV) (a3:OA) (c3:Nat) (ms:List (Int×NV)) (a4:OA) (c4:Nat) (is:List NV) (a5:OA) (c5:Nat) (es:List (Int×NV)) (M':OM),
 r=.agg #[.slice a1 rs.length c1,.slice a2 ns.length c2,.slice a3 ms.length c3,.slice a4 is.length c4,.slice a5 es.length c5]∧qU M M'∧
 (yK M' a1 rs∧yK M' a2 ns∧J9 M' a3 ms∧yK M' a4 is∧J9 M' a5 es)∧
 (rs.map NV.abs=pl.rec_∧ns.map NV.abs=pl.notes∧ms.map (λm=>(m.1,m.2.abs))=pl.mail∧is.map NV.abs=pl.inst∧es.map (λm=>(m.1,m.2.abs))=pl.els)∧
 L'=qE M' p j::qo M'::L
def wo (M:OM)(p:Nat)(j:JG)(pl:PG)(L:HL)(r:Value)(L':HL):Prop:=∃(a1:OA) (c1:Nat) (rs:List NV) (a2:OA) (c2:Nat) (ns:List NV) (a3:OA) (c3:Nat) (ms:List (Int×NV)) (a4:OA) (c4:Nat) (is:List NV) (a5:OA) (c5:Nat) (es:List (Int×NV)) (M':OM),
 r=.agg #[.slice a1 rs.length c1,.slice a2 ns.length c2,.slice a3 ms.length c3,.slice a4 is.length c4,.slice a5 es.length c5]∧qU M M'∧
 ((∀n∈rs,xt M' n)∧(∀n∈ns,xt M' n)∧(∀n∈ms,xt M' n.2)∧(∀n∈is,xt M' n)∧∀n∈es,xt M' n.2)∧
 (rs.map NV.abs=pl.rec_∧ns.map NV.abs=pl.notes∧ms.map (λm=>(m.1,m.2.abs))=pl.mail∧is.map NV.abs=pl.inst∧es.map (λm=>(m.1,m.2.abs))=pl.els)∧
 L'=slO 82 16 a1 rs.length c1 (rs.flatMap NV.cells)::slO 82 16 a2 ns.length c2 (ns.flatMap NV.cells)::slO 176 17 a3 ms.length c3 (ms.flatMap vx)::slO 82 16 a4 is.length c4 (is.flatMap NV.cells)::slO 176 17 a5 es.length c5 (es.flatMap vx)::qE M' p j::qo M'::L
theorem zw.of0 {M:OM}{p:Nat}{j:JG}{pl:PG}{L:HL}{r:Value}{L':HL}(h:wo M p j pl L r L'):xH L' (zw M p j pl L r):=by
 obtain ⟨a1,c1,rs,a2,c2,ns,a3,c3,ms,a4,c4,is,a5,c5,es,M0,rfl,hl,⟨o1,o2,o3,o4,o5⟩,ab,rfl⟩:=h;refine xH.abs a1 (λM1 l1 s1=> ?_);refine xH.abs a2 (λM2 l2 s2=> ?_);refine xH.abs a3 (λM3 l3 s3=> ?_);refine xH.abs a4 (λM4 l4 s4=> ?_);refine xH.abs a5 (λM5 l5 s5=> ?_);have l45:=l5;have l35:=l4.trans l45;have l25:=l3.trans l35;have l15:=l2.trans l25;have l05:=l1.trans l15;refine xH.ent (qi.trans (M:=qE M0 p j::qo M5::L) eG (Yc l05)) (xH.done ?_);exact ⟨a1,c1,rs,a2,c2,ns,a3,c3,ms,a4,c4,is,a5,c5,es,M5,rfl,hl.trans l05,⟨⟨s1.mono l15,λn hn=>(o1 n hn).mono l05⟩,⟨s2.mono l25,λn hn=>(o2 n hn).mono l05⟩,⟨s3.mono l35,λn hn=>(o3 n hn).mono l05⟩,⟨s4.mono l45,λn hn=>(o4 n hn).mono l05⟩,⟨s5,λn hn=>(o5 n hn).mono l05⟩⟩,ab,rfl⟩
theorem jC7 {l:List (Int×NA)}(h:∀m∈l,m.2.nv.abs=m.2):(l.map λm=>(m.1,m.2.nv)).map (λm:Int×NV=>(m.1,m.2.abs))=l:=by
 rw[kE];refine (List.map_congr_left λm hm=> ?_).trans (List.map_id l)
 show (m.1,m.2.nv.abs)=m
 rw[h m hm]
theorem rx (t:TR)(s c:Int):∀m∈zS t s c,m.2.nv.abs=m.2:=by
 intro m hm;unfold zS at hm
 rcases jy.1 hm with h|h
 ·obtain ⟨q,_,rfl⟩:=jM.1 h;rfl
 ·rw[ji] at h;subst h;rfl
theorem rv (t:TR)(s c:Int):(zS t s c).length=t.parts.length+1:=by
 unfold zS;rw[jc,jf];rfl
theorem zw.none (M:OM)(p:Nat)(j:JG)(L:HL):zw M p j PG.none L (.agg #[.slice none 0 0,.slice none 0 0,.slice none 0 0,.slice none 0 0,.slice none 0 0]) (qE M p j::qo M::L):=
 ⟨Option.none,0,[],Option.none,0,[],Option.none,0,[],Option.none,0,[],Option.none,0,[],M,rfl,qU.refl M,⟨yK.nil,yK.nil,J9.nil,yK.nil,J9.nil⟩,⟨rfl,rfl,rfl,rfl,rfl⟩,rfl⟩
theorem wo.none (M:OM)(p:Nat)(j:JG)(L:HL):wo M p j PG.none L (.agg #[.slice none 0 0,.slice none 0 0,.slice none 0 0,.slice none 0 0,.slice none 0 0]) (slO 82 16 Option.none 0 0 []::slO 82 16 Option.none 0 0 []::slO 176 17 Option.none 0 0 []::slO 82 16 Option.none 0 0 []::slO 176 17 Option.none 0 0 []::qE M p j::qo M::L):=
 ⟨Option.none,0,[],Option.none,0,[],Option.none,0,[],Option.none,0,[],Option.none,0,[],M,rfl,qU.refl M,⟨λ_ h=>(by cases h),λ_ h=>(by cases h),λ_ h=>(by cases h),λ_ h=>(by cases h),λ_ h=>(by cases h)⟩,⟨rfl,rfl,rfl,rfl,rfl⟩,rfl⟩
theorem cy {L:HL}:qi L (slO 82 16 none 0 0 []::slO 82 16 none 0 0 []::slO 176 17 none 0 0 []::slO 82 16 none 0 0 []::slO 176 17 none 0 0 []::L):=by exact eG
section
variable {n : Nat} {ops rest : List Oper} {cd : Code} {Q : vk} {f : vF} {L L0 : HL}
theorem xX {ts:List TB}[hp:xe (qD ts) L L0]{k:Nat}{u:TB}(h:ts[k]? =some u)(hk:qq kY n ops rest Q f (vi u.2::qD (ts.eraseIdx k)::L0)):qq kY n ops rest Q f L:=qm (hp.ent.trans (bI h)) hk
theorem Qe {ts:List TB}[hp:xe (qD ts) L L0]{k:Nat}{u:TB}(h:ts[k]? =some u)(hk:swp kY n cd Q f (vi u.2::qD (ts.eraseIdx k)::L0)):swp kY n cd Q f L:=vf (hp.ent.trans (bI h)) hk
end
theorem zn {ts:List TB}{k:Nat}{u:TB}(h:ts[k]? =some u){L:HL}:qi (vi u.2::qD (ts.eraseIdx k)::L) (qD ts::L):=by
 have hk:k<ts.length:=(jm.1 h).1;have hu:ts[k]=u:=(jm.1 h).2;have:=lB hk u (L:=L);rw[←hu,List.set_getElem_self] at this;rw[←hu];exact this
theorem Ye {p mt md:Nat}{M:OM}{j:JG}{ts:List TB}{L L0 L1 L2 L3:HL}[h1:xe (gP p j mt md) L L0][h2:xe (gT mt ts) L0 L1][h3:xe (qD ts) L1 L2][h4:xe (gD md j.done) L2 L3](hq:QR M j ts):qi L (qE M p j::L3):=
 qi.trans h1.ent (qi.trans (qi.cons (qi.trans h2.ent (qi.cons (qi.trans h3.ent (qi.cons h4.ent))))) (qR hq))
theorem jDr {p mt md:Nat}{M:OM}{j:JG}{ts:List TB}{k:Nat}{u:TB}{L L0 L1 L2 L3 L4:HL}[h1:xe (gP p j mt md) L L0][h2:xe (gT mt ts) L0 L1][h3:xe (vi u.2) L1 L2][h3':xe (qD (ts.eraseIdx k)) L2 L3][h4:xe (gD md j.done) L3 L4](hk:ts[k]? =some u)(hq:QR M j ts):qi L (qE M p j::L4):=
 qi.trans h1.ent (qi.trans (qi.cons (qi.trans h2.ent (qi.cons (qi.trans (qi.trans h3.ent (qi.trans (qi.cons h3'.ent) (zn hk))) (qi.cons h4.ent))))) (qR hq))
theorem vq {p mt md:Nat}{M:OM}{j:JG}{ts:List TB}{k:Nat}{u:TB}{L:HL}(hk:ts[k]? =some u)(hq:QR M j ts):qi (gP p j mt md::gT mt ts::vi u.2::qD (ts.eraseIdx k)::gD md j.done::L) (qE M p j::L):=
 qi.trans (qi.cons (qi.cons (zn hk))) (qR hq)
theorem WD {ts:List TB}{tr:List (Int×TR)}(h:ts.map (λu=>(u.1,u.2.2.abs))=tr)(x:Int):qJ tr x=(qJ ts x).map λu=>u.2.abs:=by
 subst h;unfold qJ;rw[List.find?_map]
 show ((ts.find? λp=>decide (p.1=x)).map λu=>(u.1,u.2.2.abs)).map (·.2)=_
 cases ts.find? λp=>decide (p.1=x)<;>rfl
theorem Q5 {ts:List TB}{x:Int}{u:Nat×TV}(h:qJ (α:=Nat×TV) ts x=some u):∃k:Nat,ts[k]? =some ((x,u):TB):=by
 unfold qJ at h
 cases hf:ts.find? λp=>decide (p.1=x) with
 |none=>rw[hf] at h;cases h
 |some w=>
  rw[hf] at h
  cases h
  have h1:=List.find?_some hf;have h2:=List.mem_of_find?_eq_some hf;obtain ⟨k,hk⟩:=List.mem_iff_getElem?.1 h2;refine ⟨k,?_⟩;rw[hk,←kV h1]
theorem gM (n:NV)(M:OM)(p:Nat)(j:JG)(fr:Int)(L:HL):
  qh kY 102 [vI p,.int .i64 fr,n.val] (qE M p j::qo M::L) (zw M p j (lU j fr n.abs) L):=by
 unfold lU;refine wC λmt md ts hq=> ?_
 refine qg Tryz.func102 rfl rfl rfl ?_;refine Q.r ?_;(repeat (intro b1;refine Q.r ?_));rename_i b5;revert b1;intro b6;refine Q.dgo [true,true,true,true,true,true,true] [] [] [0,1,2,3,4,5,6,7] ?_;refine Q.rd ?_;refine D.y rfl rfl rfl zk (Y.lk false rfl rfl (λw=>Tryz.zeroValue148 w)) ?_;rw[WD hq.tr n.txn]
 cases hz:qJ (α:=Nat×TV) ts n.txn with
 |none=>
  dsimp only[Option.map_none];refine Q.rd ?_;refine Q.r ?_;(repeat (intro b1;refine Q.r ?_));refine qm (ve (sz:=1) (m:=1) rfl) ?_;refine qQ (some ⟨b1,0,none⟩) (λM1 hl1 hs1=> ?_);refine S.cr rfl (zh n.txn 0 6 (some ⟨b1,0,none⟩) 1 [fr] _ (qH.rd (cs:=[I64 fr]) hs1) (Nat.le_of_ble_eq_true rfl)) ?_;rintro _ _ ⟨a1,c1,rfl,rfl⟩;refine qQ a1 (λM2 hl2 hs2=> ?_);refine Q.r ?_;refine N.r1 RV.c (qi.trans (M:=gP p j mt md::gT mt ts::qD ts::gD md j.done::qo M2::L) eG (qR (hq.mono (hl1.trans hl2)))) ⟨none,0,[],none,0,[],a1,c1,[(fr,(KY fr n.txn 0 6).2.nv)],none,0,[],none,0,[],M2,rfl,hl1.trans hl2,⟨yK.nil,yK.nil,J9.nv (l:=[KY fr n.txn 0 6]) hs2,yK.nil,J9.nil⟩,⟨rfl,rfl,rfl,rfl,rfl⟩,rfl⟩
 |some u=>
  obtain ⟨k,hk⟩:=Q5 hz;dsimp only[Option.map_some];refine Q.rd ?_;refine Q.r ?_;refine xX hk ?_
  by_cases hs:u.2.stamp=0
  ·rw[jb hs]
   refine Q.r ?_;exact N.r1 RV.c (qi.trans (M:=gP p j mt md::gT mt ts::vi u::qD (ts.eraseIdx k)::gD md j.done::qo M::L) eG (vq hk hq)) (zw.none M p j L)
  ·rw[ja hs]
   refine Q.r ?_;refine Q.dgo [true,false,false,true] [8,9,11] [] [0,1,2,3,4,5,6,7,8,9,10,11] ?_;refine Q.rd ?_;(repeat (intro b1;refine Q.rd ?_));refine D.e rfl rfl rfl ?_;refine qm (ve (sz:=1) (m:=1) rfl) ?_;refine qQ (some ⟨b1,0,none⟩) (λM1 hl1 hs1=> ?_);refine S.cr rfl (zh n.txn u.2.stamp 0 (some ⟨b1,0,none⟩) 1 [fr] _ (qH.rd (cs:=[I64 fr]) hs1) (Nat.le_of_ble_eq_true rfl)) ?_;rintro _ _ ⟨a1,c1,rfl,rfl⟩;refine qQ a1 (λM2 hl2 hs2=> ?_);refine Q.r ?_;refine Q.rd ?_;refine Q.r ?_;refine N.r1 RV.c (qi.trans (M:=gP p j mt md::gT mt ts::vi u::qD (ts.eraseIdx k)::gD md j.done::qo M2::L) eG (vq hk (hq.mono (hl1.trans hl2)))) ⟨none,0,[],none,0,[],a1,c1,[(fr,(KY fr n.txn u.2.stamp 0).2.nv)],none,0,[],none,0,[],M2,rfl,hl1.trans hl2,⟨yK.nil,yK.nil,J9.nv (l:=[KY fr n.txn u.2.stamp 0]) hs2,yK.nil,J9.nil⟩,⟨rfl,rfl,rfl,rfl,rfl⟩,rfl⟩
theorem tM (n:NV)(M:OM)(p:Nat)(j:JG)(fr:Int)(L:HL):
  qh kY 101 [vI p,.int .i64 fr,n.val] (qE M p j::qo M::L) (wo M p j (jFA j fr n.abs) L):=by
 unfold jFA;refine wC λmt md ts hq=> ?_
 refine qg Tryz.func101 rfl rfl rfl ?_;refine Q.r ?_;(repeat (intro b1;refine Q.r ?_));rename_i b5;revert b1;intro b6;refine Q.dgo [true,true,true,true,true,true,true] [] [] [0,1,2,3,4,5,6,7] ?_;refine Q.rd ?_;refine D.y rfl rfl rfl zk (Y.lk false rfl rfl (λw=>Tryz.zeroValue148 w)) ?_;rw[WD hq.tr n.txn]
 cases hz:qJ (α:=Nat×TV) ts n.txn with
 |none=>
  dsimp only[Option.map_none];refine Q.rd ?_;refine Q.r ?_;exact N.r1 RV.c (qi.trans (qi.trans (M:=gP p j mt md::gT mt ts::qD ts::gD md j.done::qo M::L) eG (qR hq)) cy) (wo.none M p j L)
 |some u=>
  obtain ⟨k,hk⟩:=Q5 hz;have hu:ZE M u.2:=hq.ok _ (jn hk);have hpl:=hu.pl;have hkl:=hu.kl;dsimp only[Option.map_some];refine Q.rd ?_;refine Q.r ?_;refine xX hk ?_
  by_cases hs:u.2.stamp=0
  ·rw[jb (.inl hs)]
   refine Q.r ?_;exact N.r1 RV.c (qi.trans (qi.trans (M:=gP p j mt md::gT mt ts::vi u::qD (ts.eraseIdx k)::gD md j.done::qo M::L) eG (vq hk hq)) cy) (wo.none M p j L)
  refine Q.r ?_;refine S.cr rfl (qN u.2.pa u.2.pc u.2.parts fr _ hu.p.rd hpl) ?_;rintro _ _ ⟨rfl,rfl⟩
  by_cases hc:fr∈u.2.parts
  case neg=>
   rw[jb (.inr (.inl hc)),jv hc];refine Q.r ?_;exact N.r1 RV.c (qi.trans (qi.trans (M:=gP p j mt md::gT mt ts::vi u::qD (ts.eraseIdx k)::gD md j.done::qo M::L) eG (vq hk hq)) cy) (wo.none M p j L)
  rw[jo hc];refine Q.r ?_;refine S.cr rfl (qN u.2.ka u.2.kc u.2.acked fr _ hu.k.rd hkl) ?_;rintro _ _ ⟨rfl,rfl⟩
  by_cases hd:fr∈u.2.acked
  ·rw[jb (.inr (.inr hd)),jo hd]
   refine Q.r ?_;exact N.r1 RV.c (qi.trans (qi.trans (M:=gP p j mt md::gT mt ts::vi u::qD (ts.eraseIdx k)::gD md j.done::qo M::L) eG (vq hk hq)) cy) (wo.none M p j L)
  rw[jv hd,ja (show ¬(u.2.abs.stamp=0∨fr∉u.2.abs.parts∨fr∈u.2.abs.acked) from λh=>h.elim hs (λh=>h.elim (λh=>h hc) hd))];refine Q.r ?_;refine S.cr rfl (VV u u.2.ka u.2.acked.length u.2.kc _ hkl hpl) ?_;rintro _ _ ⟨rfl,rfl⟩
  by_cases hl:u.2.acked.length+1=u.2.parts.length
  ·rw[ja (λh=>h hl),jo hl]
   refine Q.r ?_;(repeat (intro b1;refine Q.r ?_));refine N.r1 RV.c (qi.trans (M:=pt b1 (cl (NA.nv {NA.zero with kind:=18,txn:=n.txn}).cells 82)::gP p j mt md::gT mt ts::vi u::qD (ts.eraseIdx k)::gD md j.done::qo M::L) eG (qi.trans (qi.cons (vq hk hq)) (qi.trans (ve (sz:=16) (m:=1) rfl) ?_))) ⟨some ⟨b1,0,none⟩,1,[NA.nv {NA.zero with kind:=18,txn:=n.txn}],none,0,[],none,0,[],none,0,[],none,0,[],M,rfl,qU.refl M,⟨λm hm=>by rw[ji.1 hm];exact xt.nv _,λ_ h=>(by cases h),λ_ h=>(by cases h),λ_ h=>(by cases h),λ_ h=>(by cases h)⟩,⟨rfl,rfl,rfl,rfl,rfl⟩,rfl⟩
   show qi _ (slO 82 16 (some ⟨b1,0,none⟩) 1 1 (NA.nv {NA.zero with kind:=18,txn:=n.txn}).cells::slO 82 16 none 0 0 []::slO 176 17 none 0 0 []::slO 82 16 none 0 0 []::slO 176 17 none 0 0 []::qE M p j::qo M::L)
   exact eG
  ·rw[jb hl,jv hl]
   refine Q.r ?_;(repeat (intro b1;refine Q.r ?_));refine N.r1 RV.c (qi.trans (M:=pt b1 (cl (NA.nv {NA.zero with kind:=21,txn:=n.txn,who:=fr}).cells 82)::gP p j mt md::gT mt ts::vi u::qD (ts.eraseIdx k)::gD md j.done::qo M::L) eG (qi.trans (qi.cons (vq hk hq)) (qi.trans (ve (sz:=16) (m:=1) rfl) ?_))) ⟨none,0,[],some ⟨b1,0,none⟩,1,[NA.nv {NA.zero with kind:=21,txn:=n.txn,who:=fr}],none,0,[],none,0,[],none,0,[],M,rfl,qU.refl M,⟨λ_ h=>(by cases h),λm hm=>by rw[ji.1 hm];exact xt.nv _,λ_ h=>(by cases h),λ_ h=>(by cases h),λ_ h=>(by cases h)⟩,⟨rfl,rfl,rfl,rfl,rfl⟩,rfl⟩
   show qi _ (slO 82 16 none 0 0 []::slO 82 16 (some ⟨b1,0,none⟩) 1 1 (NA.nv {NA.zero with kind:=21,txn:=n.txn,who:=fr}).cells::slO 176 17 none 0 0 []::slO 82 16 none 0 0 []::slO 176 17 none 0 0 []::qE M p j::qo M::L)
   exact eG
end Go.Proofs.YtlnfjhiphlfkjaaGreatDoor
namespace Go.Proofs.YtlnfjhiphlfkjaaGreatDoor
open Go Go.SX
abbrev wd (s id:Int):Int:=VJ s id+1
def yI (l:List Int)(n:Int):List Int:=l.takeWhile (λx=>decide (x<n))++n::l.dropWhile (λx=>decide (x<n))
def xM (s:Int)(ops:VL):List Int:=ops.foldl (λl o=>if wd s o.1∈l then l else yI l (wd s o.1)) []
def gh (j:JG)(n:NA):Int:=if v7 j.dim n.ops≠0 then v7 j.dim n.ops else if 8≤j.tr.length∨1048575≤j.seq∨1099511627776≤j.last then 8 else 0
abbrev jDc (j:JG)(fr:Int)(n:NA):TR:=⟨j.epoch*1048576+j.seq+1,n.batch,0,j.last,fr,xM j.shards n.ops,[],[],n.ops⟩
abbrev yD (t:TR):NA:={NA.zero with kind:=19,txn:=t.txn,batch:=t.batch,after:=t.after,who:=t.who,parts:=t.parts,ops:=t.ops}
abbrev fm (s:Int)(t:TR)(q:Int):Int×NA:=(q,{NA.zero with kind:=3,txn:=t.txn,after:=t.after,parts:=t.parts,ops:=t.ops.filter λo=>decide (wd s o.1=q)})
def jFt (j:JG)(fr:Int)(n:NA):PG:=
 match qJ j.done n.batch with
 |some s=>⟨[],[],[Y2 fr n.batch s 0],[],[]⟩
 |none=>
  if j.tr.any (λu=>decide (u.2.batch=n.batch))=true then PG.none
  else if gh j n≠0 then ⟨[],[],[Y2 fr n.batch 0 (gh j n)],[],[]⟩
  else ⟨[],[yD (jDc j fr n)],(jDc j fr n).parts.map (fm j.shards (jDc j fr n)),[],[]⟩
def xW (j:JG)(fr:Int)(n:NA):PG:=
 if qu n=false∨fr<0∨16≤fr then PG.none
 else if n.kind=1 then jFt j fr n
 else if n.kind=4 then jAq j fr n
 else if n.kind=6 then jFA j fr n
 else if n.kind=7 then lU j fr n
 else PG.none
abbrev sK (n:NA):TR:=⟨n.txn,n.batch,0,0,0,n.parts,[],[],[]⟩
abbrev sR (n:NA):TR:=⟨n.txn,n.batch,0,n.after,n.who,n.parts,[],[],n.ops⟩
def ym (t:TR)(n:NA):Int:=
 if decide (0<t.stamp)≠decide (n.kind=21) then 10
 else if n.who∉t.parts∨n.who∈(if n.kind=21 then t.acked else t.yes) then 1 else 0
def zW (t:TR)(n:NA):TR:=if n.kind=21 then {t with acked:=yI t.acked n.who} else {t with yes:=yI t.yes n.who}
def jDI (j:JG)(n:NA):Int:=if n.stamp=0 then 1 else match qJ j.tr n.txn with
 |some t=>if 0<t.stamp then 10 else 0
 |none=>0
def vm (j:JG)(n:NA):Int:=
 if qu n=false then 4
 else if n.kind=16 then if n.mark≤j.epoch then 1 else 0
 else if n.kind=19 then if (qJ j.tr n.txn).isSome then 7 else 0
 else if n.kind=17 then jDI j n
 else if n.kind=20∨n.kind=21∨n.kind=18∨n.kind=22 then match qJ j.tr n.txn with
  |none=>6
  |some t=>if n.kind=20∨n.kind=21 then ym t n else if decide (0<t.stamp)≠decide (n.kind=18) then 10 else 0
 else 4
def vC (j:JG)(n:NA):JG:=
 if vm j n≠0 then j
 else if n.kind=16 then {j with epoch:=n.mark,seq:=0,tr:=j.tr.filter λu=> !decide (u.2.stamp=0)}
 else if n.kind=19 then {j with tr:=qZ j.tr n.txn (sR n),seq:=if n.txn / 1048576=j.epoch then max j.seq (n.txn % 1048576) else j.seq}
 else if n.kind=17 then
  {j with tr:=qZ j.tr n.txn {(qJ j.tr n.txn).getD (sK n) with stamp:=n.stamp},done:=qZ j.done ((qJ j.tr n.txn).getD (sK n)).batch n.stamp,last:=max j.last n.stamp}
 else if n.kind=20∨n.kind=21 then match qJ j.tr n.txn with
  |some t=>{j with tr:=qZ j.tr n.txn (zW t n)}
  |none=>j
 else {j with tr:=qT j.tr n.txn}
theorem pX {j:JG}{n:NA}(hr:qu n=true)(hk:n.kind=16):vm j n=if n.mark≤j.epoch then 1 else 0:=by
 unfold vm;rw[ja (by rw[hr];decide),hk,jb rfl]
theorem pV {j:JG}{n:NA}(hr:qu n=true)(hk:n.kind=19):vm j n=if (qJ j.tr n.txn).isSome then 7 else 0:=by
 unfold vm;rw[ja (by rw[hr];decide),hk,ja zd,jb rfl]
theorem pW {j:JG}{n:NA}(hr:qu n=true)(hk:n.kind=17):vm j n=jDI j n:=by
 unfold vm;rw[ja (by rw[hr];decide),hk,ja zd,ja zd,jb rfl]
theorem de {j:JG}{n:NA}(hr:qu n=true)(hk:n.kind=20∨n.kind=21):vm j n=match qJ j.tr n.txn with
  |none=>6
  |some t=>ym t n:=by
 unfold vm;rw[ja (by rw[hr];decide),ja zo,ja zo,ja zo,jb zo]
 cases qJ j.tr n.txn with
 |none=>rfl
 |some t=>dsimp only;rw[jb hk]
theorem jFy {j:JG}{n:NA}(hr:qu n=true)(hk:n.kind=18∨n.kind=22):vm j n=match qJ j.tr n.txn with
  |none=>6
  |some t=>if decide (0<t.stamp)≠decide (n.kind=18) then 10 else 0:=by
 unfold vm;rw[ja (by rw[hr];decide),ja zo,ja zo,ja zo,jb zo]
 cases qJ j.tr n.txn with
 |none=>rfl
 |some t=>dsimp only;rw[ja zo]
theorem dh {j:JG}{n:NA}(h:vm j n=0)(hk:n.kind=16):vC j n={j with epoch:=n.mark,seq:=0,tr:=j.tr.filter λu=> !decide (u.2.stamp=0)}:=by
 unfold vC;rw[ja (by rw[h];decide),jb hk]
theorem df {j:JG}{n:NA}(h:vm j n=0)(hk:n.kind=19):vC j n={j with tr:=qZ j.tr n.txn (sR n),seq:=if n.txn / 1048576=j.epoch then max j.seq (n.txn % 1048576) else j.seq}:=by
 unfold vC;rw[ja (by rw[h];decide),ja zo,jb hk]
theorem Yz {j:JG}{n:NA}(h:vm j n=0)(hk:n.kind=17):vC j n={j with tr:=qZ j.tr n.txn {(qJ j.tr n.txn).getD (sK n) with stamp:=n.stamp},done:=qZ j.done ((qJ j.tr n.txn).getD (sK n)).batch n.stamp,last:=max j.last n.stamp}:=by
 unfold vC;rw[ja (by rw[h];decide),ja zo,ja zo,jb hk]
theorem pU {j:JG}{n:NA}(h:vm j n=0)(hk:n.kind=20∨n.kind=21){t:TR}(ht:qJ j.tr n.txn=some t):vC j n={j with tr:=qZ j.tr n.txn (zW t n)}:=by
 unfold vC;rw[ja (by rw[h];decide),ja zo,ja zo,ja zo,jb hk,ht]
theorem gk {j:JG}{n:NA}(h:vm j n=0)(hk:n.kind=18∨n.kind=22):vC j n={j with tr:=qT j.tr n.txn}:=by
 unfold vC;rw[ja (by rw[h];decide),ja zo,ja zo,ja zo,ja zo]
theorem xC {j:JG}{n:NA}(h:vm j n≠0):vC j n=j:=by unfold vC;rw[jb h]
theorem VA {l:List Int}{n x:Int}:x∈yI l n↔x=n∨x∈l:=by
 unfold yI;rw[jy,j9]
 constructor
 ·rintro (h|h|h)
  ·exact .inr ((List.takeWhile_sublist _).subset h)
  ·exact .inl h
  ·exact .inr ((List.dropWhile_sublist _).subset h)
 ·rintro (h|h)
  ·exact .inr (.inl h)
  ·rw[←List.takeWhile_append_dropWhile (p:=λx=>decide (x<n)) (l:=l)] at h
   rcases jy.1 h with h|h
   ·exact .inl h
   ·exact .inr (.inr h)
theorem Jt {l:List Int}{n:Int}:(yI l n).length=l.length+1:=by
 unfold yI;have:=jj List.length (List.takeWhile_append_dropWhile (p:=λx=>decide (x<n)) (l:=l));rw[jc] at this;rw[jc,jC];omega
abbrev zI (l:List Int):Prop:=l.Pairwise (· < ·)
theorem V6 {l:List Int}{n:Int}(h:zI l)(hn:n∉l):zI (yI l n):=by
 unfold yI
 induction l with
 |nil=>simp[zI]
 |cons a l ih=>
  have ha:=kH.1 h;have hne:n≠a∧n∉l:=by simpa using hn
  by_cases hx:a<n
  ·rw[List.takeWhile_cons_of_pos (by simpa using hx),List.dropWhile_cons_of_pos (by simpa using hx),List.cons_append]
   refine kH.2 ⟨λy hy=> ?_,ih ha.2 hne.2⟩
   rcases VA.1 (show y∈yI l n from hy) with rfl|hy
   ·exact hx
   ·exact ha.1 y hy
  ·rw[List.takeWhile_cons_of_neg (by simpa using hx),List.dropWhile_cons_of_neg (by simpa using hx),kO]
   refine kH.2 ⟨λy hy=> ?_,h⟩
   rcases j9.1 hy with rfl|hy
   ·omega
   ·have:=ha.1 y hy;omega
theorem XR {l:List Int}(h:zI l):l.Nodup:=List.Pairwise.imp (λh=>by omega) h
theorem Qi {s:Int}(h1:1≤s)(ops:VL):zI (xM s ops)∧∀x∈xM s ops,1≤x∧x≤s:=by
 unfold xM;have key:∀(ops:VL) (l:List Int),(zI l∧∀x∈l,1≤x∧x≤s)→zI (ops.foldl (λl o=>if wd s o.1∈l then l else yI l (wd s o.1)) l)∧∀x∈ops.foldl (λl o=>if wd s o.1∈l then l else yI l (wd s o.1)) l,1≤x∧x≤s:=by
  intro ops
  induction ops with
  |nil=>exact λl h=>h
  |cons o ops ih=>
   intro l h;rw[List.foldl_cons];refine ih _ ?_
   split
   ·exact h
   ·rename_i hm
    refine ⟨V6 h.1 hm,λx hx=> ?_⟩
    rcases VA.1 hx with rfl|hx
    ·have:=Xp h1 o.1
     unfold wd;omega
    ·exact h.2 x hx
 exact key ops [] ⟨List.Pairwise.nil,λ_ h=>by cases h⟩
theorem ff {l:List Int}{s:Int}(h:zI l)(hb:∀x∈l,1≤x∧x≤s)(hs:0≤s):(l.length:Int)≤s:=by
 have key:∀(l:List Int) (a:Int),zI l→(∀x∈l,a≤x∧x≤s)→a≤s+1→(l.length:Int)≤s+1 - a:=by
  intro l
  induction l with
  |nil=>intro a _ _ h;simp;omega
  |cons x l ih=>
   intro a h hb h3;have h2:=kH.1 h;have:=hb x (kg ..);have:=ih (x+1) h2.2 (λy hy=>⟨by have:=h2.1 y hy;omega,(hb y (jV _ hy)).2⟩) zo;rw[jC];omega
 have:=key l 1 h hb zo;omega
attribute [local irreducible] swp qq qM qL vX qh St qi qk vu qG
attribute [local irreducible] ar
abbrev AI (bk:Nat)(d:Array Int)(rs:List Value):HP:=pt bk (cl (ar .i64 d rs) 3)
theorem YH (x y:Int)(L:HL):qh kY 269 [.int .i64 x,.int .i64 y] L (λv L'=>v=.bool (Sort.ltInt x y)∧L'=L):=by
 have nan:∀z,qh kY 293 [.int .i64 z] L (λv L'=>v=.bool false∧L'=L):=λz=>by
  refine qg Tryz.func293 rfl rfl rfl ?_;refine Q.r ?_;exact N.t rfl (kZ _) ⟨by simp[WC],rfl⟩
 refine qg Tryz.func269 rfl rfl rfl ?_;refine Q.r ?_;refine S.cr rfl (nan x) ?_;rintro _ _ ⟨rfl,rfl⟩;refine Q.r ?_;exact N.t rfl (kZ _) ⟨rfl,rfl⟩
theorem QB (bk n c a b:Nat)(d:Array Int)(rs:List Value)(L:HL)(hd:d.size=n)(ha:a≤n)(hb:b≤n)(hn:n≤4611686018427387904):
  qh kY 276 [SV bk n c,.int .i64 a,.int .i64 b] (AI bk d rs::L) (λv L'=>v=.tuple #[]∧L'=AI bk (Sort.insertionSort Sort.ltInt d a b) rs::L):=by
 refine qg Tryz.func276 rfl rfl rfl ?_;refine Q.rn ?_;refine ql (σ:=Nat×Array Int) (λs=> [(0,SV bk n c),(1,.int .i64 a),(2,.int .i64 b),(6,.int .i64 s.1)]) (λs=>AI bk s.2 rs::L)
  (λs=>a+1≤s.1∧s.1≤n+1∧s.2.size=n∧Sort.insOuter Sort.ltInt a b s.1 s.2=Sort.insertionSort Sort.ltInt d a b) (λs=>b - s.1) (a+1,d) zt eG ⟨jz _,by dsimp only;omega,hd,rfl⟩ ?_
 rintro ⟨i,e⟩ ⟨h1,h2,h3,h4⟩;dsimp only at h1 h2 h3 h4 ⊢;rw[Sort.insOuter] at h4
 by_cases hi:i<b
 ·rw[jb hi] at h4
  refine Q.rn ?_;refine ql (σ:=Nat×Array Int) (λs=> [(0,SV bk n c),(1,.int .i64 a),(2,.int .i64 b),(6,.int .i64 i),(7,.int .i64 s.1)]) (λs=>AI bk s.2 rs::L)
   (λs=>s.1≤i∧s.2.size=n∧Sort.insInner Sort.ltInt a s.1 s.2=Sort.insInner Sort.ltInt a i e) (λs=>s.1) (i,e) zt eG ⟨jz _,h3,rfl⟩ ?_
  rintro ⟨j,g⟩ ⟨g1,g2,g3⟩;dsimp only at g1 g2 g3 ⊢
  by_cases hj:a<j
  ·obtain ⟨k,rfl⟩:∃k,j=k+1:=⟨j - 1,by omega⟩
   rw[Sort.insInner,show decide (k+1>a)=true by simpa using hj,jJ] at g3;refine Q.rn ?_;refine Q.dgo [true] [13] [] [0,1,2,3,4,5,6,7,8,9,10,11,12,13,14] ?_;refine Q.rdn ?_;refine D.e rfl rfl rfl ?_;refine S.guard rfl ?_;refine S.cr rfl (YH _ _ _) ?_;rintro _ M ⟨rfl,rfl⟩
   cases hl:Sort.ltInt g[k+1]! g[k]! with
   |false=>
    rw[show k+1 - 1=k from rfl,hl];rw[hl] at g3;refine Q.rn ?_;refine Q.rdn ?_;refine Q.rn ?_;refine ⟨(i+1,g),zt,by exact eG,⟨by dsimp only;omega,by dsimp only;omega,g2,?_⟩,by dsimp only;omega⟩;simp only[kb,if_false] at g3;rw[g3];exact h4
   |true=>
    rw[show k+1 - 1=k from rfl,hl];rw[hl] at g3;refine Q.rn ?_;refine Q.rdn ?_;refine Q.rn ?_;refine Q.dgo [true] [15,17] [15] [0,1,2,3,4,5,6,7,8,9,10,11,12,13,14,15,16,17] ?_;refine Q.rdn ?_;refine Q.dc rfl rfl rfl rfl ?_;refine Q.rn ?_;refine Q.rdn ?_;refine D.e rfl rfl rfl ?_;refine Q.rn ?_;refine Q.rdn ?_;refine Q.rn ?_;simp only[if_true] at g3;exact ⟨(k,Sort.swp g (k+1) k),zt,kZ _,⟨by dsimp only;omega,by rw[vJ];exact g2,g3⟩,by dsimp only;omega⟩
  ·have hgg:Sort.insInner Sort.ltInt a j g=g:=by
    cases j with
    |zero=>rfl
    |succ j=>rw[Sort.insInner,show decide (j+1>a)=false by simpa using hj];simp
   rw[hgg] at g3;refine Q.rn ?_;refine Q.dgo [true] [13] [] [0,1,2,3,4,5,6,7,8,9,10,11,12,13,14] ?_;refine Q.rdn ?_;refine Q.rn ?_;exact ⟨(i+1,g),zt,kZ _,⟨by dsimp only;omega,by dsimp only;omega,g2,by dsimp only;rw[g3];exact h4⟩,by dsimp only;omega⟩
 ·rw[ja hi] at h4
  subst h4;refine Q.rn ?_;exact N.n0 RV.nil (kZ _) ⟨rfl,rfl⟩
end Go.Proofs.YtlnfjhiphlfkjaaGreatDoor
namespace Go.Proofs.YtlnfjhiphlfkjaaGreatDoor
open Go Go.SX
attribute [local irreducible] swp qq qM qL vX qh St qi qk vu qG
theorem QA (sv:Value)(L:HL):qh kY 276 [sv,.int .i64 (0:Nat),.int .i64 (0:Nat)] L (λv L'=>v=.tuple #[]∧L'=L):=by
 refine qg Tryz.func276 rfl rfl rfl ?_;refine Q.rn ?_;refine ql (σ:=Unit) (λs=> [(2,.int .i64 (0:Nat)),(6,.int .i64 (1:Nat))]) (λs=>L) (λs=>True) (λs=>0) () zt (kZ _) trivial ?_;intro _ _;refine Q.rn ?_;exact N.n0 RV.nil (kZ _) ⟨rfl,rfl⟩
theorem mT (a:OA)(m c:Nat)(xs:List Int)(L:HL)(hm:m=xs.length)(hn:m≤12):
  qh kY 208 [.slice a m c] (slO 3 1 a m c (xs.map (Value.int .i64))::L) (λv L'=>v=.tuple #[]∧L'=slO 3 1 a m c ((vo xs).map (Value.int .i64))::L):=by
 have hu:IntKind.u64.wrap (m:Int)=(m:Int):=wrap_u64 zo zo;have pdq:∀(L L1:HL) (sv:Value) (lim:Nat),qh kY 276 [sv,.int .i64 (0:Nat),.int .i64 m] L (λv L'=>v=.tuple #[]∧L'=L1)→qh kY 248 [sv,.int .i64 (0:Nat),.int .i64 m,.int .i64 lim] L (λv L'=>v=.tuple #[]∧L'=L1):=by
  intro L L1 sv lim h;refine qg Tryz.func248 rfl rfl rfl ?_;refine Q.rn ?_;refine ql (σ:=Unit) (λs=> [(0,sv),(1,.int .i64 (0:Nat)),(2,.int .i64 m)]) (λs=>L) (λs=>True) (λs=>0) () zt (kZ _) trivial ?_;intro _ _;refine Q.rn ?_;refine S.cr rfl h ?_;rintro _ _ ⟨rfl,rfl⟩;refine Q.rn ?_;exact N.r0 RV.nil (kZ _) ⟨rfl,rfl⟩
 by_cases h0:m=0
 ·have hx:xs=[]:=jO zo
  subst hx;have hs:vo []=[]:=by simp[vo]
  rw[hs];refine qg Tryz.func208 rfl rfl rfl ?_;refine Q.rn ?_;refine S.y (Y.cvi rfl) ?_;rw[hu];refine Q.rn ?_;refine S.cr rfl (K7 m zo _) ?_;rintro _ _ ⟨rfl,rfl⟩;subst h0;refine S.cr rfl (pdq _ _ _ (Sort.bitsLen 0) (QA _ _)) ?_;rintro _ _ ⟨rfl,rfl⟩;refine Q.rn ?_;exact N.n0 RV.nil (kZ _) ⟨rfl,rfl⟩
 refine qh.slO zo λb rest ha hmc hlen=> ?_
 subst ha;refine qg Tryz.func208 rfl rfl rfl ?_;refine Q.rn ?_;refine S.y (Y.cvi rfl) ?_;rw[hu];refine Q.rn ?_;refine S.cr rfl (K7 m zo _) ?_;rintro _ _ ⟨rfl,rfl⟩;have hd:xs.toArray.size=m:=by simp[hm]
 refine S.cr rfl (pdq _ _ _ (Sort.bitsLen m) (QB b m c 0 m xs.toArray rest _ hd zo (jz _) zo)) ?_;rintro _ _ ⟨rfl,rfl⟩;have hsp:=Sort.insertionSort_holds (lt:=Sort.ltInt) Sort.swo_ltInt xs.toArray 0 m zo zo;have he:(Sort.insertionSort Sort.ltInt xs.toArray 0 m).toList=vo xs:=by
  have:=Sort.sorted_unique_holds (lt:=Sort.ltInt) Sort.swo_ltInt (λx y h1 h2=>by simp[Sort.ltInt] at h1 h2;omega) xs.toArray _ (by rw[hd];exact hsp.1) (by rw[hd];exact hsp.2);rw[this];unfold vo
  congr 1
  funext x y
  simp[Sort.ltInt]
  by_cases h:x≤y<;>simp[h]<;>omega
 refine Q.rn ?_;refine N.n0 RV.nil ?_ ⟨rfl,rfl⟩;have hen:(ar .i64 (Sort.insertionSort Sort.ltInt xs.toArray 0 m) rest)=(vo xs).map (Value.int .i64)++rest:=by rw[Z2,he]
 unfold AI;rw[hen];exact slO_shut (by simp[wW,hm]) hmc (by simpa[wW] using hlen)
theorem tz (x:Int)(L:HL):qh kY 270 [.int .i64 x] L (λv L'=>v=.bool false∧L'=L):=by
 refine qg Tryz.func270 rfl rfl rfl ?_;refine Q.r ?_;exact N.t rfl (kZ _) ⟨by simp[WC],rfl⟩
theorem jE2 (x y:Int):Sort.ltInt x y=decide (x<y):=rfl
abbrev QC (xs:List Int)(x:Int):Nat:=(xs.takeWhile λy=>decide (y<x)).length
theorem pG (xs:List Int)(x:Int):QC xs x≤xs.length:=(List.takeWhile_prefix _).length_le
theorem ZY (a:Int)(xs:List Int)(x:Int):QC (a::xs) x=if a<x then QC xs x+1 else 0:=by
 unfold QC;rw[List.takeWhile_cons]
 by_cases h:a<x
 ·rw[jo h,jb h];rfl
 ·rw[jv h,ja h];rfl
theorem pF {x:Int}:∀{xs:List Int} {k:Nat},k<QC xs x→∀{y:Int},xs[k]? =some y→y<x
 | [],k,h,y,_=>absurd h (Nat.not_lt_zero _)
 |a::xs,k,h,y,hy=>by
  rw[ZY] at h
  by_cases ha:a<x
  ·rw[jb ha] at h
   cases k with
   |zero=>simp at hy;omega
   |succ k=>exact pF (xs:=xs) (k:=k) zo (by simpa using hy)
  ·rw[ja ha] at h;omega
theorem pH {x:Int}:∀{xs:List Int},zI xs→∀{k:Nat},QC xs x≤k→∀{y:Int},xs[k]? =some y→¬y<x
 | [],_,k,_,y,hy=>by simp at hy
 |a::xs,hs,k,h,y,hy=>by
  have h2:=kH.1 hs;rw[ZY] at h
  by_cases ha:a<x
  ·rw[jb ha] at h
   cases k with
   |zero=>omega
   |succ k=>exact pH h2.2 (k:=k) zo (by simpa using hy)
  ·cases k with
   |zero=>simp at hy;omega
   |succ k=>
    have:=h2.1 y (jn (by simpa using hy:xs[k]? =some y));omega
theorem jAb (a:OA)(c:Nat)(xs:List Int)(x:Int)(A:HL)(h:qW A a xs.length 1 (xs.map I64))(hn:xs.length≤1000000)(hs:zI xs):
  qh kY 236 [.slice a xs.length c,.int .i64 x] A (λr L'=>(∃b,r=.tuple #[.int .i64 (QC xs x),.bool b])∧L'=A):=by
 refine qg Tryz.func236 rfl rfl rfl ?_;refine Q.r ?_;refine ql (σ:=Nat×Nat) (λs=> [(0,.slice a xs.length c),(1,.int .i64 x),(6,.int .i64 xs.length),(7,.int .i64 s.1),(8,.int .i64 s.2)])
  (λ_=>A) (λs=>s.1≤QC xs x∧QC xs x≤s.2∧s.2≤xs.length) (λs=>s.2 - s.1) (0,xs.length) zt (kZ _) ⟨jw _,pG _ _,jz _⟩ ?_
 rintro ⟨i,j⟩ ⟨h1,h2,h3⟩;dsimp only at h1 h2 h3 ⊢
 by_cases hij:i<j
 ·refine Q.rn ?_
  refine S.y (Y.cvi rfl) ?_;rw[wrap_u64 zo zo];refine S.y (Y.shr (a:=i+j) (b:=1) rfl rfl zd) ?_;rw[show (i+j) / 2^1=(i+j) / 2 by simp];refine S.y (Y.cvi rfl) ?_;rw[vl zo zo];obtain ⟨m,hm⟩:∃m,m=(i+j) / 2:=⟨_,rfl⟩;have hh1:i≤m:=by omega
  have hh2:m<j:=by omega
  rw[←hm];obtain ⟨q,hq⟩:=qw (show m<xs.length by omega);obtain ⟨b,oo,hia,hr⟩:=qW.elem (g:=λz:Int=> [I64 z]) (λ_=>rfl) (by rw[yh];exact h) hq rfl;rw[hia];refine Q.rn ?_;refine S.cr rfl (YH q x _) ?_;rintro _ _ ⟨rfl,rfl⟩;rw[jE2]
  by_cases hp:q<x
  ·have hrh:m<QC xs x:=Nat.lt_of_not_le λhc=>pH hs hc hq hp
   rw[jo hp];refine Q.rn ?_;exact ⟨(m+1,j),zt,kZ _,⟨hrh,h2,h3⟩,by dsimp only;omega⟩
  ·have hrh:QC xs x≤m:=Nat.le_of_not_lt λhc=>hp (pF hc hq)
   rw[jv hp];refine Q.rn ?_;exact ⟨(i,m),zt,kZ _,⟨h1,hrh,by dsimp only;omega⟩,by dsimp only;omega⟩
 ·have hci:QC xs x=i:=by omega
  have hil:i≤xs.length:=by omega
  rw[hci];clear hci h1 h2
  by_cases hlt:i<xs.length
  ·obtain ⟨q,hq⟩:=qw hlt
   obtain ⟨b,oo,hia,hr⟩:=qW.elem (g:=λz:Int=> [I64 z]) (λ_=>rfl) (by rw[yh];exact h) hq rfl;rw[hia]
   by_cases hqx:q=x
   ·refine Q.rn ?_
    exact N.u rfl rfl (kZ _) ⟨⟨_,rfl⟩,rfl⟩
   ·refine Q.rn ?_
    refine S.cr rfl (tz q _) ?_;rintro _ _ ⟨rfl,rfl⟩;refine Q.rn ?_;exact N.u rfl rfl (kZ _) ⟨⟨_,rfl⟩,rfl⟩
  ·refine Q.rn ?_
   exact N.u rfl rfl (kZ _) ⟨⟨_,rfl⟩,rfl⟩
theorem jBA {p q rest:List Value}{x:Value}(h:1≤rest.length):vG (vG (p++q++rest) (p.length+1) q) p.length [x]=(p++x::q)++rest.drop 1:=by
 obtain ⟨y,rest,rfl⟩:∃y r,rest=y::r:=by
  cases rest with
  |nil=>simp at h
  |cons y r=>exact ⟨y,r,rfl⟩
 have e1:vG (p++q++y::rest) (p.length+1) q=p++(q++[y]).take 1++q++rest:=by
  unfold vG;have:p++q++y::rest=p++((q++[y])++rest):=by simp
  rw[this,List.take_append,kK zo,show p.length+1 - p.length=1 by omega,kN,List.drop_eq_nil_of_le zo,kO,show p.length+1+q.length - p.length=(q++[y]).length by simp;omega];rw[kF,List.take_append];have:1 - (q++[y]).length=0:=by simp
  rw[this]
  simp
 rw[e1];obtain ⟨z,hz⟩:∃z,(q++[y]).take 1=[z]:=by
  cases q with
  |nil=>exact ⟨y,rfl⟩
  |cons z q=>exact ⟨z,rfl⟩
 rw[hz];unfold vG
 simp[List.take_append,kN]
theorem jBB {p zs q rest:List Value}{x:Value}(h:zs.length=q.length+1):vG (vG (p++zs++rest) p.length [x]) (p.length+1) q=(p++x::q)++rest:=by
 obtain ⟨y,zs,rfl⟩:∃y r,zs=y::r:=by
  cases zs with
  |nil=>simp at h
  |cons y r=>exact ⟨y,r,rfl⟩
 have h2:zs.length=q.length:=by simpa using h
 have e1:vG (p++y::zs++rest) p.length [x]=p++x::(zs++rest):=by
  unfold vG;rw[show p++y::zs++rest=p++(y::(zs++rest)) by simp,List.take_left,kN,List.drop_eq_nil_of_le (by simp)]
  simp
 rw[e1];unfold vG;have e2:p++x::(zs++rest)=(p++[x])++(zs++rest):=by simp
 have e3:p.length+1=(p++[x]).length:=by simp
 rw[e2,e3,List.take_left,kN,List.drop_eq_nil_of_le zo,kO,show (p++[x]).length+q.length - (p++[x]).length=zs.length by omega,kF]
 simp
theorem vg.pre {L:HL}{b o:Nat}{cs ds:List Value}(h:vg L b o (cs++ds)):vg L b o cs:=vg.part (k:=0) (ds:=cs) h λj v e=>by
 rw[kR,ko (jm.1 e).1];exact e
theorem vg.suf {L:HL}{b o:Nat}{cs ds:List Value}(h:vg L b o (cs++ds)):vg L b (o+cs.length) ds:=vg.part (k:=cs.length) (ds:=ds) h λj v e=>by
 rw[kG zo];rw[show cs.length+j - cs.length=j by omega];exact e
theorem jDX (b c vb n i:Nat)(p q rest:List Value)(x:Value)(L:HL)(hi:p.length=i)(hq:i+q.length=n)(hq0:0<q.length)(hn:n≤1000000)(hc:(p++q++rest).length=c)(h1:x.oneCell'=true)(h2:q.all (·.oneCell')=true):
  qh kY 237 [.slice (some ⟨b,0,none⟩) n c,.int .i64 i,.slice (some ⟨vb,0,none⟩) 1 1] (pt b (cl (p++q++rest) 3)::pt vb (cl [x] 3)::L)
   (λr L'=>∃a' c',r=.slice a' (n+1) c'∧L'=slO 3 1 a' (n+1) c' (p++x::q)::L):=by
 have hcl:i+q.length+rest.length=c:=by rw[←hc,jc,jc,hi]
 refine qg Tryz.func237 rfl rfl rfl ?_;refine Q.r ?_;refine S.y (Y.slF (l:=i) rfl rfl rfl zo) ?_;refine Q.r ?_;refine S.y (Y.cap rfl) ?_
 by_cases hg:c<n+1
 ·refine Q.r ?_
  refine S.y (Y.slT (h:=i) rfl rfl rfl zo) ?_;refine Q.rn ?_;have hrp:vg (pt b (cl (p++q++rest) 3)::pt vb (cl [x] 3)::L) b 0 p:=by
   have h:vg (pt b (cl (p++q++rest) 3)::pt vb (cl [x] 3)::L) b 0 (p++q++rest):=vg.row;exact vg.pre (vg.pre h)
  refine S.appz (k:=n+1 - i) rfl rfl hrp zo zo zo zr zd zo zo (λb' c'=> ?_);rw[show i+(n+1 - i)=n+1 by omega];have hrl:(QL (n+1 - i) [Value.int .i64 0]).length=q.length+1:=by rw[xK];simp;omega
  generalize hzs:QL (n+1 - i) [Value.int .i64 0]=zs at hrl ⊢;refine Q.r ?_;refine jA7 b' (λrs hm2 hc2=> ?_);have hcl2:i+zs.length+rs.length=c':=by
   have h:=hc2;rw[jc,jc,hi,jX] at h;exact h
  refine S.y (Y.slF (l:=i) rfl rfl rfl zo) ?_;rw[show (if c'=i then 0 else 0+i*1)=i by rw[ja zo];omega];refine Q.r ?_;refine S.cpy (l':=vG (p++zs++rs) i [x]) (ys:=[x]) rfl rfl vg.row (by simp;omega) (by simp only[jc,kT,hrl];omega) (by simpa using h1) rfl ?_;refine Q.r ?_;refine Q.dgo [] [8] [] [0,1,2,3,4,5,6,7,8] ?_;refine Q.rd ?_;refine D.y rfl rfl rfl zk (Y.slF (l:=i+1) rfl rfl rfl zo) ?_;rw[show (if c'=i+1 then 0 else 0+(i+1)*1)=i+1 by rw[ja zo];omega];refine Q.rd ?_;refine D.y rfl rfl rfl zk (Y.slF (l:=i) rfl rfl rfl zo) ?_;rw[show (if c=i then 0 else 0+i*1)=i by rw[ja zo];omega];refine Q.rd ?_;refine D.e rfl rfl rfl ?_;have hrq:vg (pt b' (cl (vG (p++zs++rs) i [x]) 3)::pt b (cl (p++q++rest) 3)::pt vb (cl [x] 3)::L) b i q:=by
   have h:vg (pt b' (cl (vG (p++zs++rs) i [x]) 3)::pt b (cl (p++q++rest) 3)::pt vb (cl [x] 3)::L) b 0 (p++q++rest):=vg.row;have h2:=vg.suf (vg.pre h);rw[hi,kR] at h2;exact h2
  have hpl:(vG (p++zs++rs) i [x]).length=(p++zs++rs).length:=by
   unfold vG;simp[jc];omega
  have hfin:=jBB (p:=p) (zs:=zs) (q:=q) (rest:=rs) (x:=x) hrl;rw[hi] at hfin;refine S.cpy (l':=(p++x::q)++rs) (ys:=q) rfl rfl hrq zo (by rw[hpl,jc,jc,hi,hrl];omega) h2 hfin ?_;refine Q.r ?_;refine Q.rd ?_;refine Q.r ?_;refine N.t rfl ?_ ⟨some ⟨b',0,none⟩,c',rfl,rfl⟩;refine qi.trans (M:=pt b' (cl ((p++x::q)++rs) 3)::L) eG ?_;exact slO_shut (by rw[jc,jC,hi];omega) zo (by rw[jc,jc,jC,hi];omega)
 ·refine Q.r ?_
  refine S.y (Y.slT (h:=n+1) rfl rfl zo zo) ?_;refine Q.r ?_;refine S.y (Y.slF (l:=i+1) rfl rfl rfl zo) ?_;rw[show (if c=i+1 then 0 else 0+(i+1)*1)=i+1 by rw[ja zo];omega];refine S.y (Y.ovl (tS:=40) (tR:=4) (b1:=vb) (b2:=b) (t1:=3) (t2:=3) (l1:=[x]) (l2:=p++q++rest) Tryz.func271 zk zk zk zk rfl rfl (by intro h;have h:=jj List.length h;rw[jc,jc,j7] at h;omega)) ?_;refine Q.r ?_;refine Q.dgo [] [8] [] [0,1,2,3,4,5,6,7,8] ?_;refine Q.rd ?_;refine D.y rfl rfl rfl zk (Y.slF (l:=i+1) rfl rfl rfl zo) ?_;rw[show (if c=i+1 then 0 else 0+(i+1)*1)=i+1 by rw[ja zo];omega];refine Q.rd ?_;refine D.y rfl rfl rfl zk (Y.slF (l:=i) rfl rfl rfl zo) ?_;rw[show (if c=i then 0 else 0+i*1)=i by rw[ja zo];omega];refine Q.rd ?_;refine D.e rfl rfl rfl ?_;have hrq:vg (pt b (cl (p++q++rest) 3)::pt vb (cl [x] 3)::L) b i q:=by
   have h:vg (pt b (cl (p++q++rest) 3)::pt vb (cl [x] 3)::L) b 0 (p++q++rest):=vg.row;have h2:=vg.suf (vg.pre h);rw[hi,kR] at h2;exact h2
  have hpl:(vG (p++q++rest) (i+1) q).length=(p++q++rest).length:=by
   unfold vG;simp[jc];omega
  have hfin:=jBA (p:=p) (q:=q) (rest:=rest) (x:=x) zo;rw[hi] at hfin;refine S.cpy (l':=vG (p++q++rest) (i+1) q) (ys:=q) rfl rfl hrq zo (by rw[jc,jc,hi];omega) h2 rfl ?_;refine Q.r ?_;refine Q.rd ?_;refine Q.r ?_;refine S.y (Y.slF (l:=i) rfl rfl rfl zo) ?_;rw[show (if c=i then 0 else 0+i*1)=i by rw[ja zo];omega];refine Q.r ?_;refine S.cpy (l':=(p++x::q)++rest.drop 1) (ys:=[x]) rfl rfl vg.row (by simp;omega) (by rw[hpl,jc,jc,hi,kT];omega) (by simpa using h1) hfin ?_;refine Q.r ?_;refine N.t rfl ?_ ⟨some ⟨b,0,none⟩,c,rfl,rfl⟩;refine qi.trans (M:=pt b (cl ((p++x::q)++rest.drop 1) 3)::L) eG ?_;exact slO_shut (by rw[jc,jC,hi];omega) zo (by rw[jc,jc,jC,jE,hi];omega)
theorem tD (a:OA)(c i vb:Nat)(xs:List Int)(x:Int)(L:HL)(hi:i≤xs.length)(hn:xs.length≤1000000):
  qh kY 237 [.slice a xs.length c,.int .i64 i,.slice (some ⟨vb,0,none⟩) 1 1] (slO 3 1 a xs.length c (xs.map I64)::pt vb (cl [I64 x] 3)::L)
   (λr L'=>∃a' c',r=.slice a' (xs.length+1) c'∧L'=slO 3 1 a' (xs.length+1) c' ((xs.take i++x::xs.drop i).map I64)::L):=by
 by_cases hin:i=xs.length
 ·subst hin
  rw[jI,kM];obtain ⟨n,hnn⟩:∃n,n=xs.length:=⟨_,rfl⟩;rw[←hnn];refine qh.slOc (λe1 e2 e3 e4=> ?_) (λb e h1=> ?_)
  ·subst e1 e2 e3
   have hx:xs=[]:=jO hnn.symm;subst hx;refine qg Tryz.func237 rfl rfl rfl ?_;refine Q.r ?_;refine S.y (Y.slFn rfl rfl rfl) ?_;refine Q.r ?_;refine S.app rfl rfl (vA.sl vg.row zr zr) zr zo zo (λa7 c7=> ?_);refine Q.r ?_;exact N.t rfl (qi.cons (qi.drop (kZ _))) ⟨a7,c7,rfl,rfl⟩
  ·subst e
   refine qg Tryz.func237 rfl rfl rfl ?_;refine Q.r ?_;refine S.y (Y.slF (l:=n) rfl rfl rfl zo) ?_;refine Q.r ?_;refine S.app rfl rfl (vA.sl vg.row zr zr) zr zo zo (λa7 c7=> ?_);refine Q.r ?_;refine N.t rfl (qi.cons (qi.drop (kZ _))) ⟨a7,c7,rfl,?_⟩;rw[jq];rfl
 have hlt:i<xs.length:=by omega
 refine qh.slO zo λb rest ha hmc hlen=> ?_
 subst ha;have hl1:((xs.take i).map I64).length=i:=by rw[jf,jP];omega
 have hl2:((xs.drop i).map I64).length=xs.length - i:=by rw[jf,jE]
 have hx1:xs.map I64=(xs.take i).map I64++(xs.drop i).map I64:=by rw[←jq,kJ]
 have hres:(xs.take i++x::xs.drop i).map I64=(xs.take i).map I64++I64 x::(xs.drop i).map I64:=by rw[jq,jL]
 rw[hx1,hres];rw[hx1] at hlen;exact jDX b c vb xs.length i _ _ rest (I64 x) L hl1 zo zo hn (by rw[hlen,jX]) rfl (jCt _)
theorem bh (a:OA)(c:Nat)(xs:List Int)(x:Int)(A:HL)(h:qW A a xs.length 1 (xs.map I64))(hn:xs.length≤1000000)(hs:zI xs):
  qh kY 199 [.slice a xs.length c,.int .i64 x] A (λr L'=>∃a' c',r=.slice a' (xs.length+1) c'∧L'=slO 3 1 a' (xs.length+1) c' ((yI xs x).map I64)::A):=by
 have hpi:yI xs x=xs.take (QC xs x)++x::xs.drop (QC xs x):=by
  unfold yI QC;have e:=List.takeWhile_append_dropWhile (p:=λy=>decide (y<x)) (l:=xs);have e1:xs.take (xs.takeWhile λy=>decide (y<x)).length=xs.takeWhile λy=>decide (y<x):=by
   conv=>lhs;arg 2;rw[←e]
   exact List.take_left ..
  have e2:xs.drop (xs.takeWhile λy=>decide (y<x)).length=xs.dropWhile λy=>decide (y<x):=by
   conv=>lhs;arg 2;rw[←e]
   exact kF ..
  rw[e1,e2]
 have hle:=pG xs x;refine qg Tryz.func199 rfl rfl rfl ?_;refine Q.r ?_;refine S.cr rfl (jAb a c xs x _ h hn hs) ?_;rintro _ _ ⟨⟨b,rfl⟩,rfl⟩;refine Q.r ?_;refine S.cr rfl (xS a c xs _ h hn) ?_;rintro _ _ ⟨ca,cc,rfl,rfl⟩;refine Q.r ?_;(repeat (intro b1;refine Q.r ?_));refine S.c2 (A:=slO 3 1 ca xs.length cc (xs.map I64)) rfl (tD ca cc (QC xs x) b1 xs x _ hle hn) ?_;rintro _ _ ⟨a',c',rfl,rfl⟩;refine Q.r ?_;refine N.t rfl ?_ ⟨a',c',rfl,by rw[hpi]⟩;exact eG
abbrev nvG (m:Int×NA):Int×NV:=(m.1,m.2.nv)
abbrev vr (t:TR)(stamp code:Int):List (Int×NV):=(zS t stamp code).map nvG
theorem ru (t:TR)(s c:Int):(vr t s c).length=t.parts.length+1:=by rw[jf,rv]
theorem zi (t:TR)(s c:Int):(vr t s c).map (λm:Int×NV=>(m.1,m.2.abs))=zS t s c:=jC7 (rx t s c)
theorem xV {M:OM}(t:TR)(s c:Int):∀m∈vr t s c,xt M m.2:=λm hm=>by
 obtain ⟨u,_,rfl⟩:=jM.1 hm;exact xt.nv u.2
theorem xm (t:Nat×TV)(stamp code:Int)(M:OM)(L:HL)(ht:ZE M t.2):
  qh kY 120 [W5 t,.int .u64 stamp,.int .i64 code] (vi t::qo M::L) (λr L'=>∃a' c',r=.slice a' (vr t.2.abs stamp code).length c'∧L'=slO 176 17 a' (vr t.2.abs stamp code).length c' ((vr t.2.abs stamp code).flatMap vx)::vi t::qo M::L):=by
 have h:=nb t stamp code M L ht;rw[show t.2.parts.length+1=(vr t.2.abs stamp code).length from (ru t.2.abs stamp code).symm,show (zS t.2.abs stamp code).flatMap y8=(vr t.2.abs stamp code).flatMap vx from (by rw[List.flatMap_map])] at h;exact h
theorem m9 (n:NV)(M:OM)(p:Nat)(j:JG)(fr:Int)(L:HL)(h0:0≤j.last)(h1:j.last≤1099511627776):
  qh kY 100 [vI p,.int .i64 fr,n.val] (qE M p j::qo M::L) (wo M p j (jAq j fr n.abs) L):=by
 unfold jAq;refine wC λmt md ts hq=> ?_
 refine qg Tryz.func100 rfl rfl rfl ?_;refine Q.r ?_;(repeat (intro b1;refine Q.r ?_));rename_i b5;revert b1;intro b6;refine Q.dgo [true,true,true,true,true,true,true] [] [] [0,1,2,3,4,5,6,7] ?_;refine Q.rd ?_;refine D.y rfl rfl rfl zk (Y.lk false rfl rfl (λw=>Tryz.zeroValue148 w)) ?_;rw[WD hq.tr n.txn]
 cases hz:qJ (α:=Nat×TV) ts n.txn with
 |none=>
  dsimp only[Option.map_none];refine Q.rd ?_;refine Q.r ?_;exact N.r1 RV.c (qi.trans (qi.trans (M:=gP p j mt md::gT mt ts::qD ts::gD md j.done::qo M::L) eG (qR hq)) cy) (wo.none M p j L)
 |some u=>
  obtain ⟨k,hk⟩:=Q5 hz;have hu:ZE M u.2:=hq.ok _ (jn hk);have hpl:=hu.pl;have hyl:=hu.yl;dsimp only[Option.map_some];refine Q.rd ?_;refine Q.r ?_;refine xX hk ?_
  by_cases hs:0<u.2.stamp
  ·rw[jb (.inl hs)]
   refine Q.r ?_;exact N.r1 RV.c (qi.trans (qi.trans (M:=gP p j mt md::gT mt ts::vi u::qD (ts.eraseIdx k)::gD md j.done::qo M::L) eG (vq hk hq)) cy) (wo.none M p j L)
  refine Q.r ?_;refine S.cr rfl (qN u.2.pa u.2.pc u.2.parts fr _ hu.p.rd hpl) ?_;rintro _ _ ⟨rfl,rfl⟩
  by_cases hc:fr∈u.2.parts
  case neg=>
   rw[jb (.inr hc),jv hc];refine Q.r ?_;exact N.r1 RV.c (qi.trans (qi.trans (M:=gP p j mt md::gT mt ts::vi u::qD (ts.eraseIdx k)::gD md j.done::qo M::L) eG (vq hk hq)) cy) (wo.none M p j L)
  rw[ja (show ¬(0<u.2.abs.stamp∨fr∉u.2.abs.parts) from λh=>h.elim hs (λh=>h hc)),jo hc]
  by_cases hco:n.code=0
  case neg=>
   rw[jb hco];refine Q.r ?_;refine Q.dgo [false,false,false,true] [1,5,7] [] [0,2,3,4,1,5,6,7] ?_;refine Q.rd ?_;refine D.e rfl rfl rfl ?_;refine S.c1 rfl (Kk u _) ?_;rintro _ _ ⟨bg,rfl,rfl⟩;refine Q.r ?_;refine Q.rd ?_;refine D.e rfl rfl rfl ?_;refine S.c2 rfl (xm u 0 n.code M _ hu) ?_;rintro _ _ ⟨a3,c3,rfl,rfl⟩;have hta:=zi u.2.abs 0 n.code;have hto:=xV (M:=M) u.2.abs 0 n.code;generalize vr u.2.abs 0 n.code=ms at hta hto ⊢;refine Q.r ?_;refine Q.rd ?_;refine Q.r ?_;refine N.r1 RV.c (qi.trans (M:=slO 82 16 (some ⟨bg,0,none⟩) 1 1 (yd u.2.txn).nv.cells::slO 176 17 a3 ms.length c3 (ms.flatMap vx)::gP p j mt md::gT mt ts::vi u::qD (ts.eraseIdx k)::gD md j.done::qo M::L) eG (qi.trans (qi.cons (qi.cons (vq hk hq))) ?_)) ⟨none,0,[],some ⟨bg,0,none⟩,1,[(yd u.2.txn).nv],a3,c3,ms,none,0,[],none,0,[],M,rfl,qU.refl M,⟨λ_ h=>(by cases h),λm hm=>by rw[ji.1 hm];exact xt.nv _,hto,λ_ h=>(by cases h),λ_ h=>(by cases h)⟩,⟨rfl,rfl,hta,rfl,rfl⟩,rfl⟩
   show qi _ (slO 82 16 none 0 0 []::slO 82 16 (some ⟨bg,0,none⟩) 1 1 (yd u.2.txn).nv.cells::slO 176 17 a3 ms.length c3 (ms.flatMap vx)::slO 82 16 none 0 0 []::slO 176 17 none 0 0 []::qE M p j::qo M::L)
   exact eG
  rw[ja (show ¬n.abs.code≠0 from λh=>h hco)];refine Q.r ?_;refine S.cr rfl (qN u.2.ya u.2.yc u.2.yes fr _ hu.y.rd hyl) ?_;rintro _ _ ⟨rfl,rfl⟩
  by_cases hd:fr∈u.2.yes
  ·rw[jb hd,jo hd]
   refine Q.r ?_;exact N.r1 RV.c (qi.trans (qi.trans (M:=gP p j mt md::gT mt ts::vi u::qD (ts.eraseIdx k)::gD md j.done::qo M::L) eG (vq hk hq)) cy) (wo.none M p j L)
  rw[ja hd,jv hd];refine Q.r ?_;refine S.cr rfl (VV u u.2.ya u.2.yes.length u.2.yc _ hyl hpl) ?_;rintro _ _ ⟨rfl,rfl⟩
  by_cases hl:u.2.yes.length+1=u.2.parts.length
  ·rw[ja (λh=>h hl),jo hl]
   refine Q.r ?_;refine vn (σ:=Nat×NV×(OM)) (λs=> [(5,.pointer (some ⟨b5,0,none⟩)),(6,.pointer (some ⟨b6,0,none⟩)),(7,W5 u),(8,.pointer (some ⟨s.1,0,none⟩))])
    (λs=>pt s.1 (cl s.2.1.cells 82)::pt b6 (cl [.slice none 0 0,.slice none 0 0,.slice none 0 0,.slice none 0 0,.slice none 0 0] 97)::vi u::qD (ts.eraseIdx k)::gP p j mt md::gT mt ts::gD md j.done::qo s.2.2::L) (λs=>qU M s.2.2∧xt s.2.2 s.2.1∧s.2.1.abs={NA.zero with kind:=17,txn:=u.2.txn,batch:=u.2.batch,stamp:=j.last+1,parts:=u.2.parts}) ?_ ?_
   ·refine Q.dgo [true,false,false,false,true] [20,22,23] [] [0,1,2,3,4,5,6,7,8,9,10,11,12,13,14,15,16,17,18,19,99999,0,0,0] ?_
    refine Q.rd ?_;refine D.y rfl rfl rfl zk (Y.add rfl rfl) ?_;rw[wrap_u64 zo zo];refine Q.rd ?_;refine D.two 20 22 [21,22,23] [20,21,23] zk rfl rfl rfl rfl zk zk ?_ ?_
    ·refine S.cr rfl (xS u.2.pa u.2.pc u.2.parts _ hu.p.rd hpl) ?_
     rintro _ _ ⟨ca,cc,rfl,rfl⟩;refine qQ ca (λM1 hl1 hs1=> ?_);refine Q.r ?_;refine Q.rd ?_;(repeat (intro b1;refine Q.rd ?_));refine N.tn ⟨(b1,⟨17,u.2.txn,u.2.batch,j.last+1,0,0,0,0,0,0,0,0,ca,cc,u.2.parts,none,0,[],none,0,[],none,0,[]⟩,M1),zt,?_,hl1,⟨hs1,⟨qH.nil0,λo ho=>by cases ho⟩,qH.nil0,qH.nil0,λo ho=>by cases ho⟩,rfl⟩
     (try dsimp only);exact eG
    ·refine GQ.a ?_
     refine Q.al (λb8=> ?_);refine Q.r ?_;refine Q.rd ?_;refine D.e rfl rfl rfl ?_;refine S.cr rfl (xS u.2.pa u.2.pc u.2.parts _ hu.p.rd hpl) ?_;rintro _ _ ⟨ca,cc,rfl,rfl⟩;refine qQ ca (λM1 hl1 hs1=> ?_);refine Q.r ?_;refine Q.rd ?_;refine N.tn ⟨(b8,⟨17,u.2.txn,u.2.batch,j.last+1,0,0,0,0,0,0,0,0,ca,cc,u.2.parts,none,0,[],none,0,[],none,0,[]⟩,M1),zt,?_,hl1,⟨hs1,⟨qH.nil0,λo ho=>by cases ho⟩,qH.nil0,qH.nil0,λo ho=>by cases ho⟩,rfl⟩
     (try dsimp only);exact eG
   ·rintro ⟨b8,cn,M1⟩ ⟨hl1,hcn,hca⟩
    dsimp only at hl1 hcn hca ⊢;refine Q.r ?_;refine Q.dgo [true,false,false,false] [1,5,7,9,11] [] [0,2,3,4,6,8,99999,0,0,0,0,0] ?_;have hca1:[cn].map NV.abs=[{NA.zero with kind:=17,txn:=u.2.txn,batch:=u.2.batch,stamp:=j.last+1,parts:=u.2.parts}]:=jj (λz=> [z]) hca;have hst:cn.stamp=j.last+1:=jj NA.stamp hca;have hta:(vr u.2.abs cn.stamp 0).map (λm:Int×NV=>(m.1,m.2.abs))=zS u.2.abs (j.last+1) 0:=by rw[hst];exact zi _ _ _
    refine Q.rd ?_;refine D.two 1 5 [5,7,9,10,11] [99999,0,0,0,0] zk rfl rfl rfl rfl zk zk ?_ ?_
    ·refine Q.r ?_;(repeat (intro b1;refine Q.r ?_))
     refine Q.rd ?_;refine D.e rfl rfl rfl ?_;refine S.c2 rfl (xm u cn.stamp 0 M1 _ (hu.mono hl1)) ?_;rintro _ _ ⟨a3,c3,rfl,rfl⟩;refine Q.r ?_;refine Q.rd ?_;refine D.e rfl rfl rfl ?_;refine S.c1 rfl (Kk u _) ?_;rintro _ _ ⟨bg,rfl,rfl⟩;refine Q.r ?_;refine Q.rd ?_;refine D.e rfl rfl rfl ?_;refine S.c2 rfl (xm u 0 8 M1 _ (hu.mono hl1)) ?_;rintro _ _ ⟨a5,c5,rfl,rfl⟩;refine Q.r ?_;refine Q.rd ?_;refine Q.r ?_;refine N.r1 RV.c (qi.trans (M:=pt b1 (cl cn.cells 82)::slO 176 17 a3 (vr u.2.abs cn.stamp 0).length c3 ((vr u.2.abs cn.stamp 0).flatMap vx)::slO 82 16 (some ⟨bg,0,none⟩) 1 1 (yd u.2.txn).nv.cells::slO 176 17 a5 (vr u.2.abs 0 8).length c5 ((vr u.2.abs 0 8).flatMap vx)::gP p j mt md::gT mt ts::vi u::qD (ts.eraseIdx k)::gD md j.done::qo M1::L) eG (qi.trans (qi.cons (qi.cons (qi.cons (qi.cons (vq hk (hq.mono hl1)))))) (qi.trans (ve (sz:=16) (m:=1) rfl) ?_))) ⟨some ⟨b1,0,none⟩,1,[cn],none,0,[],a3,c3,vr u.2.abs cn.stamp 0,some ⟨bg,0,none⟩,1,[(yd u.2.txn).nv],a5,c5,vr u.2.abs 0 8,M1,rfl,hl1,⟨λm hm=>by rw[ji.1 hm];exact hcn,λ_ h=>(by cases h),xV _ _ _,λm hm=>by rw[ji.1 hm];exact xt.nv _,xV _ _ _⟩,⟨hca1,rfl,hta,rfl,zi _ _ _⟩,rfl⟩
     show qi _ (slO 82 16 (some ⟨b1,0,none⟩) 1 1 cn.cells::slO 82 16 none 0 0 []::slO 176 17 a3 (vr u.2.abs cn.stamp 0).length c3 ((vr u.2.abs cn.stamp 0).flatMap vx)::slO 82 16 (some ⟨bg,0,none⟩) 1 1 (yd u.2.txn).nv.cells::slO 176 17 a5 (vr u.2.abs 0 8).length c5 ((vr u.2.abs 0 8).flatMap vx)::qE M1 p j::qo M1::L)
     exact eG
    ·refine S.c2 rfl (xm u cn.stamp 0 M1 _ (hu.mono hl1)) ?_
     rintro _ _ ⟨a3,c3,rfl,rfl⟩;refine Q.r ?_;refine Q.rd ?_;refine D.two 1 7 [7,9,10,11] [99999,0,0,0] zk rfl rfl rfl rfl zk zk ?_ ?_
     ·refine Q.r ?_;(repeat (intro b1;refine Q.r ?_))
      refine Q.rd ?_;refine D.e rfl rfl rfl ?_;refine S.c1 rfl (Kk u _) ?_;rintro _ _ ⟨bg,rfl,rfl⟩;refine Q.r ?_;refine Q.rd ?_;refine D.e rfl rfl rfl ?_;refine S.c2 rfl (xm u 0 8 M1 _ (hu.mono hl1)) ?_;rintro _ _ ⟨a5,c5,rfl,rfl⟩;refine Q.r ?_;refine Q.rd ?_;refine Q.r ?_;refine N.r1 RV.c (qi.trans (M:=pt b1 (cl cn.cells 82)::slO 176 17 a3 (vr u.2.abs cn.stamp 0).length c3 ((vr u.2.abs cn.stamp 0).flatMap vx)::slO 82 16 (some ⟨bg,0,none⟩) 1 1 (yd u.2.txn).nv.cells::slO 176 17 a5 (vr u.2.abs 0 8).length c5 ((vr u.2.abs 0 8).flatMap vx)::gP p j mt md::gT mt ts::vi u::qD (ts.eraseIdx k)::gD md j.done::qo M1::L) eG (qi.trans (qi.cons (qi.cons (qi.cons (qi.cons (vq hk (hq.mono hl1)))))) (qi.trans (ve (sz:=16) (m:=1) rfl) ?_))) ⟨some ⟨b1,0,none⟩,1,[cn],none,0,[],a3,c3,vr u.2.abs cn.stamp 0,some ⟨bg,0,none⟩,1,[(yd u.2.txn).nv],a5,c5,vr u.2.abs 0 8,M1,rfl,hl1,⟨λm hm=>by rw[ji.1 hm];exact hcn,λ_ h=>(by cases h),xV _ _ _,λm hm=>by rw[ji.1 hm];exact xt.nv _,xV _ _ _⟩,⟨hca1,rfl,hta,rfl,zi _ _ _⟩,rfl⟩
      show qi _ (slO 82 16 (some ⟨b1,0,none⟩) 1 1 cn.cells::slO 82 16 none 0 0 []::slO 176 17 a3 (vr u.2.abs cn.stamp 0).length c3 ((vr u.2.abs cn.stamp 0).flatMap vx)::slO 82 16 (some ⟨bg,0,none⟩) 1 1 (yd u.2.txn).nv.cells::slO 176 17 a5 (vr u.2.abs 0 8).length c5 ((vr u.2.abs 0 8).flatMap vx)::qE M1 p j::qo M1::L)
      exact eG
     ·refine S.c1 rfl (Kk u _) ?_
      rintro _ _ ⟨bg,rfl,rfl⟩;refine Q.r ?_;refine Q.rd ?_;refine D.two 1 9 [9,10,11] [1,10,11] zk rfl rfl rfl rfl zk zk ?_ ?_
      ·refine Q.r ?_;(repeat (intro b1;refine Q.r ?_))
       refine Q.rd ?_;refine D.e rfl rfl rfl ?_;refine S.c2 rfl (xm u 0 8 M1 _ (hu.mono hl1)) ?_;rintro _ _ ⟨a5,c5,rfl,rfl⟩;refine Q.r ?_;refine Q.rd ?_;refine Q.r ?_;refine N.r1 RV.c (qi.trans (M:=pt b1 (cl cn.cells 82)::slO 176 17 a3 (vr u.2.abs cn.stamp 0).length c3 ((vr u.2.abs cn.stamp 0).flatMap vx)::slO 82 16 (some ⟨bg,0,none⟩) 1 1 (yd u.2.txn).nv.cells::slO 176 17 a5 (vr u.2.abs 0 8).length c5 ((vr u.2.abs 0 8).flatMap vx)::gP p j mt md::gT mt ts::vi u::qD (ts.eraseIdx k)::gD md j.done::qo M1::L) eG (qi.trans (qi.cons (qi.cons (qi.cons (qi.cons (vq hk (hq.mono hl1)))))) (qi.trans (ve (sz:=16) (m:=1) rfl) ?_))) ⟨some ⟨b1,0,none⟩,1,[cn],none,0,[],a3,c3,vr u.2.abs cn.stamp 0,some ⟨bg,0,none⟩,1,[(yd u.2.txn).nv],a5,c5,vr u.2.abs 0 8,M1,rfl,hl1,⟨λm hm=>by rw[ji.1 hm];exact hcn,λ_ h=>(by cases h),xV _ _ _,λm hm=>by rw[ji.1 hm];exact xt.nv _,xV _ _ _⟩,⟨hca1,rfl,hta,rfl,zi _ _ _⟩,rfl⟩
       show qi _ (slO 82 16 (some ⟨b1,0,none⟩) 1 1 cn.cells::slO 82 16 none 0 0 []::slO 176 17 a3 (vr u.2.abs cn.stamp 0).length c3 ((vr u.2.abs cn.stamp 0).flatMap vx)::slO 82 16 (some ⟨bg,0,none⟩) 1 1 (yd u.2.txn).nv.cells::slO 176 17 a5 (vr u.2.abs 0 8).length c5 ((vr u.2.abs 0 8).flatMap vx)::qE M1 p j::qo M1::L)
       exact eG
      ·refine S.c2 rfl (xm u 0 8 M1 _ (hu.mono hl1)) ?_
       rintro _ _ ⟨a5,c5,rfl,rfl⟩;refine Q.r ?_;refine Q.rd ?_;(repeat (intro b1;refine Q.rd ?_));refine Q.r ?_;refine N.r1 RV.c (qi.trans (M:=pt b1 (cl cn.cells 82)::slO 176 17 a3 (vr u.2.abs cn.stamp 0).length c3 ((vr u.2.abs cn.stamp 0).flatMap vx)::slO 82 16 (some ⟨bg,0,none⟩) 1 1 (yd u.2.txn).nv.cells::slO 176 17 a5 (vr u.2.abs 0 8).length c5 ((vr u.2.abs 0 8).flatMap vx)::gP p j mt md::gT mt ts::vi u::qD (ts.eraseIdx k)::gD md j.done::qo M1::L) eG (qi.trans (qi.cons (qi.cons (qi.cons (qi.cons (vq hk (hq.mono hl1)))))) (qi.trans (ve (sz:=16) (m:=1) rfl) ?_))) ⟨some ⟨b1,0,none⟩,1,[cn],none,0,[],a3,c3,vr u.2.abs cn.stamp 0,some ⟨bg,0,none⟩,1,[(yd u.2.txn).nv],a5,c5,vr u.2.abs 0 8,M1,rfl,hl1,⟨λm hm=>by rw[ji.1 hm];exact hcn,λ_ h=>(by cases h),xV _ _ _,λm hm=>by rw[ji.1 hm];exact xt.nv _,xV _ _ _⟩,⟨hca1,rfl,hta,rfl,zi _ _ _⟩,rfl⟩
       show qi _ (slO 82 16 (some ⟨b1,0,none⟩) 1 1 cn.cells::slO 82 16 none 0 0 []::slO 176 17 a3 (vr u.2.abs cn.stamp 0).length c3 ((vr u.2.abs cn.stamp 0).flatMap vx)::slO 82 16 (some ⟨bg,0,none⟩) 1 1 (yd u.2.txn).nv.cells::slO 176 17 a5 (vr u.2.abs 0 8).length c5 ((vr u.2.abs 0 8).flatMap vx)::qE M1 p j::qo M1::L)
       exact eG
  ·rw[jb hl,jv hl]
   refine Q.r ?_;(repeat (intro b1;refine Q.r ?_));refine N.r1 RV.c (qi.trans (M:=pt b1 (cl (NA.nv {NA.zero with kind:=20,txn:=n.txn,who:=fr}).cells 82)::gP p j mt md::gT mt ts::vi u::qD (ts.eraseIdx k)::gD md j.done::qo M::L) eG (qi.trans (qi.cons (vq hk hq)) (qi.trans (ve (sz:=16) (m:=1) rfl) ?_))) ⟨none,0,[],some ⟨b1,0,none⟩,1,[NA.nv {NA.zero with kind:=20,txn:=n.txn,who:=fr}],none,0,[],none,0,[],none,0,[],M,rfl,qU.refl M,⟨λ_ h=>(by cases h),λm hm=>by rw[ji.1 hm];exact xt.nv _,λ_ h=>(by cases h),λ_ h=>(by cases h),λ_ h=>(by cases h)⟩,⟨rfl,rfl,rfl,rfl,rfl⟩,rfl⟩
   show qi _ (slO 82 16 none 0 0 []::slO 82 16 (some ⟨b1,0,none⟩) 1 1 (NA.nv {NA.zero with kind:=20,txn:=n.txn,who:=fr}).cells::slO 176 17 none 0 0 []::slO 82 16 none 0 0 []::slO 176 17 none 0 0 []::qE M p j::qo M::L)
   exact eG
end Go.Proofs.YtlnfjhiphlfkjaaGreatDoor
namespace Go.Proofs.YtlnfjhiphlfkjaaGreatDoor
open Go Go.SX
theorem X5 {l m:List Int}(h:l.Nodup)(hs:∀x∈l,x∈m):l.length≤m.length:=by
 induction l generalizing m with
 |nil=>exact jw _
 |cons a l ih=>
  have h2:=List.nodup_cons.1 h;have hm:=hs a (kg ..);have:=ih (m:=m.erase a) h2.2 (λx hx=>(List.mem_erase_of_ne (by rintro rfl;exact h2.1 hx)).2 (hs x (jV _ hx)));rw[List.length_erase_of_mem hm] at this;have:=List.length_pos_of_mem hm;rw[jC];omega
structure jCu (j:JG)(Y:Int→Int→Prop)(D:List (Int×Int))(x:Int)(t:TR):Prop where
 xx:t.txn=x
 x1:1≤x
 x2:x≤j.seq
 r:zI t.parts
 pb:∀q∈t.parts,1≤q∧q≤3
 yn:t.yes.Nodup
 ys:∀q∈t.yes,q∈t.parts∧Y x q
 st:0≤t.stamp
 d:t.stamp=0→qJ D x=none
 b:t.stamp=0→qJ j.done t.batch=none
structure GI (j:JG)(k:Nat)(Y:Int→Int→Prop)(D:List (Int×Int)):Prop where
 e:j.epoch=0
 sh:j.shards=3
 s0:0≤j.seq
 s1:j.seq≤k
 l0:0≤j.last
 l1:j.last≤k
 kt:qn j.tr
 kd:qn j.done
 kD:qn D
 tx:∀x t,qJ j.tr x=some t→jCu j Y D x t
 dd:∀t s,qJ D t=some s→t≤j.seq∧s≠0
 dp:∀t s,qJ j.done t=some s→s≠0
 b1:∀x t y u,qJ j.tr x=some t→qJ j.tr y=some u→t.stamp=0→u.stamp=0→t.batch=u.batch→x=y
theorem jCu.to {j j':JG}{Y Y':Int→Int→Prop}{D:List (Int×Int)}{x:Int}{t:TR}(h:jCu j Y D x t)(hs:j.seq≤j'.seq)(hd:j'.done=j.done)(hY:∀x q,Y x q→Y' x q):jCu j' Y' D x t:=
 ⟨h.xx,h.x1,by have:=h.x2;omega,h.r,h.pb,h.yn,λq hq=>⟨(h.ys q hq).1,hY _ _ (h.ys q hq).2⟩,h.st,h.d,by rw[hd];exact h.b⟩
theorem GI.put {j:JG}{k:Nat}{Y:Int→Int→Prop}{D:List (Int×Int)}(h:GI j k Y D){x:Int}{t t':TR}(ht:qJ j.tr x=some t)(h':jCu j Y D x t')(hb:t'.batch=t.batch)(hs:t'.stamp=t.stamp):GI {j with tr:=qZ j.tr x t'} k Y D:=by
 have hl:∀y u,qJ (qZ j.tr x t') y=some u→(y=x∧u=t')∨(y≠x∧qJ j.tr y=some u):=by
  intro y u hu;rw[Ka h.kt] at hu
  by_cases hy:y=x
  ·rw[jb hy] at hu;exact .inl ⟨hy,by injection hu with hu;exact hu.symm⟩
  ·rw[ja hy] at hu;exact .inr ⟨hy,hu⟩
 refine ⟨h.e,h.sh,h.s0,h.s1,h.l0,h.l1,vL h.kt _ _,h.kd,h.kD,λy u hu=> ?_,h.dd,h.dp,λy u z v hu hv e1 e2 e3=> ?_⟩
 ·rcases hl y u hu with ⟨rfl,rfl⟩|⟨_,hu⟩
  ·exact h'.to (ki _) rfl λ_ _ h=>h
  ·exact (h.tx y u hu).to (ki _) rfl λ_ _ h=>h
 ·rcases hl y u hu with ⟨rfl,rfl⟩|⟨_,hu'⟩<;>rcases hl z v hv with ⟨rfl,rfl⟩|⟨_,hv'⟩
  ·rfl
  ·exact h.b1 _ _ _ _ ht hv' zo e2 (by rw[←hb];exact e3)
  ·exact h.b1 _ _ _ _ hu' ht e1 zo (by rw[←hb];exact e3)
  ·exact h.b1 _ _ _ _ hu' hv' e1 e2 e3
theorem lR {n:NA}(h:qu n=true):n.ops.any yi=false∧n.ops.length≤16:=by
 unfold qu wQ at h;simp only[jF,kL,Bool.or_eq_false_iff,j5] at h;exact ⟨h.2.1.2,by omega⟩
def MO (n:NA)(D:List (Int×Int))(ms:List (Int×NA)):Prop:=∀m∈ms,m.2.kind=5→n.kind=7∨qJ D m.2.txn=none
theorem MO.nil {n:NA}{D:List (Int×Int)}:MO n D []:=λ_ h=>by cases h
structure NZ (r:NA):Prop where
 t0:0≤r.txn
 t1:r.txn<18446744073709551616
 s:0≤r.stamp
 m:0≤r.mark
 a:0≤r.after
inductive jH7 (j:JG)(k:Nat)(Y:Int→Int→Prop)(D:List (Int×Int))(n:NA)(pl:PG):Prop
 |a (h1:pl.rec_=[]) (h2:pl.notes=[]) (h3:MO n D pl.mail) (h4:GI j (k+1) Y D)
 |b (r:NA) (hz:NZ r) (h1:pl.rec_=[]) (h2:pl.notes=[r]) (h3:MO n D pl.mail) (hr:r.kind=19∨r.kind=20∨r.kind=21∨r.kind=22) (h4:vm j r=0) (h5:r.kind=22→qJ D r.txn=none) (h6:GI (vC j r) (k+1) Y D) (h7:(vC j r).done=j.done) (h8:(vC j r).last=j.last)
 |c (r:NA) (hz:NZ r) (h1:pl.rec_=[r]) (h2:pl.notes=[]) (h3:pl.mail=[]) (hr:r.kind=18) (h4:vm j r=0) (h6:GI (vC j r) (k+1) Y D) (h7:(vC j r).done=j.done) (h8:(vC j r).last=j.last)
 |d (r:NA) (hz:NZ r) (h1:pl.rec_=[r]) (h2:pl.notes=[]) (hr:r.kind=17) (h3:∀m∈pl.mail,m.2.kind=5→m.2.txn=r.txn∧m.2.stamp=r.stamp∧m.2.code=0) (h4:vm j r=0) (h5:qJ D r.txn=none) (h6:r.stamp=j.last+1) (h7:qJ j.done r.batch=none)
   (h8:∀q∈r.parts,Y r.txn q) (h9:GI (vC j r) (k+1) Y (qZ D r.txn r.stamp)) (ha:(vC j r).done=qZ j.done r.batch r.stamp) (hb:(vC j r).last=r.stamp)
attribute [local irreducible] swp qq qM qL vX qh St qi qk vu qG
theorem qW.own {L:HL}{t sz m c:Nat}{a:OA}{cs:List Value}{L':HP→HL}[h:Kv a L t sz m c cs L'](ha:m=0∨∃b,a=some ⟨b,0,none⟩)(hl:cs.length=m*sz):qW L a m sz cs:=by
 refine ⟨hl,ha.imp id ?_⟩;rintro ⟨b,rfl⟩;obtain ⟨R,p1,_⟩:=h.at_;exact ⟨b,0,rfl,vg.slO (t:=t) (sz:=sz) (m:=m) (c:=c) ⟨R,qi.perm p1⟩⟩
def W9 (s:Int)(ids:List Int):List Int:=ids.foldl (λl o=>if wd s o∈l then l else l++[wd s o]) []
theorem sJ (s:Int)(ids:List Int)(o:Int):W9 s (ids++[o])=if wd s o∈W9 s ids then W9 s ids else W9 s ids++[wd s o]:=by
 unfold W9;rw[List.foldl_append];rfl
theorem jDB {s:Int}(h1:1≤s)(ids:List Int):(W9 s ids).Nodup∧∀x∈W9 s ids,1≤x∧x≤s:=by
 have key:∀(ids l:List Int),(l.Nodup∧∀x∈l,1≤x∧x≤s)→(ids.foldl (λl o=>if wd s o∈l then l else l++[wd s o]) l).Nodup∧∀x∈ids.foldl (λl o=>if wd s o∈l then l else l++[wd s o]) l,1≤x∧x≤s:=by
  intro ids
  induction ids with
  |nil=>exact λl h=>h
  |cons o ids ih=>
   intro l h;rw[List.foldl_cons];refine ih _ ?_
   split
   ·exact h
   ·rename_i hm
    refine ⟨List.nodup_append.2 ⟨h.1,by simp,λx hx y hy=>by rw[ji] at hy;subst hy;rintro rfl;exact hm hx⟩,λx hx=> ?_⟩
    rcases jy.1 hx with hx|hx
    ·exact h.2 x hx
    ·rw[ji] at hx;subst hx
     have:=Xp h1 o;unfold wd;omega
 exact key ids [] ⟨List.nodup_nil,λ_ h=>by cases h⟩
theorem rG (l:List Int)(n:Int):(yI l n).Perm (n::l):=by
 unfold yI;refine List.perm_middle.trans (List.Perm.cons _ ?_);rw[List.takeWhile_append_dropWhile]
theorem lW {s:Int}(h1:1≤s)(ops:VL):vo (W9 s (ops.map (·.1)))=xM s ops:=by
 have key:∀(ops:VL) (l l':List Int),l'.Perm l→(ops.foldl (λl o=>if wd s o.1∈l then l else yI l (wd s o.1)) l').Perm ((ops.map (·.1)).foldl (λl o=>if wd s o∈l then l else l++[wd s o]) l):=by
  intro ops
  induction ops with
  |nil=>exact λl l' h=>h
  |cons o ops ih=>
   intro l l' h;rw[jL,List.foldl_cons,List.foldl_cons];refine ih _ _ ?_
   by_cases hm:wd s o.1∈l
   ·rw[jb hm,jb (h.mem_iff.2 hm)];exact h
   ·rw[ja hm,ja (λx=>hm (h.mem_iff.1 x))]
    exact (rG _ _).trans ((h.cons _).trans (List.perm_append_singleton _ _).symm)
 refine xP ((vK _).trans (key ops [] [] (List.Perm.refl _)).symm) (wJ _) ?_;exact (Qi h1 ops).1.imp λh=>Int.le_of_lt h
theorem jBY {s:Int}(h1:1≤s)(h2:s≤4)(ids:List Int):(W9 s ids).length≤4:=by
 have h := jDB h1 ids;have := X5 (l := W9 s ids) (m := [1,2,3,4]) h.1 (fun x hx => by
  have:=h.2 x hx;have:x=1∨x=2∨x=3∨x=4:=by omega
  simpa using this)
 simpa using this
theorem gN (p:Nat)(j:JG)(mt md:Nat)(a:OA)(c:Nat)(ops:List OV)(A:HL)(h:qW A a ops.length 2 (ops.flatMap OV.cells))(hn:ops.length≤1000000)(s1:1≤j.shards)(s2:j.shards≤4):
  qh kY 172 [vI p,.slice a ops.length c] (gP p j mt md::A) (λr L'=>∃a' c',r=.slice a' (xM j.shards (ops.map OV.abs)).length c'∧L'=slO 3 1 a' (xM j.shards (ops.map OV.abs)).length c' ((xM j.shards (ops.map OV.abs)).map I64)::gP p j mt md::A):=by
 refine qg Tryz.func172 rfl rfl rfl ?_;refine Q.r ?_;refine ql (σ:=Nat×OA×Nat×List Int) (λs=> [(0,vI p),(9,.slice a ops.length c),(10,.int .i64 ops.length),(5,.slice s.2.1 s.2.2.2.length s.2.2.1),(11,.int .i64 s.1)])
  (λs=>slO 3 1 s.2.1 s.2.2.2.length s.2.2.1 (s.2.2.2.map I64)::gP p j mt md::A)
  (λs=>s.1≤ops.length∧s.2.2.2=W9 j.shards ((ops.take s.1).map (·.id))) (λs=>ops.length - s.1) (0,none,0,[]) zt vh ⟨by omega,rfl⟩ ?_
 rintro ⟨k,a3,c3,us⟩ ⟨hk,hus⟩;dsimp only at hk hus ⊢;have hul:us.length≤4:=by rw[hus];exact jBY s1 s2 _
 by_cases hlt:k<ops.length
 ·obtain ⟨o,ho⟩:=qw hlt
  obtain ⟨b,oo,hia,hr⟩:=qW.elem (g:=OV.cells) (λ_=>rfl) (h.sub (L:=slO 3 1 a3 us.length c3 (us.map I64)::gP p j mt md::A)) ho rfl;rw[hia];refine Q.r ?_;(repeat (intro b1;refine Q.r ?_));refine S.c1 (A:=gP p j mt md) rfl (YN p j mt md o.id _ s1 s2) ?_;rintro _ _ ⟨rfl,rfl⟩;refine qX a3 (λha3=> ?_);refine Q.r ?_;refine S.cr rfl (qN a3 c3 us (wd j.shards o.id) _ (qW.own ha3 (by rw[jf,jX])) zo) ?_;rintro _ _ ⟨rfl,rfl⟩;have hnext:W9 j.shards ((ops.take (k+1)).map (·.id))=if wd j.shards o.id∈us then us else us++[wd j.shards o.id]:=by
   rw[qz ho,jq,jL,kC,sJ,←hus]
  by_cases hm:wd j.shards o.id∈us
  ·rw[jo hm]
   rw[jb hm] at hnext;refine Q.r ?_;refine ⟨(k+1,a3,c3,us),zt,by exact eG,⟨by dsimp only;omega,hnext.symm⟩,by dsimp only;omega⟩
  ·rw[jv hm]
   rw[ja hm] at hnext;refine Q.r ?_;(repeat (intro b1;refine Q.r ?_));refine S.app rfl rfl (vA.sl vg.row zr zr) zr zo zo (λa7 c7=> ?_);refine Q.r ?_;refine ⟨(k+1,a7,c7,us++[wd j.shards o.id]),⟨rfl,rfl,rfl,jj some (by simp),rfl,trivial⟩,?_,⟨by dsimp only;omega,hnext.symm⟩,by dsimp only;omega⟩;dsimp only;rw[jc,kT,jq,jL,kC];exact eG
 ·have hke:k=ops.length:=by omega
  subst hke;rw[jI] at hus;refine Q.r ?_;refine S.c1 (A:=slO 3 1 a3 us.length c3 (us.map I64)) rfl (mT a3 us.length c3 us _ rfl zo) ?_;rintro _ _ ⟨rfl,rfl⟩;have hx:xM j.shards (ops.map OV.abs)=vo us:=by
   rw[hus,←lW s1,kE];rfl
  rw[hx,wW];refine Q.r ?_;exact N.t rfl (kZ _) ⟨a3,c3,rfl,rfl⟩
theorem QQ (p:Nat)(j:JG)(mt md:Nat)(t:Nat×TV)(q:Int)(M:OM)(L:HL)(ht:ZE M t.2)(s1:1≤j.shards)(s2:j.shards≤4):
  qh kY 117 [vI p,W5 t,.int .i64 q] (gP p j mt md::vi t::qo M::L) (λr L'=>∃(m:NV) (M':OM),r=.agg (vx (q,m)).toArray∧qU M M'∧xt M' m∧(q,m.abs)=fm j.shards t.2.abs q∧L'=gP p j mt md::vi t::qo M'::L):=by
 refine qg Tryz.func117 rfl rfl rfl ?_;have hol:=ht.ol;have hpl:=ht.pl;refine Q.r ?_;(repeat (intro b1;refine Q.r ?_));revert b1;intro b6;refine ql (σ:=Nat×OA×Nat×List OV) (λs=> [(0,vI p),(1,W5 t),(2,.int .i64 q),(6,.pointer (some ⟨b6,0,none⟩)),(13,.slice t.2.oa t.2.ops.length t.2.oc),(14,.int .i64 t.2.ops.length),(7,.slice s.2.1 s.2.2.2.length s.2.2.1),(15,.int .i64 s.1)])
  (λs=>slO 38 2 s.2.1 s.2.2.2.length s.2.2.1 (s.2.2.2.flatMap OV.cells)::pt b6 (cl (vx (0,NA.zero.nv)) 176)::gP p j mt md::vi t::qo M::L)
  (λs=>s.1≤t.2.ops.length∧s.2.2.2=(t.2.ops.take s.1).filter λo=>decide (wd j.shards o.id=q)) (λs=>t.2.ops.length - s.1) (0,none,0,[]) zt vh ⟨by omega,rfl⟩ ?_
 rintro ⟨k,a3,c3,us⟩ ⟨hk,hus⟩;dsimp only at hk hus ⊢;have hul:us.length≤t.2.ops.length:=by
  rw[hus];exact ke (kw _ _) (by rw[jP];omega)
 by_cases hlt:k<t.2.ops.length
 ·obtain ⟨o,ho⟩:=qw hlt
  obtain ⟨b,oo,hia,cr⟩:=qH.cm (g:=OV.cells) (λ_=>rfl) ht.o ho rfl;rw[hia];refine Q.r ?_;(repeat (intro b1;refine Q.r ?_));refine S.c1 (A:=gP p j mt md) rfl (YN p j mt md o.id _ s1 s2) ?_;rintro _ _ ⟨rfl,rfl⟩;have hnext:(t.2.ops.take (k+1)).filter (λo=>decide (wd j.shards o.id=q))=us++if wd j.shards o.id=q then [o] else []:=by
   rw[qz ho,jU,←hus,kI,List.filter_nil]
   by_cases hm:wd j.shards o.id=q
   ·rw[jo hm,jb hm];rfl
   ·rw[jv hm,ja hm];rfl
  by_cases hm:wd j.shards o.id=q
  ·rw[jb hm] at hnext
   refine Q.r ?_;(repeat (intro b1;refine Q.r ?_));refine S.app rfl rfl (vA.sl vg.row zr zr) zr zo zo (λa7 c7=> ?_);refine Q.r ?_;refine ⟨(k+1,a7,c7,us++[o]),⟨rfl,rfl,rfl,rfl,rfl,rfl,jj some (by simp),rfl,trivial⟩,?_,⟨by dsimp only;omega,hnext.symm⟩,by dsimp only;omega⟩;dsimp only;rw[qF,vE];exact eG
  ·rw[ja hm,jG] at hnext
   refine Q.r ?_;refine ⟨(k+1,a3,c3,us),zt,by exact eG,⟨by dsimp only;omega,hnext.symm⟩,by dsimp only;omega⟩
 ·have hke:k=t.2.ops.length:=by omega
  subst hke;rw[jI] at hus;refine Q.r ?_;refine wm a3 (λM1 hl1 hs1=> ?_);have ht1:=ht.mono hl1;refine Q.dgo [false,false,false,true] [16,20] [] [0,1,2,3,4,5,6,7,8,9,10,11,12,13,14,15,17,16,18,19,20] ?_;refine Q.rd ?_;refine D.e rfl rfl rfl ?_;refine S.cr rfl (xS t.2.pa t.2.pc t.2.parts _ ht1.p.rd hpl) ?_;rintro _ _ ⟨ca,cc,rfl,rfl⟩;refine qQ ca (λM2 hl2 hs2=> ?_);refine Q.r ?_;refine Q.rd ?_;refine Q.r ?_;refine N.r1 RV.c ?_ ⟨⟨3,t.2.txn,0,0,t.2.after,0,0,0,0,0,0,0,ca,cc,t.2.parts,a3,c3,us,none,0,[],none,0,[]⟩,M2,rfl,hl1.trans hl2,⟨hs2,⟨hs1.mono hl2,λo ho=> ?_⟩,qH.nil0,qH.nil0,λo ho=>by cases ho⟩,?_,rfl⟩
  ·exact eG
  ·rw[hus] at ho
   exact (ht1.mono hl2).ov o (jB.1 ho).1
  ·rw[hus]
   show (q,_)=(q,_)
   refine jj (Prod.mk q) ?_
   show NA.mk _ _ _ _ _ _ _ _ _ _ _ _ _ _ _ _=NA.mk _ _ _ _ _ _ _ _ _ _ _ _ _ _ _ _
   rw[List.filter_map];rfl
structure JB (j:JG):Prop where
 e0:0≤j.epoch
 e1:j.epoch≤1099511627776
 s0:0≤j.seq
 s1:j.seq<1048576
 l0:0≤j.last
 l1:j.last≤1099511627776
 d1:1≤j.dim
 d2:j.dim≤8
abbrev eP :HP:=slO 82 16 none 0 0 []
abbrev sV (j:JG)(fr:Int)(n:NV)(pa:OA)(pc:Nat):TV:=⟨j.epoch*1048576+j.seq+1,n.batch,0,j.last,fr,pa,pc,xM j.shards (n.ops.map OV.abs),none,0,[],none,0,[],n.oa,n.oc,n.ops⟩
abbrev jCk (j:JG)(fr:Int)(n:NV)(pa:OA)(pc:Nat):NV:=⟨19,j.epoch*1048576+j.seq+1,n.batch,0,j.last,0,0,0,0,0,0,fr,pa,pc,xM j.shards (n.ops.map OV.abs),n.oa,n.oc,n.ops,none,0,[],none,0,[]⟩
abbrev eMl :HP:=slO 176 17 none 0 0 []
theorem cL (M:OM)(p:Nat)(j:JG)(L:HL)(m:Int×NA)(hm:m.2.nv.abs=m.2)(b:Nat):wo M p j ⟨[],[],[m],[],[]⟩ L (.agg #[.slice none 0 0,.slice none 0 0,.slice (some ⟨b,0,none⟩) 1 1,.slice none 0 0,.slice none 0 0])
  (eP::eP::slO 176 17 (some ⟨b,0,none⟩) 1 1 (y8 m)::eP::eMl::qE M p j::qo M::L):=
 ⟨none,0,[],none,0,[],some ⟨b,0,none⟩,1,[(m.1,m.2.nv)],none,0,[],none,0,[],M,rfl,qU.refl M,⟨λ_ h=>(by cases h),λ_ h=>(by cases h),λm hm=>(by rw[ji.1 hm];exact xt.nv _),λ_ h=>(by cases h),λ_ h=>(by cases h)⟩,⟨rfl,rfl,jj (λz=> [(m.1,z)]) hm,rfl,rfl⟩,by simp⟩
theorem mr {M:OM}{p mt md b:Nat}{j:JG}{ts:List TB}{L:HL}{m:Int×NA}(hq:QR M j ts):qi (pt b (cl (y8 m) 176)::gP p j mt md::gT mt ts::qD ts::gD md j.done::qo M::L) (eP::eP::slO 176 17 (some ⟨b,0,none⟩) 1 1 (y8 m)::eP::eMl::qE M p j::qo M::L):=by
 refine qi.trans (qi.cons (qR hq)) (qi.trans (ve (sz:=17) (m:=1) rfl) ?_);exact eG
theorem tL (n:NV)(M:OM)(p:Nat)(j:JG)(fr:Int)(L:HL)(hb:JB j)(hn:xt M n)(hN:OkN n):
  qh kY 99 [vI p,.int .i64 fr,n.val] (qE M p j::qo M::L) (wo M p j (jFt j fr n.abs) L):=by
 unfold jFt;refine wC λmt md ts hq=> ?_
 refine qg Tryz.func99 rfl rfl rfl ?_;refine Q.r ?_;(repeat (intro b1;refine Q.r ?_));rename_i b5;revert b1;intro b6;refine Q.dgo [true,true,true,true,true,true,true] [] [] [0,1,2,3,4,5,6,7,8,9,10,11] ?_;refine Q.rd ?_;refine D.y rfl rfl rfl zk (Y.lk true rfl rfl (λw=>Tryz.zeroValue31 w)) ?_
 cases hz:qJ j.done n.batch with
 |some s=>
  dsimp only;refine Q.rd ?_;refine Q.r ?_;refine S.cr rfl (Jf fr n.batch s 0 _) ?_;rintro _ _ ⟨rfl,rfl⟩;refine Q.r ?_;(repeat (intro b1;refine Q.r ?_));refine N.r1 RV.c (qi.trans (M:=pt b1 (cl (y8 (Y2 fr n.batch s 0)) 176)::gP p j mt md::gT mt ts::qD ts::gD md j.done::qo M::L) eG (mr hq)) (cL M p j L (Y2 fr n.batch s 0) rfl b1)
 |none=>
  dsimp only;refine Q.rd ?_;refine Q.r ?_;refine S.rg rfl (λr=> ?_);refine Q.r ?_;refine qx (σ:=Unit) (λ_=> [(0,vI p),(1,.int .i64 fr),(5,.pointer (some ⟨b5,0,none⟩)),(6,.pointer (some ⟨b6,0,none⟩))])
   (λ_=>pt b6 (cl [.slice none 0 0,.slice none 0 0,.slice none 0 0,.slice none 0 0,.slice none 0 0] 97)::pt b5 (cl n.cells 82)::gP p j mt md::gT mt ts::qD ts::gD md j.done::qo M::L) (λ_=>¬j.tr.any (λu=>decide (u.2.batch=n.batch))=true) ?_ ?_
  ·refine ql (σ:=List Nat) (λ_=> [(0,vI p),(1,.int .i64 fr),(5,.pointer (some ⟨b5,0,none⟩)),(6,.pointer (some ⟨b6,0,none⟩)),(38,.pointer (some ⟨r,0,none⟩))])
    (λvis=>ZO U64 W5 mt r ts vis::pt b6 (cl [.slice none 0 0,.slice none 0 0,.slice none 0 0,.slice none 0 0,.slice none 0 0] 97)::pt b5 (cl n.cells 82)::gP p j mt md::qD ts::gD md j.done::qo M::L)
    (λvis=>vis.Nodup∧(∀i∈vis,i<ts.length)∧∀i∈vis,∀u:TB,ts[i]? =some u→u.2.2.batch≠n.batch) (λvis=>ts.length - vis.length) [] zt eG ⟨by simp,by simp,by simp⟩ ?_
   rintro vis ⟨hv1,hv2,hv3⟩;refine Q.r ?_;refine S.nx rfl (λhend=> ?_) (λi u hu hi=> ?_)
   ·refine Q.r ?_
    refine ⟨(),zt,qi.trans Qn eG,?_⟩;rw[ku];rintro ⟨w,hw,hwb⟩;rw[←hq.tr] at hw;obtain ⟨u,hu,rfl⟩:=jM.1 hw;obtain ⟨i,hi⟩:=List.mem_iff_getElem?.1 hu;exact hv3 i (hend i (jm.1 hi).1) u hi (by simpa using hwb)
   ·obtain ⟨m1,m2,m3⟩:=Kz hv1 hv2 (jm.1 hu).1 hi
    refine Q.r ?_;refine S.y (Y.en rfl hu) ?_;refine Q.r ?_;refine Qe hu ?_
    by_cases hbb:u.2.2.batch=n.batch
    ·have hany:j.tr.any (λu=>decide (u.2.batch=n.abs.batch))=true:=by
      rw[ku,←hq.tr];exact ⟨_,jM.2 ⟨u,jn hu,rfl⟩,by simpa using hbb⟩
     refine Q.dgo [true,true,true,true,true] [] [] [0,1,2,3,4,5,6,7] ?_;refine Q.rd ?_;refine Q.r ?_;rw[jb hany];refine N.r1 RV.c (qi.trans (M:=ZO U64 W5 mt r ts (vis++[i])::gP p j mt md::vi u.2::qD (ts.eraseIdx i)::gD md j.done::qo M::L) eG (qi.trans Qn (qi.trans (qi.trans (M:=gP p j mt md::gT mt ts::vi u.2::qD (ts.eraseIdx i)::gD md j.done::qo M::L) eG (vq hu hq)) cy))) (wo.none M p j L)
    ·refine Q.dgo [true,true,true,true,true] [] [] [0,1,2,3,4,5,6,7] ?_
     refine Q.rd ?_;refine Q.r ?_;refine ⟨vis++[i],zt,qi.trans (zn hu) eG,⟨m1,m2,λk hk w hw=> ?_⟩,by simp;omega⟩
     rcases jy.1 hk with hk|hk
     ·exact hv3 k hk w hw
     ·rw[ji] at hk;subst hk
      rw[hu] at hw;injection hw with hw;subst hw;exact hbb
  ·rintro _ hany
   rw[ja hany];have hb1:=hb.d1;have hb2:=hb.d2;have hlt:j.tr.length=ts.length:=by rw[←hq.tr,jf]
   have e0:=hb.e0;have e1:=hb.e1;have q0:=hb.s0;have q1:=hb.s1;have l0:=hb.l0;have l1:=hb.l1;refine Q.r ?_;refine Q.dgo [false,true,true] [6] [] [0,1,2,3,4,5,6,7] ?_;refine Q.rd ?_;refine D.e rfl rfl rfl ?_;refine S.cr rfl (nE j.dim n.oa n.oc n.ops _ hn.rd.o hN.o hN.ov zo) ?_;rintro _ _ ⟨rfl,rfl⟩;refine Q.r ?_;refine Q.rd ?_
   by_cases hc:v7 j.dim (n.ops.map OV.abs)=0
   ·by_cases hf:8≤j.tr.length∨1048575≤j.seq∨1099511627776≤j.last
    ·have hE:gh j n.abs=8:=by
      unfold gh;rw[ja (λh=>h hc),jb hf]
     rw[jb (by rw[hE];decide),hE,hc];rw[hlt] at hf;refine N.tn ?_;refine wl ?_;refine vn (σ:=Unit) (λ_=> [(0,vI p),(1,.int .i64 fr),(5,.pointer (some ⟨b5,0,none⟩)),(6,.pointer (some ⟨b6,0,none⟩)),(11,.int .i64 8)])
      (λ_=>pt b6 (cl [.slice none 0 0,.slice none 0 0,.slice none 0 0,.slice none 0 0,.slice none 0 0] 97)::pt b5 (cl n.cells 82)::gP p j mt md::gT mt ts::qD ts::gD md j.done::qo M::L) (λ_=>True) ?_ ?_
     ·by_cases h8:8≤ts.length
      ·refine Q.r ?_
       exact ⟨(),zt,by exact eG,trivial⟩
      by_cases h9:1048575≤j.seq
      ·refine Q.r ?_
       exact ⟨(),zt,by exact eG,trivial⟩
      have h10:1099511627776≤j.last:=by omega
      refine Q.r ?_;exact ⟨(),zt,by exact eG,trivial⟩
     ·rintro _ _
      refine Q.r ?_;refine S.cr rfl (Jf fr n.batch 0 8 _) ?_;rintro _ _ ⟨rfl,rfl⟩;refine Q.r ?_;(repeat (intro b1;refine Q.r ?_));refine N.r1 RV.c (qi.trans (M:=pt b1 (cl (y8 (Y2 fr n.batch 0 8)) 176)::gP p j mt md::gT mt ts::qD ts::gD md j.done::qo M::L) eG (mr hq)) (cL M p j L (Y2 fr n.batch 0 8) rfl b1)
    ·have hE:gh j n.abs=0:=by
      unfold gh;rw[ja (λh=>h hc),ja hf]
     rw[ja (λh=>h hE),hc];rw[hlt] at hf;have h8:¬8≤ts.length:=λh=>hf (.inl h)
     have h9:¬1048575≤j.seq:=λh=>hf (.inr (.inl h))
     have h10:¬1099511627776≤j.last:=λh=>hf (.inr (.inr h))
     have wz:∀a:Int,0≤a→a<18446744073709551616→IntKind.u64.wrap a=a:=λa h1 h2=>wrap_u64 h1 zo
     refine Q.r ?_;refine vn (σ:=Nat×OA×Nat×(OM)) (λs=> [(0,vI p),(6,.pointer (some ⟨b6,0,none⟩)),(12,.pointer (some ⟨s.1,0,none⟩))])
      (λs=>vi (s.1,sV j fr n s.2.1 s.2.2.1)::pt b6 (cl [.slice none 0 0,.slice none 0 0,.slice none 0 0,.slice none 0 0,.slice none 0 0] 97)::gP p j mt md::gT mt ts::qD ts::gD md j.done::qo s.2.2.2::L)
      (λs=>qU M s.2.2.2∧qH s.2.2.2 s.2.1 (xM j.shards (n.ops.map OV.abs)).length 1 ((xM j.shards (n.ops.map OV.abs)).map I64)) ?_ ?_
     ·refine Q.dgo [true,true] [21,26] [] [0,1,2,3,4,5,6,7,8,9,10,11,12,13,14,15,16,17,18,19,20,23,24,21,22,25,26,27] ?_
      refine Q.rd ?_;refine D.y rfl rfl rfl zk (Y.shlI (b:=20) rfl rfl zd) ?_;rw[show j.epoch*2^20=j.epoch*1048576 by omega,wz _ zo zo];refine Q.rd ?_;refine D.y rfl rfl rfl zk (Y.add rfl rfl) ?_;rw[wz _ zo zo];refine Q.rd ?_;refine D.y rfl rfl rfl zk (Y.add rfl rfl) ?_;rw[wz _ zo zo];refine Q.rd ?_;refine D.ea rfl rfl rfl ?_;refine S.c1 (A:=gP p j mt md) rfl (gN p j mt md n.oa n.oc n.ops _ (by exact hn.rd.o.1) hN.o hq.s1 hq.s2) ?_;rintro _ _ ⟨pa,pc,rfl,rfl⟩;refine qQ pa (λM1 hl1 hs1=> ?_);refine qO ?_;refine N.tn ?_;refine D.back ?_;refine Q.rd ?_;(repeat (intro b1;refine Q.rd ?_));refine N.tn ⟨(b1,pa,pc,M1),zt,?_,hl1,hs1⟩
      (try dsimp only);exact eG
     ·rintro ⟨bt,pa,pc,M1⟩ ⟨hl1,hs1⟩
      dsimp only at hl1 hs1 ⊢;have ht1:ZE M1 (sV j fr n pa pc):=⟨hs1,qH.nil0,qH.nil0,(hn.mono hl1).o.1,(hn.mono hl1).o.2,by have:=ff (Qi hq.s1 (n.ops.map OV.abs)).1 (Qi hq.s1 (n.ops.map OV.abs)).2 (by have:=hq.s1;omega);have:=hq.s2;show (xM j.shards (n.ops.map OV.abs)).length≤_;omega,jw _,jw _,hN.o⟩;refine Q.r ?_;refine vn (σ:=Nat×Nat) (λs=> [(0,vI p),(6,.pointer (some ⟨b6,0,none⟩)),(12,.pointer (some ⟨bt,0,none⟩)),(13,.pointer (some ⟨s.1,0,none⟩))])
       (λs=>pt s.1 (cl [.slice none 0 0,.slice (some ⟨s.2,0,none⟩) 1 1,.slice none 0 0,.slice none 0 0,.slice none 0 0] 97)::pt s.2 (cl (jCk j fr n pa pc).cells 82)::vi (bt,sV j fr n pa pc)::pt b6 (cl [.slice none 0 0,.slice none 0 0,.slice none 0 0,.slice none 0 0,.slice none 0 0] 97)::gP p j mt md::gT mt ts::qD ts::gD md j.done::qo M1::L)
       (λs=>True) ?_ ?_
      ·refine Q.dgo [true] [30,32,33] [] [0,1,2,3,4,5,6,7,8,9,10,11,12,13,14,15,16,17,18,19,20,21,22,23,24,25,26,27,28,29,99999,0,0,0] ?_
       refine Q.rd ?_;refine D.two 30 32 [31,32,33] [30,31,33] zk rfl rfl rfl rfl zk zk ?_ ?_
       ·refine Q.r ?_;(repeat (intro b1;refine Q.r ?_))
        refine Q.rd ?_;(repeat (intro b1;refine Q.rd ?_));rename_i bn;refine N.tn ⟨(b1,bn),zt,?_,trivial⟩
        (try dsimp only);exact eG
       ·refine Q.r ?_;(repeat (intro b1;refine Q.r ?_))
        refine Q.rd ?_;(repeat (intro b1;refine Q.rd ?_));rename_i bp;refine N.tn ⟨(bp,b1),zt,?_,trivial⟩
        (try dsimp only);exact eG
      ·rintro ⟨bp,bn⟩ _
       dsimp only;refine Q.r ?_;obtain ⟨ps,hps⟩:∃ps,ps=xM j.shards (n.ops.map OV.abs):=⟨_,rfl⟩;have hpo:=Qi hq.s1 (n.ops.map OV.abs);have hpl:ps.length≤4:=by have:=ff (hps▸hpo.1) (hps▸hpo.2) (by have:=hq.s1;omega);have:=hq.s2;omega
       refine ql (σ:=Nat×OA×Nat×List (Int×NV)×(OM)) (λs=> [(0,vI p),(6,.pointer (some ⟨b6,0,none⟩)),(12,.pointer (some ⟨bt,0,none⟩)),(13,.pointer (some ⟨bp,0,none⟩)),(155,.slice pa ps.length pc),(156,.int .i64 ps.length),(157,.int .i64 s.1)])
        (λs=>pt bp (cl [.slice none 0 0,.slice (some ⟨bn,0,none⟩) 1 1,.slice s.2.1 s.2.2.2.1.length s.2.2.1,.slice none 0 0,.slice none 0 0] 97)::slO 176 17 s.2.1 s.2.2.2.1.length s.2.2.1 (s.2.2.2.1.flatMap vx)::pt bn (cl (jCk j fr n pa pc).cells 82)::vi (bt,sV j fr n pa pc)::pt b6 (cl [.slice none 0 0,.slice none 0 0,.slice none 0 0,.slice none 0 0,.slice none 0 0] 97)::gP p j mt md::gT mt ts::qD ts::gD md j.done::qo s.2.2.2.2::L)
        (λs=>s.1≤ps.length∧s.2.2.2.1.map (λm=>(m.1,m.2.abs))=(ps.take s.1).map (fm j.shards (jDc j fr n.abs))∧qU M1 s.2.2.2.2∧∀m∈s.2.2.2.1,xt s.2.2.2.2 m.2) (λs=>ps.length - s.1) (0,none,0,[],M1) ⟨rfl,rfl,rfl,rfl,jj some (by rw[hps]),jj some (by rw[hps]),rfl,trivial⟩ (qi.cons vh) ⟨jw _,rfl,qU.refl M1,λ_ h=>by cases h⟩ ?_
       rintro ⟨k,a3,c3,us,M2⟩ ⟨hk,hus,hl2,huo⟩;dsimp only at hk hus hl2 huo ⊢;have hul:us.length=k:=by
        have:=jj List.length hus;rw[jf,jf,jP] at this;omega
       by_cases hlt2:k<ps.length
       ·obtain ⟨q,hq2⟩:=qw hlt2
        rw[←hps] at hs1;obtain ⟨bq,oq,hia,cr⟩:=qH.cm (g:=λz:Int=> [I64 z]) (λ_=>rfl) (by rw[yh];exact hs1.mono hl2) hq2 rfl;subst hia;refine Q.r ?_;refine Q.dgo [true] [5,6,7,9] [9] [0,1,2,3,4,5,6,7,8,9] ?_;refine Q.rd ?_;refine D.e rfl rfl rfl ?_;refine S.c3 (A:=gP p j mt md) (B:=vi (bt,sV j fr n (some ⟨bq,oq,none⟩) pc)) (C:=qo M2) rfl (QQ p j mt md (bt,sV j fr n (some ⟨bq,oq,none⟩) pc) q M2 _ (ht1.mono hl2) hq.s1 hq.s2) ?_;rintro _ _ ⟨m,M3,rfl,hl3,hm3,hma,rfl⟩;refine Q.r ?_;refine Q.rd ?_;(repeat (intro b1;refine Q.rd ?_));refine D.e rfl rfl rfl ?_;refine S.app rfl rfl (vA.sl vg.row zr zr) zr zo zo (λa7 c7=> ?_);refine Q.r ?_;refine Q.rd ?_;refine Q.dc rfl rfl rfl rfl ?_;refine Q.r ?_;refine Q.rd ?_;refine Q.r ?_;refine ⟨(k+1,a7,c7,us++[(q,m)],M3),zt,?_,⟨by dsimp only;omega,?_,hl2.trans hl3,λw hw=> ?_⟩,by dsimp only;omega⟩
        ·dsimp only
         rw[qF,vE];exact eG
        ·dsimp only
         rw[jq,hus,qz hq2,jq];exact jj (λz=>_++[z]) hma
        ·rcases jy.1 hw with hw|hw
         ·exact (huo w hw).mono hl3
         ·rw[ji] at hw;subst hw;exact hm3
       ·have hke:k=ps.length:=by omega
        subst hke;rw[jI] at hus;refine Q.r ?_;refine N.r1 RV.c (qi.trans (M:=slO 176 17 a3 us.length c3 (us.flatMap vx)::pt bn (cl (jCk j fr n pa pc).cells 82)::gP p j mt md::gT mt ts::qD ts::gD md j.done::qo M2::L) eG (qi.trans (qi.cons (qi.cons (qR (hq.mono (hl1.trans hl2))))) (qi.trans (qi.cons (ve (sz:=16) (m:=1) rfl)) ?_))) ⟨none,0,[],some ⟨bn,0,none⟩,1,[jCk j fr n pa pc],a3,c3,us,none,0,[],none,0,[],M2,rfl,hl1.trans hl2,⟨λ_ h=>(by cases h),λm hm=> ?_,huo,λ_ h=>(by cases h),λ_ h=>(by cases h)⟩,⟨rfl,rfl,?_,rfl,rfl⟩,rfl⟩
        ·show qi _ (eP::slO 82 16 (some ⟨bn,0,none⟩) 1 1 (jCk j fr n pa pc).cells::slO 176 17 a3 us.length c3 (us.flatMap vx)::eP::eMl::qE M2 p j::qo M2::L)
         exact eG
        ·rw[ji.1 hm]
         exact ⟨hs1.mono hl2,(hn.mono (hl1.trans hl2)).o,qH.nil0,qH.nil0,λo ho=>by cases ho⟩
        ·rw[hus,hps]
   ·have hE:gh j n.abs=v7 j.dim (n.ops.map OV.abs):=by
     unfold gh;rw[jb hc]
    rw[jb (by rw[hE];exact hc),hE];refine Q.r ?_;refine S.cr rfl (Jf fr n.batch 0 (v7 j.dim (n.ops.map OV.abs)) _) ?_;rintro _ _ ⟨rfl,rfl⟩;refine Q.r ?_;(repeat (intro b1;refine Q.r ?_));refine N.r1 RV.c (qi.trans (M:=pt b1 (cl (y8 (Y2 fr n.batch 0 (v7 j.dim (n.ops.map OV.abs)))) 176)::gP p j mt md::gT mt ts::qD ts::gD md j.done::qo M::L) eG (mr hq)) (cL M p j L (Y2 fr n.batch 0 (v7 j.dim (n.ops.map OV.abs))) rfl b1)
theorem ng (n:NV)(M:OM)(p:Nat)(j:JG)(fr:Int)(L:HL)(hb:JB j)(hn:xt M n)(hN:OkN n)(hT:yE M)(h0:0≤n.kind∧n.kind≤255):
  qh kY 38 [vI p,.int .i64 fr,n.val] (qE M p j::qo M::L) (zw M p j (xW j fr n.abs) L):=by
 have fin:∀{g:FuncId} {pl:PG} {L:HL},qh kY g [vI p,.int .i64 fr,n.val] (qE M p j::qo M::L) (wo M p j pl L)→qh kY g [vI p,.int .i64 fr,n.val] (qE M p j::qo M::L) (zw M p j pl L):=λh=>h.post λ_ _ h=>zw.of0 h
 unfold xW;refine qg Tryz.func38 rfl rfl rfl ?_;refine Q.r ?_;(repeat (intro b1;refine Q.r ?_));refine S.cr rfl (Je n _ hn.rd hN hT.rd h0) ?_;rintro _ _ ⟨rfl,rfl⟩;have e5:∀{L:HL},zw M p j PG.none L (.agg #[.slice none 0 0,.slice none 0 0,.slice none 0 0,.slice none 0 0,.slice none 0 0]) (qE M p j::qo M::L):=zw.none M p j _
 cases hr:qu n.abs with
 |false=>
  rw[jb (.inl rfl)];refine Q.r ?_;exact N.r1 RV.c eG e5
 |true=>
 by_cases hf1:fr<0
 ·rw[jb (.inr (.inl hf1))]
  refine Q.r ?_;exact N.r1 RV.c eG e5
 by_cases hf2:16≤fr
 ·rw[jb (.inr (.inr hf2))]
  refine Q.r ?_;exact N.r1 RV.c eG e5
 rw[ja (by rintro (h|h|h);cases h;exact hf1 h;exact hf2 h)];rw[show n.abs.kind=n.kind from rfl]
 by_cases h1:n.kind=1
 ·rw[jb h1]
  refine Q.r ?_;refine S.cg p rfl (fin (tL n M p j fr _ hb hn hN)) ?_;rintro _ _ ⟨a1,c1,rs,a2,c2,ns,a3,c3,ms,a4,c4,is,a5,c5,es,M2,rfl,hl,ok,ab,rfl⟩;(refine Q.r ?_);refine N.r1 RV.c ?_ ⟨a1,c1,rs,a2,c2,ns,a3,c3,ms,a4,c4,is,a5,c5,es,M2,rfl,hl,ok,ab,rfl⟩;exact eG
 rw[ja h1]
 by_cases h4:n.kind=4
 ·rw[jb h4]
  refine Q.r ?_;refine S.cg p rfl (fin (m9 n M p j fr _ hb.l0 hb.l1)) ?_;rintro _ _ ⟨a1,c1,rs,a2,c2,ns,a3,c3,ms,a4,c4,is,a5,c5,es,M2,rfl,hl,ok,ab,rfl⟩;(refine Q.r ?_);refine N.r1 RV.c ?_ ⟨a1,c1,rs,a2,c2,ns,a3,c3,ms,a4,c4,is,a5,c5,es,M2,rfl,hl,ok,ab,rfl⟩;exact eG
 rw[ja h4]
 by_cases h6:n.kind=6
 ·rw[jb h6]
  refine Q.r ?_;refine S.cg p rfl (fin (tM n M p j fr _)) ?_;rintro _ _ ⟨a1,c1,rs,a2,c2,ns,a3,c3,ms,a4,c4,is,a5,c5,es,M2,rfl,hl,ok,ab,rfl⟩;(refine Q.r ?_);refine N.r1 RV.c ?_ ⟨a1,c1,rs,a2,c2,ns,a3,c3,ms,a4,c4,is,a5,c5,es,M2,rfl,hl,ok,ab,rfl⟩;exact eG
 rw[ja h6]
 by_cases h7:n.kind=7
 ·rw[jb h7]
  refine Q.r ?_;refine S.cg p rfl (gM n M p j fr _) ?_;rintro _ _ ⟨a1,c1,rs,a2,c2,ns,a3,c3,ms,a4,c4,is,a5,c5,es,M2,rfl,hl,ok,ab,rfl⟩;(refine Q.r ?_);refine N.r1 RV.c ?_ ⟨a1,c1,rs,a2,c2,ns,a3,c3,ms,a4,c4,is,a5,c5,es,M2,rfl,hl,ok,ab,rfl⟩;exact eG
 rw[ja h7];refine Q.r ?_;exact N.r1 RV.c eG e5
structure WT (x:Int)(t:TR):Prop where
 xx:t.txn=x
 x0:0≤x
 st:0≤t.stamp
 r:zI t.parts
 pl:t.parts.length≤4
 pb:∀q∈t.parts,0≤q∧q<16
 yr:zI t.yes
 ys:∀q∈t.yes,q∈t.parts
 kr:zI t.acked
 ks:∀q∈t.acked,q∈t.parts
 ol:t.ops.length≤16
structure WG (j:JG):Prop where
 b:JB j
 kt:qn j.tr
 kd:qn j.done
 tx:∀u∈j.tr,WT u.1 u.2
 dp:∀u∈j.done,0<u.2
theorem WG.lk {j:JG}(h:WG j){x:Int}{t:TR}(ht:qJ j.tr x=some t):WT x t:=h.tx _ ((vQ h.kt).1 ht)
theorem gS (a:OA)(c:Nat)(xs:List OV)(A:HL)(h:qW A a xs.length 2 (xs.flatMap OV.cells))(hn:xs.length≤1000000):
  qh kY 198 [.slice a xs.length c] A (λv L'=>∃a' c',v=.slice a' xs.length c'∧L'=slO 38 2 a' xs.length c' (xs.flatMap OV.cells)::A):=by
 refine qg Tryz.func198 rfl rfl rfl ?_
 cases a with
 |none=>
  have hx:xs=[]:=by
   rcases h.2 with h0|⟨_,_,h0,_⟩
   ·exact jO h0
   ·cases h0
  subst hx;refine Q.r ?_;exact N.t rfl vh ⟨none,0,rfl,rfl⟩
 |some ad=>
  refine Q.r ?_;(repeat (intro b1;refine Q.r ?_));refine qm (ve (sz:=2) (m:=0) rfl) ?_;refine S.app0 rfl rfl rfl (vA.rd h.sub (jFH _)) zr zo zo (λa5 c5=> ?_);refine Q.r ?_;exact N.t rfl (kZ _) ⟨a5,c5,rfl,rfl⟩
theorem jGM {a:Int}(h0:0≤a)(h1:a<18446744073709551616):IntKind.u64.wrap ((BitVec.ofInt IntKind.u64.bits a)&&&(BitVec.ofInt IntKind.u64.bits 1048575)).toNat=a % 1048576:=by
 obtain ⟨k,rfl⟩:=Int.eq_ofNat_of_zero_le h0;have hk:k<2^64:=by omega
 show IntKind.u64.wrap ((BitVec.ofInt 64 (k:Int))&&&(BitVec.ofInt 64 1048575)).toNat=_
 have e1:(BitVec.ofInt 64 (k:Int)).toNat=k:=by
  rw[BitVec.toNat_ofInt];omega
 have e2:(BitVec.ofInt 64 (1048575:Int)).toNat=2^20 - 1:=by decide
 rw[BitVec.toNat_and,e1,e2,Nat.and_two_pow_sub_one_eq_mod,wrap_u64 zo zo];omega
def Zc (n:NA)(M:OM)(p:Nat)(j:JG)(L:HL)(r:Value)(L':HL):Prop:=∃M':OM,r=.int .i64 (vm j n)∧qU M M'∧L'=qE M' p (vC j n)::qo M'::L
theorem cH {ts:List TB}{tr:List (Int×TR)}(h:ts.map (λu=>(u.1,u.2.2.abs))=tr){x:Int}(hx:qJ tr x=none):∀u∈ts,u.1≠x:=by
 intro u hu e;have hm:(x,u.2.2.abs)∈tr:=by rw[←h,←e];exact jA (f:=λu:TB=>(u.1,u.2.2.abs)) hu
 unfold qJ at hx;rw[Option.map_eq_none_iff,List.find?_eq_none] at hx;have:=hx _ hm
 simp at this
theorem QR.new {M:OM}{j j':JG}{ts:List TB}(h:QR M j ts){x:Int}{b:Nat}{t:TV}(hx:qJ j.tr x=none)(ht:ZE M t)(hs:j'.shards=j.shards)(htr:j'.tr=qZ j.tr x t.abs):QR M j' (ts++[(x,b,t)]):=by
 refine ⟨by rw[hs];exact h.s1,by rw[hs];exact h.s2,?_,λu hu=> ?_⟩
 ·rw[htr,jq,h.tr,vH]
  ·rfl
  ·intro u hu e
   rw[←h.tr] at hu;obtain ⟨w,hw,rfl⟩:=jM.1 hu;exact cH h.tr hx w hw e
 ·rcases jy.1 hu with hu|hu
  ·exact h.ok u hu
  ·rw[ji] at hu;subst hu;exact ht
theorem gO (n:NV)(M:OM)(p:Nat)(j:JG)(L:HL)(hw:WG j)(hn:xt M n)(hN:OkN n)(h0:0≤n.txn)(h1:n.txn<18446744073709551616)(hr:qu n.abs=true)(hk:n.kind=19):
  qh kY 150 [vI p,n.val] (qE M p j::qo M::L) (Zc n.abs M p j L):=by
 unfold Zc;refine wC λmt md ts hq=> ?_
 refine qg Tryz.func150 rfl rfl rfl ?_;have hnp:=hN.p;have hno:=hN.o;refine Q.r ?_;(repeat (intro b1;refine Q.r ?_));refine Q.dgo [true,true,true,true,true,true] [] [] [0,1,2,3,4,5,6,7] ?_;refine Q.rd ?_;refine D.y rfl rfl rfl zk (Y.lk false rfl rfl (λw=>Tryz.zeroValue148 w)) ?_;have hlk:=WD hq.tr n.txn
 cases hz:qJ (α:=Nat×TV) ts n.txn with
 |some u=>
  rw[hz] at hlk;dsimp only;have hE:vm j n.abs=7:=by rw[pV hr hk,show n.abs.txn=n.txn from rfl,hlk];rfl
  refine Q.rd ?_;refine Q.r ?_;exact N.t rfl (qi.trans (M:=gP p j mt md::gT mt ts::qD ts::gD md j.done::qo M::L) eG (qR hq)) ⟨M,by rw[hE],qU.refl M,by rw[xC (by rw[hE];decide)]⟩
 |none=>
  rw[hz] at hlk;have hE:vm j n.abs=0:=by rw[pV hr hk,show n.abs.txn=n.txn from rfl,hlk];rfl
  have hS:=df hE hk;have hput:∀v:Nat×TV,qZ ts n.txn v=ts++[(n.txn,v)]:=λv=>vH (cH hq.tr hlk)
  dsimp only;refine Q.rd ?_;refine Q.r ?_;revert b1;intro b3;refine vn (σ:=Nat×TV×(OM)) (λs=> [(0,vI p),(3,.pointer (some ⟨b3,0,none⟩))])
   (λs=>pt b3 (cl n.cells 82)::gP p j mt md::gT mt (ts++[(n.txn,s.1,s.2.1)])::qD (ts++[(n.txn,s.1,s.2.1)])::gD md j.done::qo s.2.2::L) (λs=>qU M s.2.2∧ZE s.2.2 s.2.1∧s.2.1.abs=sR n.abs) ?_ ?_
  ·refine Q.dgo [true,true] [16,20,22,23] [] [0,1,2,3,4,5,6,7,8,9,10,11,12,13,14,15,18,19,16,17,20,21,22,23] ?_
   refine Q.rd ?_;refine D.e rfl rfl rfl ?_;refine S.cr rfl (xS n.pa n.pc n.parts _ hn.rd.p hnp) ?_;rintro _ _ ⟨pa,pc,rfl,rfl⟩;refine qQ pa (λM1 hl1 hs1=> ?_);have hn1:=hn.mono hl1;refine Q.r ?_;refine Q.rd ?_;refine D.e rfl rfl rfl ?_;refine S.cr rfl (gS n.oa n.oc n.ops _ hn1.rd.o.1 hno) ?_;rintro _ _ ⟨oa,oc,rfl,rfl⟩;refine qQ oa (λM2 hl2 hs2=> ?_);have hn2:=hn1.mono hl2;refine Q.r ?_;refine Q.rd ?_;(repeat (intro b1;refine Q.rd ?_));refine D.e rfl rfl rfl ?_;refine S.mu (r:=W5) (u:=(b1,(⟨n.txn,n.batch,0,n.after,n.who,pa,pc,n.parts,none,0,[],none,0,[],oa,oc,n.ops⟩:TV))) rfl rfl rfl ?_;rw[hput];refine Q.r ?_;refine Q.rd ?_;refine N.tn ⟨(b1,⟨n.txn,n.batch,0,n.after,n.who,pa,pc,n.parts,none,0,[],none,0,[],oa,oc,n.ops⟩,M2),zt,?_,hl1.trans hl2,⟨hs1.mono hl2,qH.nil0,qH.nil0,hs2,hn2.o.2,hnp,jw _,jw _,hno⟩,rfl⟩;dsimp only;exact qi.trans (M:=vi (b1,(⟨n.txn,n.batch,0,n.after,n.who,pa,pc,n.parts,none,0,[],none,0,[],oa,oc,n.ops⟩:TV))::qD ts::pt b3 (cl n.cells 82)::gP p j mt md::gT mt (ts++[(n.txn,b1,⟨n.txn,n.batch,0,n.after,n.who,pa,pc,n.parts,none,0,[],none,0,[],oa,oc,n.ops⟩)])::gD md j.done::qo M2::L) eG (qi.trans (bJ ts (n.txn,b1,_)) eG)
  ·rintro ⟨bt,tv,M2⟩ ⟨hl2,htv,hta⟩
   dsimp only at hl2 htv hta ⊢;have hfd:n.txn.fdiv (2^20)=n.txn / 1048576:=by rw[Int.fdiv_eq_ediv_of_nonneg _ zd];rfl
   have hq2:∀sq:Int,QR M2 {j with tr:=qZ j.tr n.txn (sR n.abs),seq:=sq} (ts++[(n.txn,bt,tv)]):=λsq=>(hq.mono hl2).new hlk htv rfl (by rw[hta])
   refine Q.r ?_
   by_cases he:n.txn / 1048576=j.epoch
   ·refine Q.dgo [true,true] [] [] [0,1,2,3,4,5,6,7] ?_
    refine Q.rd ?_;refine D.y rfl rfl rfl zk (Y.shrI (b:=20) rfl rfl zd) ?_;rw[hfd];refine Q.rd ?_;refine Q.r ?_;refine Q.dgo [true,true] [11] [11] [0,1,2,3,4,5,6,7,8,9,10,11] ?_;refine Q.rd ?_;refine D.y rfl rfl rfl zk (Y.and rfl rfl) ?_;rw[jGM h0 h1];refine Q.rd ?_;refine Q.dc rfl rfl rfl rfl ?_;refine Q.r ?_;refine Q.rd ?_;refine Q.r ?_;refine N.t rfl (qi.trans (M:=gP p {j with tr:=qZ j.tr n.txn (sR n.abs),seq:=max j.seq (n.txn % 1048576)} mt md::gT mt (ts++[(n.txn,bt,tv)])::qD (ts++[(n.txn,bt,tv)])::gD md j.done::qo M2::L) eG (qR (hq2 _))) ⟨M2,by rw[hE],hl2,?_⟩;rw[hS,show n.abs.txn=n.txn from rfl,jb he]
   ·refine Q.dgo [true,true] [] [] [0,1,2,3,4,5,6,7] ?_
    refine Q.rd ?_;refine D.y rfl rfl rfl zk (Y.shrI (b:=20) rfl rfl zd) ?_;rw[hfd];refine Q.rd ?_;refine Q.r ?_;refine N.t rfl (qi.trans (M:=gP p {j with tr:=qZ j.tr n.txn (sR n.abs),seq:=j.seq} mt md::gT mt (ts++[(n.txn,bt,tv)])::qD (ts++[(n.txn,bt,tv)])::gD md j.done::qo M2::L) eG (qR (hq2 _))) ⟨M2,by rw[hE],hl2,?_⟩;rw[hS,show n.abs.txn=n.txn from rfl,ja he]
end Go.Proofs.YtlnfjhiphlfkjaaGreatDoor
