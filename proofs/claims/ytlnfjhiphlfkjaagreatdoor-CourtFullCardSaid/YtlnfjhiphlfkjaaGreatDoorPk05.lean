/- Walks of functions, and plain laws, that the last text rests on. No condition. -/
import Derived.ReadAgain
import Derived.ChangeArms
import Derived.WideShapes
import Derived.KernelRfl
import Derived.Test.YtlnfjhiphlfkjaaGreatDoorRows
import Derived.WalkKit
import Derived.ProofKit
import Derived.OpenShut
import Derived.DataShut
import Derived.Test.YtlnfjhiphlfkjaaGreatDoorCards
import Derived.Test.YtlnfjhiphlfkjaaGreatDoorTie
import Derived.Deep.DeepHandedRow
import Derived.Lib.LaidTab
import Derived.Lib.AppendZerosOnto
import Derived.Lib.Overlaps
import Derived.Laws.MakeOwn
import Derived.Lib.MakeNoZero
import Derived.Laws.Externs
import Derived.Test.YtlnfjhiphlfkjaaGreatDoorPk04
set_option linter.unusedVariables false
set_option linter.unusedSimpArgs false
set_option linter.unusedSectionVars false
set_option maxHeartbeats 4000000
namespace Go.SX
open Go
theorem Y.slen0 {P:Program}{n:Nat}{ops:List Oper}{f:vL}{A:HL}{d:Tmp}{ty:TypeId}{pos:String}{af:Array Edge}{x:Operand}{t:TypeId}{s0:ByteArray}[h:Wn P t](hx:ev f x=some (.string s0)):
  qk P n ops ⟨some d,.call ⟨.builtin .len,#[x],#[t]⟩,ty,pos,af,none⟩ f A (.int .i64 s0.size):=
 Y.of λa w s=>by simp[execOp,resolve,invoke,s.eval hx,builtin,Builtin.len_,h.und,goInt]
theorem Y.slen {P:Program}{n:Nat}{ops:List Oper}{f:vL}{A:HL}{d:Tmp}{ty:TypeId}{pos:String}{af:Array Edge}{x:Operand}{t:TypeId}{l:List UInt8}[h:Wn P t](hx:ev f x=some (str l)):
  qk P n ops ⟨some d,.call ⟨.builtin .len,#[x],#[t]⟩,ty,pos,af,none⟩ f A (.int .i64 l.length):=Y.slen0 hx
theorem jGC {l:List UInt8}{i:Nat}{b:UInt8}(h:l[i]? =some b):(⟨l.toArray⟩:ByteArray)[i]? =some b:=by
 have hl:i<l.length:=(jm.1 h).1;have hb:l[i]=b:=(jm.1 h).2;have hs:i<(⟨l.toArray⟩:ByteArray).size:=by simpa[ByteArray.size] using hl
 rw[getElem?_pos _ i hs];exact jj some hb
end Go.SX
namespace Go.Proofs.YtlnfjhiphlfkjaaGreatDoor
open Go Go.SX
attribute [local irreducible] swp qq qL qJ vZ qh St qi qk vu qH
theorem Q0 (k:Nat)(A:HL)(hk:k≤255):qh kY 43 [.int .u8 (k:Int)] A (λr L'=>r=.tuple #[str (wU k).1,str (xd k)]∧L'=A):=by
 refine qg Tryz.func43 rfl rfl rfl ?_
 by_cases h0:k=0
 ·subst h0
  refine Q.r ?_;exact N.u rfl rfl (kZ _) ⟨rfl,rfl⟩
 by_cases h1:k=1
 ·subst h1
  refine Q.r ?_;exact N.u rfl rfl (kZ _) ⟨rfl,rfl⟩
 by_cases h2:k=2
 ·subst h2
  refine Q.r ?_;exact N.u rfl rfl (kZ _) ⟨rfl,rfl⟩
 by_cases h3:k=3
 ·subst h3
  refine Q.r ?_;exact N.u rfl rfl (kZ _) ⟨rfl,rfl⟩
 by_cases h4:k=4
 ·subst h4
  refine Q.r ?_;exact N.u rfl rfl (kZ _) ⟨rfl,rfl⟩
 by_cases h5:k=5
 ·subst h5
  refine Q.r ?_;exact N.u rfl rfl (kZ _) ⟨rfl,rfl⟩
 by_cases h6:k=6
 ·subst h6
  refine Q.r ?_;exact N.u rfl rfl (kZ _) ⟨rfl,rfl⟩
 by_cases h7:k=7
 ·subst h7
  refine Q.r ?_;exact N.u rfl rfl (kZ _) ⟨rfl,rfl⟩
 by_cases h8:k=8
 ·subst h8
  refine Q.r ?_;exact N.u rfl rfl (kZ _) ⟨rfl,rfl⟩
 by_cases h9:k=9
 ·subst h9
  refine Q.r ?_;exact N.u rfl rfl (kZ _) ⟨rfl,rfl⟩
 by_cases h10:k=10
 ·subst h10
  refine Q.r ?_;exact N.u rfl rfl (kZ _) ⟨rfl,rfl⟩
 by_cases h11:k=11
 ·subst h11
  refine Q.r ?_;exact N.u rfl rfl (kZ _) ⟨rfl,rfl⟩
 by_cases h12:k=12
 ·subst h12
  refine Q.r ?_;exact N.u rfl rfl (kZ _) ⟨rfl,rfl⟩
 by_cases h13:k=13
 ·subst h13
  refine Q.r ?_;exact N.u rfl rfl (kZ _) ⟨rfl,rfl⟩
 by_cases h14:k=14
 ·subst h14
  refine Q.r ?_;exact N.u rfl rfl (kZ _) ⟨rfl,rfl⟩
 by_cases h15:k=15
 ·subst h15
  refine Q.r ?_;exact N.u rfl rfl (kZ _) ⟨rfl,rfl⟩
 by_cases h16:k=16
 ·subst h16
  refine Q.r ?_;exact N.u rfl rfl (kZ _) ⟨rfl,rfl⟩
 by_cases h17:k=17
 ·subst h17
  refine Q.r ?_;exact N.u rfl rfl (kZ _) ⟨rfl,rfl⟩
 by_cases h18:k=18
 ·subst h18
  refine Q.r ?_;exact N.u rfl rfl (kZ _) ⟨rfl,rfl⟩
 by_cases h19:k=19
 ·subst h19
  refine Q.r ?_;exact N.u rfl rfl (kZ _) ⟨rfl,rfl⟩
 by_cases h20:k=20
 ·subst h20
  refine Q.r ?_;exact N.u rfl rfl (kZ _) ⟨rfl,rfl⟩
 by_cases h21:k=21
 ·subst h21
  refine Q.r ?_;exact N.u rfl rfl (kZ _) ⟨rfl,rfl⟩
 by_cases h22:k=22
 ·subst h22
  refine Q.r ?_;exact N.u rfl rfl (kZ _) ⟨rfl,rfl⟩
 have e1:wU k=([],0):=by
  unfold wU;rw[List.getElem?_eq_none (by show 23≤k;omega)];rfl
 have e2:xd k=[]:=by
  unfold xd;rw[List.getElem?_eq_none (by show 23≤k;omega)];rfl
 rw[e1,e2];refine Q.r ?_;exact N.u rfl rfl (kZ _) ⟨rfl,rfl⟩
theorem dX (k:Nat):(xd k).length≤15:=by
 by_cases h:k<23
 ·exact (by decide:∀k,k<23→(xd k).length≤15) k h
 ·unfold xd
  rw[List.getElem?_eq_none (by show 23≤k;omega)];decide
theorem jG9 (x f:UInt8):decide (((x.toNat:Nat):Int)=((f.toNat:Nat):Int))=decide (x=f):=by
 congr 1
 rw[Int.natCast_inj,UInt8.toNat_inj]
theorem jCF (k:Nat)(f:UInt8)(kd z:Int)(hkd:kd=(k:Int))(hz:z=((f.toNat:Nat):Int))(A:HL)(hk:k≤255):qh kY 177 [.int .u8 kd,.int .u8 z] A (λr L'=>r=.bool (vn k f)∧L'=A):=by
 subst hkd;unfold vn;have hle:=dX k;refine qg Tryz.func177 rfl rfl rfl ?_;refine Q.r ?_;refine S.cr rfl (Q0 k _ hk) ?_;rintro _ _ ⟨rfl,he⟩;rw[he];clear he;refine Q.r ?_;refine ql (σ:=Nat) (λi=> [(1,.int .u8 z),(6,str (xd k)),(7,.int .i64 i)]) (λ_=>A) (λi=>i≤(xd k).length∧((xd k).take i).any (λx=>decide (x=f))=false) (λi=>(xd k).length - i) 0 zt (kZ _) ⟨by omega,by simp⟩ ?_;rintro i ⟨hi,hany⟩
 by_cases hlt:i<(xd k).length
 ·obtain ⟨x,hx⟩:=qx hlt
  refine Q.r ?_;refine S.y (Y.slen rfl) ?_;refine Q.r ?_;refine S.y (Y.idx rfl rfl (jGC hx)) ?_
  by_cases he:x=f
  ·have hz2:((x.toNat:Nat):Int)=z:=by rw[he,hz]
   refine Q.r ?_;exact N.t rfl (kZ _) ⟨by rw[ku.2 ⟨x,jn hx,jo he⟩],rfl⟩
  ·have hz2:¬((x.toNat:Nat):Int)=z:=by
    rw[hz];intro hh;have:=jG9 x f;rw[jo hh] at this;exact he (kV this.symm)
   refine Q.r ?_;exact ⟨i+1,zt,kZ _,⟨by omega,by rw[qA hx,kW,hany,kX,jv he];rfl⟩,by omega⟩
 ·have hie:i=(xd k).length:=by omega
  subst hie;rw[jI] at hany;rw[hany];refine Q.r ?_;refine S.y (Y.slen rfl) ?_;refine Q.r ?_;exact N.t rfl (kZ _) ⟨rfl,rfl⟩
theorem ww (k:Nat)(f:UInt8)(kd z n m:Int)(hkd:kd=(k:Int))(hz:z=((f.toNat:Nat):Int))(A:HL)(hk:k≤255):qh kY 114 [.int .u8 kd,.int .u8 z,.int .u64 n,.int .u64 m] A (λr L'=>r=.bool (xy k f n m)∧L'=A):=by
 unfold xy;refine qg Tryz.func114 rfl rfl rfl ?_
 by_cases h1:n≤m
 ·rw[jo h1,jJ]
  by_cases h2:n=0
  ·rw[jo h2,j4]
   refine Q.r ?_;exact N.t rfl (kZ _) ⟨rfl,rfl⟩
  ·rw[jv h2,jR]
   refine Q.r ?_;refine S.cr rfl (jCF k f kd z hkd hz _ hk) ?_;rintro _ _ ⟨rfl,rfl⟩;refine Q.r ?_;exact N.t rfl (kZ _) ⟨rfl,rfl⟩
 ·rw[jv h1,jN]
  refine Q.r ?_;exact N.t rfl (kZ _) ⟨rfl,rfl⟩
theorem cG (a:OA)(c:Nat)(xs:List Int)(A:HL)(h:qY A a xs.length 1 (xs.map zC))(hn:xs.length≤1000000):
  qh kY 115 [.slice a xs.length c] A (λv L'=>v=.bool (ws xs)∧L'=A):=by
 unfold ws;refine qg Tryz.func115 rfl rfl rfl ?_
 by_cases h0:xs.length=0
 ·rw[jo h0,j4]
  refine Q.r ?_;exact N.t rfl (kZ _) ⟨rfl,rfl⟩
 ·rw[jv h0,jR]
  refine Q.r ?_;refine S.cr rfl (Xt a c xs _ h zo) ?_;rintro _ _ ⟨rfl,rfl⟩;refine Q.r ?_;exact N.t rfl (kZ _) ⟨rfl,rfl⟩
theorem Wp (n:NV)(A:HL)(h:RdN A n)(hk:OkN n)(u:xW n.abs):
  qh kY 46 [n.val] A (λr L'=>r=.bool (qn n.abs)∧L'=A):=by
 obtain ⟨k,hkk⟩:∃k:Nat,n.kind=(k:Int):=⟨n.kind.toNat,by have:=u.kind;dsimp only at this;omega⟩;have hk255:k≤255:=by have:=u.kind;dsimp only at this;omega
 have hE:qn n.abs=(!decide ((wU k).1=[])&& !(decide (n.k<0)||decide (n.ef<0)||decide (n.code<0)||decide (n.who<0))&&(Q6 k n.abs&&(ZL k n.abs&&(vX n.parts&&(!(n.ops.any λo=>xv o.abs)&& !(n.hits.any λo=>yd o.abs)))))):=by
  rw[tD u];have e1:n.abs.kind.toNat=k:=by show n.kind.toNat=k;omega
  rw[e1,Z9,Bool.not_not];have e2:decide (1≤n.abs.kind∧n.abs.kind≤22)=decide (1≤k∧k≤22):=by
   congr 1
   show (1≤n.kind∧n.kind≤22)=_
   rw[hkk];simp;omega
  rw[e2];simp only[List.any_map];rfl
 have hu:xW n.abs:=u;rw[hE];clear hE;have x1:=u.k;have x2:=u.ef;have x3:=u.code;have x4:=u.who;dsimp only at x1 x2 x3 x4;have p1:=hk.p;have p2:=hk.o;have p3:=hk.v;have p4:=hk.h;refine qg Tryz.func46 rfl rfl rfl ?_;refine Q.r ?_;(repeat (intro b1;refine Q.r ?_));refine S.cr (args:=[.int .u8 (k:Int)]) (by rw[←hkk];rfl) (Q0 k _ hk255) ?_;rintro _ _ ⟨rfl,rfl⟩
 by_cases hn:(wU k).1=[]
 ·rw[jo hn]
  refine Q.r ?_;exact N.t rfl (qi.drop (kZ _)) ⟨by simp only[j6,j4,jW,jR,jH,jD,jN,jQ,jJ,jT],rfl⟩
 rw[jv hn]
 by_cases a1:n.k<0
 ·rw[jo a1]
  refine Q.r ?_;exact N.t rfl (qi.drop (kZ _)) ⟨by simp only[j6,j4,jW,jR,jH,jD,jN,jQ,jJ,jT],rfl⟩
 by_cases a2:n.ef<0
 ·rw[jo a2]
  refine Q.r ?_;exact N.t rfl (qi.drop (kZ _)) ⟨by simp only[j6,j4,jW,jR,jH,jD,jN,jQ,jJ,jT],rfl⟩
 by_cases a3:n.code<0
 ·rw[jo a3]
  refine Q.r ?_;exact N.t rfl (qi.drop (kZ _)) ⟨by simp only[j6,j4,jW,jR,jH,jD,jN,jQ,jJ,jT],rfl⟩
 by_cases a4:n.who<0
 ·rw[jo a4]
  refine Q.r ?_;exact N.t rfl (qi.drop (kZ _)) ⟨by simp only[j6,j4,jW,jR,jH,jD,jN,jQ,jJ,jT],rfl⟩
 rw[jv a1,jv a2,jv a3,jv a4];simp only[j6,j4,jW,jR,jH,jD,jN,jQ,jJ,jT];refine Q.r ?_;refine QQ (σ:=Bool) (λs=> [(1,.pointer (some ⟨b1,0,none⟩)),(3,.int .u8 n.kind),(6,.bool s)]) (λs=>pt b1 (cl n.cells 43)::A) (λs=>s=Q6 k n.abs) ?_ ?_
 ·skip
  refine Q.r ?_;refine S.cr rfl (ww k 116 n.kind 116 n.txn 18446744073709551615 hkk rfl _ hk255) ?_;rintro _ _ ⟨rfl,rfl⟩
  cases hv0:xy k 116 n.txn 18446744073709551615 with
  |false=>
   refine Q.r ?_;exact ⟨false,zt,kZ _,by unfold Q6;simp only[hv0,jf,j6,j4,jW,jR,jH,jD,jN,jQ,jJ,jT]⟩
  |true=>
  refine Q.r ?_;refine S.cr rfl (ww k 98 n.kind 98 n.batch 18446744073709551615 hkk rfl _ hk255) ?_;rintro _ _ ⟨rfl,rfl⟩
  cases hv1:xy k 98 n.batch 18446744073709551615 with
  |false=>
   refine Q.r ?_;exact ⟨false,zt,kZ _,by unfold Q6;simp only[hv0,hv1,jf,j6,j4,jW,jR,jH,jD,jN,jQ,jJ,jT]⟩
  |true=>
  refine Q.r ?_;refine S.cr rfl (ww k 115 n.kind 115 n.stamp 1099511627776 hkk rfl _ hk255) ?_;rintro _ _ ⟨rfl,rfl⟩
  cases hv2:xy k 115 n.stamp 1099511627776 with
  |false=>
   refine Q.r ?_;exact ⟨false,zt,kZ _,by unfold Q6;simp only[hv0,hv1,hv2,jf,j6,j4,jW,jR,jH,jD,jN,jQ,jJ,jT]⟩
  |true=>
  refine Q.r ?_;refine S.cr rfl (ww k 97 n.kind 97 n.after 1099511627776 hkk rfl _ hk255) ?_;rintro _ _ ⟨rfl,rfl⟩
  cases hv3:xy k 97 n.after 1099511627776 with
  |false=>
   refine Q.r ?_;exact ⟨false,zt,kZ _,by unfold Q6;simp only[hv0,hv1,hv2,hv3,jf,j6,j4,jW,jR,jH,jD,jN,jQ,jJ,jT]⟩
  |true=>
  refine Q.r ?_;refine S.cr rfl (ww k 109 n.kind 109 n.mark 1099511627776 hkk rfl _ hk255) ?_;rintro _ _ ⟨rfl,rfl⟩
  cases hv4:xy k 109 n.mark 1099511627776 with
  |false=>
   refine Q.r ?_;exact ⟨false,zt,kZ _,by unfold Q6;simp only[hv0,hv1,hv2,hv3,hv4,jf,j6,j4,jW,jR,jH,jD,jN,jQ,jJ,jT]⟩
  |true=>
  refine Q.r ?_;refine S.cr rfl (ww k 113 n.kind 113 n.query 18446744073709551615 hkk rfl _ hk255) ?_;rintro _ _ ⟨rfl,rfl⟩
  cases hv5:xy k 113 n.query 18446744073709551615 with
  |false=>
   refine Q.r ?_;exact ⟨false,zt,kZ _,by unfold Q6;simp only[hv0,hv1,hv2,hv3,hv4,hv5,jf,j6,j4,jW,jR,jH,jD,jN,jQ,jJ,jT]⟩
  |true=>
  refine Q.r ?_;refine S.cr rfl (ww k 105 n.kind 105 n.id 1099511627776 hkk rfl _ hk255) ?_;rintro _ _ ⟨rfl,rfl⟩
  cases hv6:xy k 105 n.id 1099511627776 with
  |false=>
   refine Q.r ?_;exact ⟨false,zt,kZ _,by unfold Q6;simp only[hv0,hv1,hv2,hv3,hv4,hv5,hv6,jf,j6,j4,jW,jR,jH,jD,jN,jQ,jJ,jT]⟩
  |true=>
  refine Q.r ?_;refine S.y (Y.cvi rfl) ?_;rw[wrap_u64 zo zo];refine Q.r ?_;refine S.cr rfl (ww k 107 n.kind 107 n.k 16 hkk rfl _ hk255) ?_;rintro _ _ ⟨rfl,rfl⟩
  cases hv7:xy k 107 n.k 16 with
  |false=>
   refine Q.r ?_;exact ⟨false,zt,kZ _,by unfold Q6;simp only[hv0,hv1,hv2,hv3,hv4,hv5,hv6,hv7,jf,j6,j4,jW,jR,jH,jD,jN,jQ,jJ,jT]⟩
  |true=>
  refine Q.r ?_;refine S.y (Y.cvi rfl) ?_;rw[wrap_u64 zo zo];refine Q.r ?_;refine S.cr rfl (ww k 101 n.kind 101 n.ef 256 hkk rfl _ hk255) ?_;rintro _ _ ⟨rfl,rfl⟩
  cases hv8:xy k 101 n.ef 256 with
  |false=>
   refine Q.r ?_;exact ⟨false,zt,kZ _,by unfold Q6;simp only[hv0,hv1,hv2,hv3,hv4,hv5,hv6,hv7,hv8,jf,j6,j4,jW,jR,jH,jD,jN,jQ,jJ,jT]⟩
  |true=>
  refine Q.r ?_;refine S.y (Y.cvi rfl) ?_;rw[wrap_u64 zo zo];refine Q.r ?_;refine S.cr rfl (ww k 99 n.kind 99 n.code 13 hkk rfl _ hk255) ?_;rintro _ _ ⟨rfl,rfl⟩
  cases hv9:xy k 99 n.code 13 with
  |false=>
   refine Q.r ?_;exact ⟨false,zt,kZ _,by unfold Q6;simp only[hv0,hv1,hv2,hv3,hv4,hv5,hv6,hv7,hv8,hv9,jf,j6,j4,jW,jR,jH,jD,jN,jQ,jJ,jT]⟩
  |true=>
  refine Q.r ?_;refine S.y (Y.cvi rfl) ?_;rw[wrap_u64 zo zo];refine Q.r ?_;refine S.cr rfl (ww k 119 n.kind 119 n.who 15 hkk rfl _ hk255) ?_;rintro _ _ ⟨rfl,rfl⟩
  cases hv10:xy k 119 n.who 15 with
  |false=>
   refine Q.r ?_;exact ⟨false,zt,kZ _,by unfold Q6;simp only[hv0,hv1,hv2,hv3,hv4,hv5,hv6,hv7,hv8,hv9,hv10,jf,j6,j4,jW,jR,jH,jD,jN,jQ,jJ,jT]⟩
  |true=>
  refine Q.r ?_;exact ⟨true,zt,kZ _,by unfold Q6;simp only[hv0,hv1,hv2,hv3,hv4,hv5,hv6,hv7,hv8,hv9,hv10,j6,j4,jW,jR,jH,jD,jN,jQ,jJ,jT]⟩
 intro b0 hb0;rw[←hb0,←Bool.and_assoc];clear hb0;refine wE ?_;refine Vt ?_;refine QQ (σ:=Bool) (λs=> [(1,.pointer (some ⟨b1,0,none⟩)),(6,.bool s)]) (λs=>pt b1 (cl n.cells 43)::A) (λs=>s=(b0&&ZL k n.abs)) ?_ ?_
 ·cases b0 with
  |false=>
   refine Q.r ?_;exact ⟨false,zt,kZ _,rfl⟩
  |true=>
  rw[jJ];refine Q.r ?_;refine S.y (Y.cvi rfl) ?_;rw[wrap_u64 zo zo];refine Q.r ?_;refine S.cr rfl (ww k 112 n.kind 112 (n.parts.length:Nat) 4 hkk rfl _ hk255) ?_;rintro _ _ ⟨rfl,rfl⟩
  cases hv0:xy k 112 (n.parts.length:Nat) 4 with
  |false=>
   refine Q.r ?_;exact ⟨false,zt,kZ _,by unfold ZL;simp only[hv0,jf,j6,j4,jW,jR,jH,jD,jN,jQ,jJ,jT]⟩
  |true=>
  refine Q.r ?_;refine S.y (Y.cvi rfl) ?_;rw[wrap_u64 zo zo];refine Q.r ?_;refine S.cr rfl (ww k 111 n.kind 111 (n.ops.length:Nat) 16 hkk rfl _ hk255) ?_;rintro _ _ ⟨rfl,rfl⟩
  cases hv1:xy k 111 (n.ops.length:Nat) 16 with
  |false=>
   refine Q.r ?_;exact ⟨false,zt,kZ _,by unfold ZL;simp only[hv0,hv1,jf,j6,j4,jW,jR,jH,jD,jN,jQ,jJ,jT]⟩
  |true=>
  refine Q.r ?_;refine S.y (Y.cvi rfl) ?_;rw[wrap_u64 zo zo];refine Q.r ?_;refine S.cr rfl (ww k 118 n.kind 118 (n.vec.length:Nat) 8 hkk rfl _ hk255) ?_;rintro _ _ ⟨rfl,rfl⟩
  cases hv2:xy k 118 (n.vec.length:Nat) 8 with
  |false=>
   refine Q.r ?_;exact ⟨false,zt,kZ _,by unfold ZL;simp only[hv0,hv1,hv2,jf,j6,j4,jW,jR,jH,jD,jN,jQ,jJ,jT]⟩
  |true=>
  refine Q.r ?_;refine S.y (Y.cvi rfl) ?_;rw[wrap_u64 zo zo];refine Q.r ?_;refine S.cr rfl (ww k 104 n.kind 104 (n.hits.length:Nat) 16 hkk rfl _ hk255) ?_;rintro _ _ ⟨rfl,rfl⟩
  cases hv3:xy k 104 (n.hits.length:Nat) 16 with
  |false=>
   refine Q.r ?_;exact ⟨false,zt,kZ _,by unfold ZL;simp only[hv0,hv1,hv2,hv3,jf,j6,j4,jW,jR,jH,jD,jN,jQ,jJ,jT]⟩
  |true=>
  refine Q.r ?_;refine S.cr rfl (cG n.va n.vc n.vec _ h.v.sub hk.v) ?_;rintro _ _ ⟨rfl,rfl⟩
  cases hv5:ws n.vec with
  |false=>
   refine Q.r ?_;exact ⟨false,zt,kZ _,by unfold ZL;simp only[hv0,hv1,hv2,hv3,hv5,jf,j6,j4,jW,jR,jH,jD,jN,jQ,jJ,jT]⟩
  |true=>
   refine Q.r ?_;exact ⟨true,zt,kZ _,by unfold ZL;simp only[hv0,hv1,hv2,hv3,hv5,jf,j6,j4,jW,jR,jH,jD,jN,jQ,jJ,jT]⟩
 intro b hb;rw[←hb,←Bool.and_assoc];clear hb b0;refine Q.r ?_;refine qw (σ:=Bool) (λs=> [(1,.pointer (some ⟨b1,0,none⟩)),(6,.bool s)]) (λs=>pt b1 (cl n.cells 43)::A) (λs=>s=(b&&vX n.parts)) ?_ ?_
 ·refine ql (σ:=Nat×Bool) (λs=> [(1,.pointer (some ⟨b1,0,none⟩)),(149,.slice n.pa n.parts.length n.pc),(150,.int .i64 n.parts.length),(6,.bool s.2),(151,.int .i64 s.1)])
   (λ_=>pt b1 (cl n.cells 43)::A) (λs=>s.1≤n.parts.length∧s.2=(b&&(List.range s.1).all (dE n.parts))) (λs=>n.parts.length - s.1) (0,b) zt (kZ _) ⟨by omega,by simp⟩ ?_
  rintro ⟨i,t⟩ ⟨hi,ht⟩;dsimp only at hi ht ⊢
  by_cases hlt:i<n.parts.length
  ·have hst:(b&&(List.range (i+1)).all (dE n.parts))=(t&&dE n.parts i):=by
    rw[List.range_succ,List.all_append,←Bool.and_assoc,←ht,List.all_cons,List.all_nil,jT]
   clear ht;obtain ⟨p,hp⟩:=qx hlt;obtain ⟨bp,op,hpa,hr⟩:=qY.elem (g:=λz=> [I64 z]) (λ_=>rfl) (by rw[yP];exact h.p) hp rfl;have hgp:n.parts.getD i 0=p:=by rw[j8,hp];rfl
   cases t with
   |false=>
    rw[hpa]
    repeat (first|refine S.y (Y.ldRj rfl (by first|assumption|exact vi.sub (by assumption)) rfl) ?_|(refine GQ.y ?_;refine Q.y ?_)|refine Q.go ?_|(refine GQ.g ?_;refine Q.gq ?_)|(refine GQ.s ?_;refine Q.st ?_)|(refine GQ.g ?_;refine Q.gd ?_)|refine Q.ct rfl ?_|refine Q.cf rfl ?_|(refine GQ.a ?_;refine Q.al (λb1=> ?_)))
    exact ⟨(i+1,false),⟨rfl,by first|rfl|(rw[←hpa];rfl),rfl,rfl,rfl,trivial⟩,kZ _,⟨by dsimp only;omega,by rw[hst];rfl⟩,by dsimp only;omega⟩
   |true=>
   rw[jJ] at hst
   by_cases e1:p<0
   ·rw[hpa]
    repeat (first|refine S.y (Y.ldRj rfl (by first|assumption|exact vi.sub (by assumption)) rfl) ?_|(refine GQ.y ?_;refine Q.y ?_)|refine Q.go ?_|(refine GQ.g ?_;refine Q.gq ?_)|(refine GQ.s ?_;refine Q.st ?_)|(refine GQ.g ?_;refine Q.gd ?_)|refine Q.ct rfl ?_|refine Q.cf rfl ?_|(refine GQ.a ?_;refine Q.al (λb1=> ?_)))
    exact ⟨(i+1,false),⟨rfl,by first|rfl|(rw[←hpa];rfl),rfl,rfl,rfl,trivial⟩,kZ _,⟨by dsimp only;omega,by rw[hst];unfold dE;rw[hgp,jv (by omega:¬0≤p)];rfl⟩,by dsimp only;omega⟩
   by_cases e2:16≤p
   ·rw[hpa]
    repeat (first|refine S.y (Y.ldRj rfl (by first|assumption|exact vi.sub (by assumption)) rfl) ?_|(refine GQ.y ?_;refine Q.y ?_)|refine Q.go ?_|(refine GQ.g ?_;refine Q.gq ?_)|(refine GQ.s ?_;refine Q.st ?_)|(refine GQ.g ?_;refine Q.gd ?_)|refine Q.ct rfl ?_|refine Q.cf rfl ?_|(refine GQ.a ?_;refine Q.al (λb1=> ?_)))
    exact ⟨(i+1,false),⟨rfl,by first|rfl|(rw[←hpa];rfl),rfl,rfl,rfl,trivial⟩,kZ _,⟨by dsimp only;omega,by rw[hst];unfold dE;rw[hgp,jv (by omega:¬p<16),jQ];rfl⟩,by dsimp only;omega⟩
   by_cases e3:i=0
   ·subst e3
    rw[hpa]
    repeat (first|refine S.y (Y.ldRj rfl (by first|assumption|exact vi.sub (by assumption)) rfl) ?_|(refine GQ.y ?_;refine Q.y ?_)|refine Q.go ?_|(refine GQ.g ?_;refine Q.gq ?_)|(refine GQ.s ?_;refine Q.st ?_)|(refine GQ.g ?_;refine Q.gd ?_)|refine Q.ct rfl ?_|refine Q.cf rfl ?_|(refine GQ.a ?_;refine Q.al (λb1=> ?_)))
    exact ⟨(1,true),⟨rfl,by first|rfl|(rw[←hpa];rfl),rfl,rfl,rfl,trivial⟩,kZ _,⟨by dsimp only;omega,by rw[hst];unfold dE;rw[hgp,jo (by omega:(0:Int)≤p),jo (by omega:p<16)];rfl⟩,by dsimp only;omega⟩
   ·obtain ⟨q,hq⟩:=qx (l:=n.parts) (show i - 1<n.parts.length by omega)
    obtain ⟨bq,oq,hqa,hr2⟩:=qY.elem (g:=λz=> [I64 z]) (λ_=>rfl) (by rw[yP];exact h.p) hq rfl;have hgq:n.parts.getD (i - 1) 0=q:=by rw[j8,hq];rfl
    have hv:dE n.parts i=decide (q<p):=by
     unfold dE;rw[hgp,hgq,jo (by omega:(0:Int)≤p),jo (by omega:p<16),jv e3];simp only[j6,j4,jW,jR,jH,jD,jN,jQ,jJ,jT]
    rw[hv] at hst;rw[hpa];refine Q.rd6 ?_;rw[←hpa,hqa];refine Q.rd6 ?_;exact ⟨(i+1,decide (q<p)),⟨rfl,by first|rfl|(rw[←hqa];rfl)|(rw[hqa];rfl),rfl,rfl,rfl,trivial⟩,kZ _,⟨by dsimp only;omega,by rw[hst]⟩,by dsimp only;omega⟩
  ·have hie:i=n.parts.length:=by omega
   subst hie;refine Q.r ?_;exact ⟨t,zt,kZ _,ht⟩
 intro b2 hb2;rw[←hb2,←Bool.and_assoc];clear hb2 b;refine Q.r ?_;refine qw (σ:=Bool) (λs=> [(1,.pointer (some ⟨b1,0,none⟩)),(6,.bool s)]) (λs=>pt b1 (cl n.cells 43)::A) (λs=>s=(b2&& !(n.ops.any λo=>xv o.abs))) ?_ ?_
 ·refine ql (σ:=Nat×Bool) (λs=> [(1,.pointer (some ⟨b1,0,none⟩)),(181,.slice n.oa n.ops.length n.oc),(182,.int .i64 n.ops.length),(6,.bool s.2),(183,.int .i64 s.1)])
   (λ_=>pt b1 (cl n.cells 43)::A) (λs=>s.1≤n.ops.length∧s.2=(b2&& !((n.ops.take s.1).any λo=>xv o.abs))) (λs=>n.ops.length - s.1) (0,b2) zt (kZ _) ⟨by omega,by simp⟩ ?_
  rintro ⟨i,t⟩ ⟨hi,ht⟩;dsimp only at hi ht ⊢
  by_cases hlt:i<n.ops.length
  ·obtain ⟨o,ho⟩:=qx hlt
   have hmo:o∈n.ops:=jn ho;have hst:(b2&& !((n.ops.take (i+1)).any λo=>xv o.abs))=(t&& !xv o.abs):=by
    rw[qA ho,kW,Bool.not_or,←Bool.and_assoc,←ht,kX,List.any_nil,jW]
   clear ht;obtain ⟨bp,op,hpa,hr⟩:=qY.elem (g:=OV.cells) (λ_=>rfl) h.o.1 ho rfl;rw[hpa]
   cases t with
   |false=>
    refine Q.r ?_;(repeat (intro b1;refine Q.r ?_));exact ⟨(i+1,false),zt,by exact eG,⟨by dsimp only;omega,by rw[hst];rfl⟩,by dsimp only;omega⟩
   |true=>
   rw[jJ] at hst
   by_cases e1:1099511627776<o.id
   ·refine Q.r ?_;(repeat (intro b1;refine Q.r ?_))
    exact ⟨(i+1,false),zt,by exact eG,⟨by dsimp only;omega,by rw[hst];unfold xv;rw[jo e1];rfl⟩,by dsimp only;omega⟩
   ·refine Q.r ?_;(repeat (intro b1;refine Q.r ?_))
    refine S.cr rfl (cG o.a o.c o.vec _ ((h.o.2 o hmo).sub) (hk.ov o hmo)) ?_;rintro _ _ ⟨rfl,rfl⟩;refine Q.r ?_;exact ⟨(i+1,ws o.vec),zt,by exact eG,⟨by dsimp only;omega,by rw[hst];unfold xv;rw[jv e1];simp only[j6,j4,jW,jR,jH,jD,jN,jQ,jJ,jT,Bool.not_not]⟩,by dsimp only;omega⟩
  ·have hie:i=n.ops.length:=by omega
   subst hie;rw[jI] at ht;refine Q.r ?_;exact ⟨t,zt,kZ _,ht⟩
 intro b3 hb3;rw[←hb3];clear hb3 b2;refine Q.r ?_;refine qw (σ:=Bool) (λs=> [(6,.bool s)]) (λs=>A) (λs=>s=(b3&& !(n.hits.any λo=>yd o.abs))) ?_ ?_
 ·refine ql (σ:=Nat×Bool) (λs=> [(200,.slice n.ha n.hits.length n.hc),(201,.int .i64 n.hits.length),(6,.bool s.2),(202,.int .i64 s.1)])
   (λ_=>A) (λs=>s.1≤n.hits.length∧s.2=(b3&& !((n.hits.take s.1).any λo=>yd o.abs))) (λs=>n.hits.length - s.1) (0,b3) zt (qi.drop (kZ _)) ⟨by omega,by simp⟩ ?_
  rintro ⟨i,t⟩ ⟨hi,ht⟩;dsimp only at hi ht ⊢
  by_cases hlt:i<n.hits.length
  ·obtain ⟨o,ho⟩:=qx hlt
   have hmo:o∈n.hits:=jn ho;have hst:(b3&& !((n.hits.take (i+1)).any λo=>yd o.abs))=(t&& !yd o.abs):=by
    rw[qA ho,kW,Bool.not_or,←Bool.and_assoc,←ht,kX,List.any_nil,jW]
   clear ht;obtain ⟨bp,op,hpa,hr⟩:=qY.elem (g:=HV.cells) (λ_=>rfl) h.h ho rfl;rw[hpa]
   cases t with
   |false=>
    refine Q.r ?_;(repeat (intro b1;refine Q.r ?_));exact ⟨(i+1,false),zt,by exact eG,⟨by dsimp only;omega,by rw[hst];rfl⟩,by dsimp only;omega⟩
   |true=>
   rw[jJ] at hst
   by_cases e1:1099511627776<o.id
   ·refine Q.r ?_;(repeat (intro b1;refine Q.r ?_))
    exact ⟨(i+1,false),zt,by exact eG,⟨by dsimp only;omega,by rw[hst];unfold yd;rw[jo e1];rfl⟩,by dsimp only;omega⟩
   ·refine Q.r ?_;(repeat (intro b1;refine Q.r ?_))
    refine S.cr rfl (Xt o.a o.c o.vec _ ((h.hv o hmo).sub) (by have:=hk.hv o hmo;omega)) ?_;rintro _ _ ⟨rfl,rfl⟩;refine Q.r ?_;exact ⟨(i+1,wQ o.vec),zt,by exact eG,⟨by dsimp only;omega,by rw[hst];unfold yd;rw[jv e1];simp only[j6,j4,jW,jR,jH,jD,jN,jQ,jJ,jT,Bool.not_not]⟩,by dsimp only;omega⟩
  ·have hie:i=n.hits.length:=by omega
   subst hie;rw[jI] at ht;refine Q.r ?_;exact ⟨t,zt,kZ _,ht⟩
 intro b4 hb4;rw[←hb4];refine Q.r ?_;exact N.t rfl (kZ _) ⟨rfl,rfl⟩
end Go.Proofs.YtlnfjhiphlfkjaaGreatDoor
namespace Go.SX
open Go
end Go.SX
namespace Go.Proofs.YtlnfjhiphlfkjaaGreatDoor
open Go Go.SX
attribute [local irreducible] swp qq qL qJ vZ qh St qi qk vu qH
structure QV where
 txn:Int
 a:OA
 c:Nat
 l:List Int
abbrev QV.cells (v:QV):List Value:=[.int .u64 v.txn,.slice v.a v.l.length v.c]
abbrev QV.abs (v:QV):Int×List Int:=(v.txn,v.l)
abbrev dC (d:Int×Int):List Value:=[.int .u64 d.1,.int .u64 d.2]
structure jGT (M:OM)(j:JS)(sf:Int)(pa:OA)(pc:Nat)(ps:List QV)(da:OA)(dc:Nat)(ds:List (Int×Int)):Prop where
 s1:1≤sf
 s2:sf=j.v.dim
 pp:(ps.map QV.abs).Perm j.parts
 po:∀u∈ps,qI M u.a u.l.length 1 (u.l.map I64)
 pS:qI M pa ps.length 2 (ps.flatMap QV.cells)
 dp:ds.Perm j.done
 sd:(ds.map (·.1)).Pairwise (· < ·)
 dS:qI M da ds.length 2 (ds.flatMap dC)
 dc:ds.length≤dc
 kp:qm j.parts
 kd:qm j.done
structure RJX where
 v:Nat
 self:Int
 pa:OA
 pc:Nat
 ps:List QV
 da:OA
 dc:Nat
 ds:List (Int×Int)
 M:OM
section
variable {n : Nat} {ops rest : List Oper} {cd : Code} {Q : vm} {f : vL} {L L0 : HL} {j : JS}
end
abbrev vA (m:Int×NV):List Value:=I64 m.1::m.2.cells
end Go.Proofs.YtlnfjhiphlfkjaaGreatDoor
namespace Go.SX
open Go
section
variable {P : Program} {n : Nat} {ops rest : List Oper} {cd : Code} {Q : vm} {f : vL} {L L0 L1 L2 : HL} {d : Tmp} {ty : TypeId} {pos : String} {af : Array Edge} {A B C : HP} {g : FuncId} {xs : Array Operand} {ats : Array TypeId} {args : List Value} {R : Value → HL → Prop}
theorem S.c1 [he:qj P g](hx:xJ f xs.toList=some args)(hc:qh P g args (A::L0) R)[h1:xp A L L0](hk:∀v L',R v L'→qq P n ops rest Q (upd f d v) L'):
  qq P n ops (⟨some d,.call ⟨.value (.func g),xs,ats⟩,ty,pos,af,none⟩::rest) Q f L:=qo h1.ent (S.cr hx hc hk)
theorem S.c2 [he:qj P g](hx:xJ f xs.toList=some args)(hc:qh P g args (A::B::L1) R)[h1:xp A L L0][h2:xp B L0 L1](hk:∀v L',R v L'→qq P n ops rest Q (upd f d v) L'):
  qq P n ops (⟨some d,.call ⟨.value (.func g),xs,ats⟩,ty,pos,af,none⟩::rest) Q f L:=qo (h1.ent.trans h2.ent.cons) (S.cr hx hc hk)
theorem S.c3 [he:qj P g](hx:xJ f xs.toList=some args)(hc:qh P g args (A::B::C::L2) R)[h1:xp A L L0][h2:xp B L0 L1][h3:xp C L1 L2](hk:∀v L',R v L'→qq P n ops rest Q (upd f d v) L'):
  qq P n ops (⟨some d,.call ⟨.value (.func g),xs,ats⟩,ty,pos,af,none⟩::rest) Q f L:=qo (h1.ent.trans (h2.ent.trans h3.ent.cons).cons) (S.cr hx hc hk)
end
end Go.SX
namespace Go.Proofs.YtlnfjhiphlfkjaaGreatDoor
open Go Go.SX
attribute [local irreducible] swp qq qL qJ vZ qh St qi qk vu qH
def liftQ (n:NV)(r:NA):NV:=if r.kind=12 then ⟨12,n.txn,0,0,n.after,0,0,0,0,0,0,0,n.pa,n.pc,n.parts,n.oa,n.oc,n.ops,none,0,[],none,0,[]⟩ else r.nv
section
variable {n : Nat} {ops rest : List Oper} {cd : Code} {Q : vm} {f : vL} {L L0 : HL}
end
theorem jGT.same {M:OM}{j j':JS}{sf:Int}{pa:OA}{pc:Nat}{ps:List QV}{da:OA}{dc:Nat}{ds:List (Int×Int)}(h:jGT M j sf pa pc ps da dc ds)(hj:j'.parts=j.parts)(hd:j'.done=j.done)(hdm:j'.v.dim=j.v.dim:=by first|rfl|exact WH _ _ _ _|exact VO _ _ _|exact Vv _ _):jGT M j' sf pa pc ps da dc ds:=
 ⟨h.s1,h.s2.trans hdm.symm,hj▸h.pp,h.po,h.pS,hd▸h.dp,h.sd,h.dS,h.dc,hj▸h.kp,hd▸h.kd⟩
def jGQ (A:HL)(a:OA)(xs:List NV):Prop:=qY A a xs.length 16 (xs.flatMap NV.cells)∧∀n∈xs,RdN A n∧OkN n
def jGR (A:HL)(a:OA)(xs:List (Int×NV)):Prop:=qY A a xs.length 17 (xs.flatMap vA)∧∀n∈xs,RdN A n.2∧OkN n.2
theorem jGQ.sub {A L:HL}{a:OA}{xs:List NV}(h:jGQ A a xs)[s:Sub A L]:jGQ L a xs:=⟨h.1.sub,λn hn=>⟨(h.2 n hn).1.sub,(h.2 n hn).2⟩⟩
theorem jGR.sub {A L:HL}{a:OA}{xs:List (Int×NV)}(h:jGR A a xs)[s:Sub A L]:jGR L a xs:=⟨h.1.sub,λn hn=>⟨(h.2 n hn).1.sub,(h.2 n hn).2⟩⟩
structure EO where
 fr:Int
 n:NV
 w:Bool
 r:Bool
 ask:Int
 id:Int
abbrev EO.cells (o:EO):List Value:=[.int .i64 o.fr,.int .u8 o.n.kind,.int .u64 o.n.txn,.int .u64 o.n.batch,.int .u64 o.n.stamp,.int .u64 o.n.after,.int .u64 o.n.mark,.int .u64 o.n.query,.int .u64 o.n.id,.int .i64 o.n.k,.int .i64 o.n.ef,.int .i64 o.n.code,.int .i64 o.n.who,
 .slice o.n.pa o.n.parts.length o.n.pc,.slice o.n.oa o.n.ops.length o.n.oc,.slice o.n.va o.n.vec.length o.n.vc,.slice o.n.ha o.n.hits.length o.n.hc,.bool o.w,.bool o.r,.int .u64 o.ask,.int .u64 o.id]
structure EOK (M:OM)(o:EO):Prop where
 n:xN M o.n
 c:mO o.n
 u:ZX o.n
 uu:xW o.n.abs
theorem EOK.mono {M M':OM}{o:EO}(h:EOK M o)(hl:qV M M'):EOK M' o:=⟨h.n.mono hl,h.c,h.u,h.uu⟩
theorem ZX.few {n':NV}{n:NV}(h:ZX n)(e:n'.abs=n.abs.few):ZX n':=by
 have e1:n'.kind=n.kind:=jj NA.kind e;have e2:n'.txn=n.txn:=jj NA.txn e;have e3:n'.stamp=n.stamp:=jj NA.stamp e;have e4:n'.mark=n.mark:=jj NA.mark e;have e5:n'.after=n.after:=jj NA.after e;exact ⟨by rw[e1];exact h.kind,by rw[e2];exact h.txn,by rw[e3];exact h.stamp,by rw[e4];exact h.mark,by rw[e5];exact h.after⟩
section
variable {n : Nat} {ops rest : List Oper} {Q : vm} {f : vL} {L L0 : HL} {M : OM}
end
structure jJk (j:JS)(k:Nat)(P:List (Int×Bool)):Prop where
 ok:JOK j k
 kP:qm P
 pr:∀t,(qE j.v.its t).isSome=true→qE P t=some true
structure S5 where
 b9:Nat
 b10:Nat
 ra:OA
 rc:Nat
 ma:OA
 mc:Nat
 ea:OA
 ec:Nat
 qa:OA
 qc:Nat
 qb:OA
 qd:Nat
 qe:OA
 qf:Nat
 M:OM
theorem xW.few {n':NV}{n:NV}(h:xW n.abs)(e:n'.abs=n.abs.few):xW n'.abs:=by
 rw[e];exact ⟨h.kind,h.txn,h.batch,h.stamp,h.after,h.mark,h.query,h.id,h.k,h.ef,h.code,h.who⟩
structure jJi (n2 n1:NV)(r:NA):Prop where
 e1:(bR n2 r).abs=r
 e2:(liftQ n1 r).abs=r
 n2:ZX (bR n2 r)
 u1:xW (liftQ n1 r).abs
theorem xN.lift {M:OM}{n:NV}(h:xN M n)(r:NA):xN M (bR n r):=by
 unfold bR
 split
 ·exact ⟨h.p,h.o,h.v,h.h,h.hv⟩
 ·exact xN.nv r
theorem OkN.lift {n:NV}(h:OkN n)(r:NA):OkN (bR n r):=by
 unfold bR
 split
 ·exact ⟨h.p,h.o,h.ov,h.v,h.h,h.hv⟩
 ·exact OkN.nv r
theorem xN.liftQ {M:OM}{n:NV}(h:xN M n)(r:NA):xN M (liftQ n r):=by
 unfold Go.Proofs.YtlnfjhiphlfkjaaGreatDoor.liftQ
 split
 ·exact ⟨h.p,h.o,qI.nil0,qI.nil0,λo ho=>by cases ho⟩
 ·exact xN.nv r
theorem OkN.liftQ {n:NV}(h:OkN n)(r:NA):OkN (liftQ n r):=by
 unfold Go.Proofs.YtlnfjhiphlfkjaaGreatDoor.liftQ
 split
 ·exact ⟨h.p,h.o,h.ov,jw _,jw _,λo ho=>by cases ho⟩
 ·exact OkN.nv r
theorem JOW.zero {dim:Int}(h1:1≤dim)(h2:dim≤8):JOW ⟨⟨dim,[],[],0⟩,[],[]⟩ 0:=
 ⟨⟨⟨h1,h2,jz _,(λi hi=>by cases hi),jz _,(λc hc=>by cases hc)⟩,by simp[qm],by simp[qm]⟩,by simp[qm],by simp[qm],(λt s h=>by cases h),ki _,(λc hc=>by cases hc),(λi hi=>by cases hi),jz _,jz _⟩
attribute [local irreducible] zN
theorem pO {α:Type}(rr:α→Value)(bm b:Nat)(m:List (Int×α))(A:HL):Wo kY 133 [.pointer (some ⟨bm,0,none⟩)] U64 m.length (λks=>ks.Perm (m.map (·.1)))
  (pt bm (cl [.map (some b)] 129)::VX U64 rr b m::A) (VX U64 rr b m::A):=by
 intro l J hJ;refine qg Tryz.func133 rfl rfl rfl ?_;refine Q.r ?_;refine S.rg rfl (λr=> ?_);refine Q.r ?_;refine ql (σ:=List Nat) (λvis=> [(0,.func (.yield l) #[] #[]),(5,.pointer (some ⟨r,0,none⟩))])
  (λvis=>J (vis.filterMap λi=>(m[i]?).map (·.1))::bS U64 rr b r m vis::A) (λvis=>vis.Nodup∧∀i∈vis,i<m.length) (λvis=>m.length - vis.length) [] zt (by simp only[List.filterMap_nil];exact eG) ⟨by simp,by simp⟩ ?_
 rintro vis ⟨hv1,hv2⟩;refine Q.r ?_;refine S.nx rfl (λhend=> ?_) (λi p hp hi=> ?_)
 ·refine Q.r ?_
  exact N.n0 RV.nil (qi.cons QU) ⟨_,X0 _ hv1 hv2 hend,rfl⟩
 ·have hil:i<m.length:=(jm.1 hp).1
  obtain ⟨hm1,hm2,hm3⟩:=K6 hv1 hv2 hil hi;have hvl:(vis.filterMap λi=>(m[i]?).map (·.1)).length≤vis.length:=List.length_filterMap_le _ _;have happ:((vis++[i]).filterMap λi=>(m[i]?).map (·.1))=(vis.filterMap λi=>(m[i]?).map (·.1))++[p.1]:=by
   rw[List.filterMap_append];simp[hp]
  refine Q.r ?_;refine S.y (Y.en rfl hp) ?_;refine S.y (Y.ext rfl rfl) ?_;refine S.y (Y.as rfl) ?_;refine qQ ?_;refine N.tn ?_;refine wE ?_;refine Jy ?_;refine qy (λ_ h=>by cases h) rfl ?_;refine Q.r ?_;refine qy (λ_ h=>by cases h) rfl ?_;refine Q.r ?_;refine KH rfl rfl ((hJ _ p.1 zo).frame (R:=_)) ?_;refine qy (λ_ h=>by cases h) rfl ?_;refine Q.r ?_;refine wW ?_;refine Q.r ?_;refine ⟨vis++[i],zt,?_,⟨hm1,hm2⟩,by simp;omega⟩;rw[happ];exact eG
theorem ZY (mo:Option Nat)(L:HL):qh kY 67 [.map mo] L
  (λv L'=>∃bm,v=.func (.func 133) #[] [.pointer (some ⟨bm,0,none⟩)].toArray∧L'=pt bm (cl [.map mo] 129)::L):=by
 refine qg Tryz.func67 rfl rfl rfl ?_;refine Q.r ?_;(repeat (intro b1;refine Q.r ?_));refine S.y (Y.mf rfl rfl) ?_;refine Q.r ?_;exact N.t rfl (kZ _) ⟨_,rfl,rfl⟩
def jD1 {α:Type}(m:List (Int×α)):List (Int×α):=(vq (m.map (·.1))).filterMap λk=>(qE m k).map λa=>(k,a)
abbrev dw (v:Int×List Int):List UInt8:=numI v.1++wh v.2
abbrev jD9 (e:Int×VL):List UInt8:=numI e.1++numI (e.2.length:Int)++e.2.flatMap dw
abbrev jB3 (x:Int):List UInt8:=numI (IntKind.u64.wrap x)
abbrev jD8 (parts:List (Int×List Int))(i:Int×Int×VL):List UInt8:=numI i.1++numI i.2.1++numI (((qE parts i.1).getD []).length:Int)++((qE parts i.1).getD []).flatMap jB3++numI (i.2.2.length:Int)++i.2.2.flatMap dw
abbrev jB4 (done:List (Int×Int))(t:Int):List UInt8:=numI t++numI ((qE done t).getD 0)
def Xj (j:JS):List UInt8:=
 numI j.v.mark++numI ((jD1 j.v.ch).length:Int)++(jD1 j.v.ch).flatMap jD9++numI ((jD1 j.v.its).length:Int)++(jD1 j.v.its).flatMap (jD8 j.parts)++numI (j.done.length:Int)++(vq (j.done.map (·.1))).flatMap (jB4 j.done)
end Go.Proofs.YtlnfjhiphlfkjaaGreatDoor
namespace Go.Proofs.YtlnfjhiphlfkjaaGreatDoor
open Go Go.SX
structure JPK (j:JS):Prop where
 m:j.v.mark≤18446744073709551615
 its:∀i∈j.v.its,i.1≤18446744073709551615∧i.2.1≤18446744073709551615∧∀o∈i.2.2,o.1≤18446744073709551615
 ch:∀c∈j.v.ch,c.1≤18446744073709551615∧∀v∈c.2,v.1≤18446744073709551615
 done:∀d∈j.done,d.1≤18446744073709551615∧d.2≤18446744073709551615
 parts:∀u∈j.parts,u.2.length≤4
theorem JPK.zero {dim:Int}:JPK ⟨⟨dim,[],[],0⟩,[],[]⟩:=⟨by show (0:Int)≤18446744073709551615;decide,(λi hi=>by cases hi),(λi hi=>by cases hi),(λi hi=>by cases hi),(λi hi=>by cases hi)⟩
theorem bf {n:NA}(h:qn n=true):n.parts.length≤4∧∀o∈n.ops,o.1≤1099511627776:=by
 unfold qn vV at h;simp only[jF,kL,Bool.or_eq_false_iff,j5,List.any_eq_false] at h;refine ⟨by have:=h.2.1.1.1.2.1.1.1;omega,λo ho=> ?_⟩;have h4:=h.2.1.2 o ho;unfold xv at h4;rw[Bool.not_eq_true,Bool.or_eq_false_iff,j5] at h4;omega
theorem Qc {κ α:Type}[DecidableEq κ]{m:List (κ×α)}{k:κ}{a:α}{x:κ×α}(h:x∈qN m k a):x∈m∨x=(k,a):=by
 unfold qN at h
 split at h
 ·obtain ⟨u,hu,rfl⟩:=jM.1 h
  split
  ·exact .inr rfl
  ·exact .inl hu
 ·rcases jy.1 h with h|h
  ·exact .inl h
  ·exact .inr (ji.1 h)
theorem jDY {s:Int}{u:List (Int×VL)×GL}{id:Int}{c:Int×VL}(h:c∈(W9 s u id).1):∃c0∈u.1,c.1=c0.1∧∀v∈c.2,v∈c0.2:=by
 unfold W9 at h;dsimp only at h
 split at h
 ·exact ⟨c,(jB.1 h).1,rfl,λv hv=>hv⟩
 ·rename_i h0
  rcases Qc h with h|rfl
  ·exact ⟨c,h,rfl,λv hv=>hv⟩
  ·cases hz:qE u.1 id with
   |none=>
    exfalso
    apply h0;unfold xe;rw[hz];simp
   |some w=>
    refine ⟨_,vM hz,rfl,λv hv=> ?_⟩;have e:xe u.1 id=w:=by unfold xe;rw[hz];rfl
    rw[e] at hv;exact List.mem_of_mem_drop hv
theorem df {s:Int}{c:Int×VL}:∀{ks:List Int} {u:List (Int×VL)×GL},c∈(ks.foldl (W9 s) u).1→∃c0∈u.1,c.1=c0.1∧∀v∈c.2,v∈c0.2
 | [],_,h=>⟨c,h,rfl,λv hv=>hv⟩
 |k::ks,u,h=>by
  obtain ⟨c1,h1,e1,g1⟩:=df (ks:=ks) h;obtain ⟨c0,h0,e0,g0⟩:=jDY h1;exact ⟨c0,h0,e1.trans e0,λv hv=>g0 v (g1 v hv)⟩
theorem JPK.app {j:JS}{k:Nat}(hj:JOW j k)(h:JPK j){n:NA}(u:xW n):JPK (yQ j n):=by
 have u1:=u.txn;have u2:=u.after;have u3:=u.stamp;unfold yQ
 split
 ·exact h
 rename_i hE;have hE:QB j n=0:=Decidable.not_not.1 hE;have hr:qn n=true:=by
  cases hz:qn n with
  |true=>rfl
  |false=>unfold QB at hE;rw[jb hz] at hE;cases hE
 have hro:=bf hr;unfold QB at hE;rw[ja (by rw[hr];decide)] at hE
 split
 ·refine ⟨?_,λi hi=> ?_,?_,h.done,λv hv=> ?_⟩
  ·dsimp only;unfold xI;split<;>exact h.m
  ·dsimp only at hi
   unfold xI at hi
   split at hi
   ·rcases jy.1 hi with hi|hi
    ·exact h.its i hi
    ·rw[ji.1 hi]
     exact ⟨u1.2,u2.2,λo ho=>by have:=hro.2 o ho;omega⟩
   ·exact h.its i hi
  ·dsimp only;unfold xI;split<;>exact h.ch
  ·rcases Qc hv with hv|rfl
   ·exact h.parts v hv
   ·exact hro.1
 rename_i c1;rw[ja c1] at hE
 split
 ·rename_i c2
  rw[jb c2] at hE;obtain ⟨i,hi⟩:=Xq hE;have hSv:xf j.v n.txn n.stamp={j.v with ch:=yz n.stamp j.v.ch i.2,its:=qO j.v.its n.txn}:=by unfold xf;rw[hi];dsimp only;rw[jb hE]
  refine ⟨?_,?_,?_,λd hd=> ?_,λv hv=>h.parts v (jB.1 hv).1⟩
  ·rw[hSv];exact h.m
  ·rw[hSv];exact λi hi=>h.its i (jB.1 hi).1
  ·rw[hSv]
   intro c hc;have hii:=h.its _ (vM hi)
   rcases zh hj.w.k1 (hj.w.wf.io _ (vM hi)).2.1 hc with hc|⟨o,ho,rfl⟩
   ·exact h.ch c hc
   ·refine ⟨hii.2.2 o ho,λv hv=> ?_⟩
    rcases jy.1 hv with hv|hv
    ·unfold xe at hv
     cases hz:qE j.v.ch o.1 with
     |none=>rw[hz] at hv;cases hv
     |some w=>rw[hz] at hv;exact (h.ch _ (vM hz)).2 v hv
    ·rw[ji.1 hv];exact u3.2
  ·rcases Qc hd with hd|rfl
   ·exact h.done d hd
   ·exact ⟨u1.2,u3.2⟩
 split
 ·exact ⟨h.m,λi hi=>h.its i (jB.1 hi).1,h.ch,h.done,λv hv=>h.parts v (jB.1 hv).1⟩
 split
 ·refine ⟨?_,?_,?_,h.done,h.parts⟩
  ·have:=h.m
   dsimp only;unfold wO
   split<;>(try dsimp only)<;>omega
  ·dsimp only
   unfold wO
   split<;>exact h.its
  ·dsimp only
   unfold wO
   split
   ·exact h.ch
   ·intro c hc
    obtain ⟨c0,h0,e0,g0⟩:=df (u:=(j.v.ch,[])) hc;have:=h.ch c0 h0;exact ⟨by rw[e0];exact this.1,λv hv=>this.2 v (g0 v hv)⟩
 ·exact h
attribute [local irreducible] swp qq qL qJ vZ qh St qi qk vu qH
theorem yO {α:Type}{f:α→List UInt8}{c:Nat}:∀{l:List α},(∀x∈l,(f x).length≤c)→(l.flatMap f).length≤l.length*c
 | [],_=>by simp
 |x::l,h=>by
  have h1:=h x (by simp);have h2:=yO (f:=f) (c:=c) (l:=l) (λy hy=>h y (jV _ hy));rw[jK,jc,jC,Nat.succ_mul];omega
theorem jBq {v:List Int}(h:v.length≤8):(wh v).length≤90:=by
 unfold wh;have h1:=qr (z:=(v.length:Int)) zo;have h2:(v.flatMap λn=>numI (Vq n)).length≤v.length*10:=yO λn _=>qr (nt _)
 rw[jc];omega
theorem Xi {v:Int×List Int}(h:v.1≤18446744073709551615)(h2:v.2.length≤8):(dw v).length≤100:=by
 have:=qr h;have:=jBq h2;rw[jc];omega
theorem zj {α:Type}{l:List α}{f:α→List UInt8}{c:Nat}(k:Nat)(h:∀x∈l,(f x).length≤c):((l.take k).flatMap f).length≤l.length*c:=by
 refine ke (yO λx hx=>h x (List.mem_of_mem_take hx)) (Nat.mul_le_mul_right c (by rw[jP];omega))
theorem Vk {α:Type}{l:List α}{k:Nat}{x:α}{f:α→List UInt8}(h:l[k]? =some x):(l.take (k+1)).flatMap f=(l.take k).flatMap f++f x:=by rw[qA h,kS];simp
theorem qY.row1 {L:HL}{b n:Nat}{l:List Value}{t:TypeId}[h:zK b L (cl l t)](hl:l.length=n):qY L (some ⟨b,0,none⟩) n 1 l:=⟨by rw[hl,jX],.inr ⟨b,0,rfl,vi.row⟩⟩
theorem jBn {w:Nat}{L:HL}:qi (pt w (cl [.slice none 0 0] 139)::L) (wH w []::L):=qi.trans (qi.cons vj) (cS (a:=none) (c:=0) (bs:=[]))
theorem jDx {P:Program}{n:Nat}{ops:List Oper}{o:Oper}{f:vL}{A:HL}{v v':Value}(h:qk P n ops o f A v)(e:v=v'):qk P n ops o f A v':=e▸h
end Go.Proofs.YtlnfjhiphlfkjaaGreatDoor
namespace Go.SX
open Go Go.ChangeShapes Go.WideShapes Go.RowKit
section
variable {H : Type} {enc : TypeId × Value → H} {P : Program} {W : World}
def Rd (enc:TypeId×Value→H)(P:Program)(W:World)(t:TypeId)(cs:List Value):Prop:=∃n x,DataW.trod enc P W 0 (λ_=>true) true n t cs=some x
theorem Qy {w:World}{base:Nat}{a:Addr}{n:Nat}{cs:List Value}(h:w.cells? base a n=some cs):cs.length=n∧∀j,j<n→w.cell? (a.add j)=cs[j]? :=by
 unfold World.cells? at h
 split at h
 ·exact ⟨by simpa using mapM_some_length h,λj hj=>by simpa using mapM_some_get h j j (by simp[hj])⟩
 ·cases h
theorem pz {w:World}{a:Addr}{v:Value}(h:w.cell? a=some v):∃l t fz,w.heap[a.block]? =some (.cells l t fz)∧l[a.off]? =some v∧a.spot=none:=by
 unfold World.cell? at h
 split at h
 ·rename_i c t fz hb
  split at h
  ·cases h
  ·rename_i hs
   refine ⟨c,t,fz,hb,h,by simpa using hs⟩
 ·cases h
theorem jDu (x y n:Nat):(⟨x,y,none⟩:Addr).add n=⟨x,y+n,none⟩:=by unfold Addr.add;split<;>simp_all
theorem sn {sz:Nat}:∀{rows:List (List Value)} {j:Nat} {v:Value},(∀r∈rows,r.length=sz)→rows.flatten[j]? =some v→∃k r i,rows[k]? =some r∧r[i]? =some v∧j=k*sz+i
 | [],j,v,_,h=>by simp at h
 |r::rows,j,v,hr,h=>by
  have h0:=hr r (by simp);rw[List.flatten_cons] at h
  by_cases hj:j<r.length
  ·rw[ko hj] at h
   exact ⟨0,r,j,rfl,h,by simp⟩
  ·rw[kG zo] at h
   obtain ⟨k,r',i,h1,h2,h3⟩:=sn (λx hx=>hr x (by simp[hx])) h;exact ⟨k+1,r',i,by simpa using h1,h2,by rw[Nat.succ_mul];omega⟩
theorem Rd.slice {t e:TypeId}{sz:Nat}{cs:List Value}(h:Rd enc P W t cs)(ht:P.underlying t=some (.slice e))(hs:P.cellsOf e=sz)(h0:0<sz):
  ∃(a:OA) (c:Nat) (rows:List (List Value)),cs=[.slice a rows.length c]∧rows.length≤c∧c≤maxLen∧qI (zQ W) a rows.length sz rows.flatten∧∀r∈rows,r.length=sz∧Rd enc P W e r:=by
 obtain ⟨n,x,h⟩:=h
 rcases DataW.trod_slice ht h with ⟨rfl,_⟩|⟨a,len,cap,elems,rest,n,rfl,rfl,_,_,hlc,hcm,hel,hat,_⟩
 ·exact ⟨none,0,[],rfl,jz _,jw _,qI.nil,by simp⟩
 ·simp only[hs] at hat
  have hrow:∀i,i<len→∃r y,W.cells? 0 (a.add (i*sz)) sz=some r∧DataW.trod enc P W 0 (λ_=>true) true n e r=some y:=λi hi=>by
   have:=hat i hi;have hi':i<elems.length:=by omega
   rw[jY hi'] at this;obtain ⟨r,h1,h2⟩:=Option.bind_eq_some_iff.1 this;exact ⟨r,_,h1,h2⟩
  let rows:=(List.range len).map λi=>(W.cells? 0 (a.add (i*sz)) sz).getD []
  have hrl:rows.length=len:=by simp[rows]
  have hri:∀i r,rows[i]? =some r→i<len∧W.cells? 0 (a.add (i*sz)) sz=some r:=λi r hr=>by
   have hi:i<len:=by have:=(jm.1 hr).1;omega
   obtain ⟨r',y,h1,_⟩:=hrow i hi;refine ⟨hi,?_⟩;simp only[rows,jZ,List.getElem?_range hi,Option.map_some,jk,h1,Option.getD_some] at hr;rw[←hr];exact h1
  have hmem:∀r∈rows,r.length=sz∧Rd enc P W e r:=λr hr=>by
   obtain ⟨i,hi,rfl⟩:=List.getElem_of_mem hr;obtain ⟨h1,h2⟩:=hri i _ (jY hi);obtain ⟨r',y,h3,h4⟩:=hrow i h1;rw[h2] at h3;cases h3;exact ⟨(Qy h2).1,n,y,h4⟩
  refine ⟨some a,cap,rows,by rw[hrl],by omega,hcm,⟨?_,?_⟩,hmem⟩
  ·have:∀l:List (List Value),(∀r∈l,r.length=sz)→l.flatten.length=l.length*sz:=by
    intro l
    induction l with
    |nil=>simp
    |cons r l ih=>intro h;rw[List.flatten_cons,jc,h r (by simp),ih (λx hx=>h x (by simp[hx])),jC,Nat.succ_mul];omega
   exact this rows λr hr=>(hmem r hr).1
  ·by_cases hl0:len=0
   ·exact .inl zo
   ·refine .inr ?_
    obtain ⟨r0,y0,h1,_⟩:=hrow 0 zo;have h2:=(Qy h1).2 0 h0;have hr0:0<r0.length:=by rw[(Qy h1).1];exact h0
    rw[jY hr0] at h2;obtain ⟨l,tt,fz,hb,hc,hsp⟩:=pz h2;have ea:(a.add (0*sz)).add 0=a:=by simp[Addr.add]
    rw[ea] at hb hc hsp;have eA:a=⟨a.block,a.off,none⟩:=by cases a;simp_all
    refine ⟨a.block,a.off,l,tt,fz,by rw[←eA],hb,λj v hv=> ?_⟩;obtain ⟨k,r,i,h3,h4,rfl⟩:=sn (λr hr=>(hmem r hr).1) hv;obtain ⟨h5,h6⟩:=hri k r h3;have hi:i<sz:=by rw[←(Qy h6).1];exact (jm.1 h4).1
    have h7:=(Qy h6).2 i hi;rw[h4] at h7;have e2:(a.add (k*sz)).add i=⟨a.block,a.off+(k*sz+i),none⟩:=by
     rw[eA,jDu,jDu,Nat.add_assoc]
    rw[e2] at h7;simp only[World.cell?,hb] at h7
    simpa using h7
theorem Rd.list {t e:TypeId}{sz:Nat}{cs:List Value}{α:Type}{g:α→List Value}{Q:α→Prop}(he:∀r,Rd enc P W e r→∃x,r=g x∧Q x)(h:Rd enc P W t cs)(ht:P.underlying t=some (.slice e))(hs:P.cellsOf e=sz)(h0:0<sz):
  ∃(a:OA) (c:Nat) (xs:List α),cs=[.slice a xs.length c]∧xs.length≤c∧c≤maxLen∧qI (zQ W) a xs.length sz (xs.flatMap g)∧∀x∈xs,Q x:=by
 obtain ⟨a,c,rows,h1,h2,h3,h4,h5⟩:=h.slice ht hs h0;have key:∀rows:List (List Value),(∀r∈rows,r.length=sz∧Rd enc P W e r)→∃xs:List α,rows=xs.map g∧∀x∈xs,Q x:=by
  intro rows
  induction rows with
  |nil=>exact λ_=>⟨[],rfl,by simp⟩
  |cons r rows ih=>
   intro h;obtain ⟨xs,e1,e2⟩:=ih λx hx=>h x (by simp[hx])
   obtain ⟨x,e3,e4⟩:=he r (h r (by simp)).2;refine ⟨x::xs,by rw[jL,←e1,←e3],λy hy=> ?_⟩
   rcases j9.1 hy with rfl|hy
   ·exact e4
   ·exact e2 y hy
 obtain ⟨xs,e1,e2⟩:=key rows h5;have el:rows.length=xs.length:=by rw[e1,jf]
 rw[el] at h1 h2 h4;refine ⟨a,c,xs,h1,h2,h3,?_,e2⟩;rw[List.flatMap_def,←e1];exact h4
theorem Rd.int {t:TypeId}{k:IntKind}{cs:List Value}(h:Rd enc P W t cs)(ht:P.underlying t=some (.int k)):∃n,cs=[.int k n]∧(Lit.int k n).wf=true:=by
 obtain ⟨n,x,h⟩:=h;obtain ⟨v,h1,_,h2⟩:=DataW.trod_int ht h;exact ⟨v,h1,h2⟩
theorem Rd.bool {t:TypeId}{cs:List Value}(h:Rd enc P W t cs)(ht:P.underlying t=some .bool):∃b,cs=[.bool b]:=by
 obtain ⟨n,x,h⟩:=h;obtain ⟨v,h1,_⟩:=DataW.trod_bool ht h;exact ⟨v,h1⟩
theorem Rd.fields {t:TypeId}{fs:Array Field}{cs:List Value}(h:Rd enc P W t cs)(ht:P.underlying t=some (.struct fs)):cs.length=P.cellsOf t∧∀(i:Nat) (f:Field),fs[i]? =some f→Rd enc P W f.type ((cs.drop f.offset).take (P.cellsOf f.type)):=by
 obtain ⟨n,x,h⟩:=h;obtain ⟨xs,m,_,_,h1,h2,h3⟩:=DataW.trod_struct ht h;refine ⟨h1,λi f hf=> ?_⟩;have:=h3 i f hf;have hi:i<xs.length:=by rw[h2];exact (kj.1 hf).1
 rw[jY hi] at this;exact ⟨m,_,this⟩
theorem pB (K:Kids P (· <P.types.size))(hz:∀t e,t<P.types.size→P.underlying t=some (.slice e)→0<P.cellsOf e){W':World}{ts:List TypeId}{vs:List Value}{ds:List (DataW H)}{ps:List MemPlace}(hT:∀t∈ts,t<P.types.size)
  (h:DataW.TrodAll enc P W 0 (λ_=>true) true ts vs ds ps) (hk:XX W W') (sp:Nat→Bool) (hs:∀p∈ps,sp p.block=true):DataW.TrodAll enc P W' 0 sp true ts vs ds ps:=
 DataW.TrodAll.respare K hz hT (VZ hk h) hs
theorem Yo :∀{ts:List TypeId} {vs:List Value} {ds:List (DataW H)} {ps:List MemPlace},DataW.TrodAll enc P W 0 (λ_=>true) true ts vs ds ps→vs.length=ts.length∧ds.length=ts.length∧∀(i:Nat) (t:TypeId) (v:Value),ts[i]? =some t→vs[i]? =some v→Rd enc P W t v.cells.toList
 | [],[],[],_,_=>⟨rfl,rfl,λi t v h=>by simp at h⟩
 |t::ts,v::vs,d::ds,ps,⟨p,q,⟨n,h1⟩,h2,_⟩=>by
  obtain ⟨e1,e2,e3⟩:=Yo h2;refine ⟨by simp[e1],by simp[e2],λi t' v' h h'=> ?_⟩
  cases i with
  |zero=>simp at h h';subst h h';exact ⟨n,_,h1⟩
  |succ i=>exact e3 i t' v' (by simpa using h) (by simpa using h')
structure Arg (enc:TypeId×Value→H)(P:Program)(W:World)(t:TypeId)(v:Value):Prop where
 rd:Rd enc P W t v.cells.toList
 ok:∃base,Value.okWide P W .any base t v
theorem Arg.int {t:TypeId}{k:IntKind}{v:Value}(h:Arg enc P W t v)(ht:P.underlying t=some (.int k)):∃n,v=.int k n∧(Lit.int k n).wf=true:=by
 obtain ⟨r,_,o⟩:=h;obtain ⟨n,rfl⟩:=okWide_int ht o;obtain ⟨m,h1,h2⟩:=r.int ht
 simp[Value.cells] at h1
 subst h1;exact ⟨n,rfl,h2⟩
theorem Arg.bool {t:TypeId}{v:Value}(h:Arg enc P W t v)(ht:P.underlying t=some .bool):∃b,v=.bool b:=by
 obtain ⟨r,_,o⟩:=h;exact okWide_bool ht o
theorem Arg.list {t e:TypeId}{sz:Nat}{v:Value}{α:Type}{g:α→List Value}{Q:α→Prop}(h:Arg enc P W t v)(he:∀r,Rd enc P W e r→∃x,r=g x∧Q x)(ht:P.underlying t=some (.slice e))(hs:P.cellsOf e=sz)(h0:0<sz):
  ∃(a:OA) (c:Nat) (xs:List α),v=.slice a xs.length c∧xs.length≤c∧c≤9223372036854775807∧qI (zQ W) a xs.length sz (xs.flatMap g)∧∀x∈xs,Q x:=by
 obtain ⟨r,_,o⟩:=h;obtain ⟨a,l,c,rfl⟩:=okWide_slice ht o;obtain ⟨a',c',xs,h1,h2,h3,h4,h5⟩:=r.list he ht hs h0
 simp[Value.cells] at h1
 obtain ⟨rfl,rfl,rfl⟩:=h1;exact ⟨_,_,xs,rfl,h2,h3,h4,h5⟩
theorem jBQ {f:FuncId}{F:Func}{s:ChangeSpec}{tb:TypeId}{args:Array Value}{ds gs:List (DataW H)}{before:List MemPlace}{handsOn again:Bool}(K:Kids P (· <P.types.size))(hz:∀t e,t<P.types.size→P.underlying t=some (.slice e)→0<P.cellsOf e)
  (hT:(F.params.toList.all λt=>decide (t<P.types.size))=true) (hvs:s.vars=[]) (hfn:∀ds:List (DataW H),ds.length=F.params.toList.length→s.fn H ds={results:=[.lit (.bool true)],args:=ds}) (hrt:F.resultTypes= #[tb]) (htb:P.underlying tb=some .bool)
  {base:Nat} (hval:∀(j:Nat) t v,F.params[j]? =some t→args[j]? =some v→Value.okWide P W .any base t v)
  (hW:DataW.Whole enc P F.params.toList s.vars false W args.toList ds gs before)
  (hw:(∀(i:Nat) (t:TypeId) (v:Value),F.params.toList[i]? =some t→args.toList[i]? =some v→Arg enc P W t v)→args.toList.length=F.params.toList.length→qh P f args.toList [qp (zQ W)] (λv _=>v=.bool true)):
  Calls P f args W λe W'=>∃v,e=.returned v∧s.post enc P F false true handsOn again W args v W':=by
 have hW':=hW;obtain ⟨p,q,hA,hV,rfl,hfz,hnd⟩:=hW;rw[hvs] at hV;obtain ⟨rfl,rfl⟩:gs=[]∧q=[]:=by
  cases gs with
  |nil=>exact ⟨rfl,hV⟩
  |cons g gs=>exact hV.elim
 obtain ⟨h1,h2,h3⟩:=Yo hA;have hc:=(hw (λi t v e1 e2=>⟨h3 i t v e1 e2,base,hval i t v (by simpa using e1) (by simpa using e2)⟩) h1).kept;refine hc.mono λe W' ⟨he,hk⟩=> ?_
 subst he;have hf:=hfn ds h2;refine ⟨_,rfl,tM (pa:=p) (pv:=[]) hW' (λb sp hd=> ?_) (λsp hsp=> ?_) (λsp _=> ?_) rfl hk ?_⟩
 ·rw[hrt,jG,hf]
  exact trodAll_cons_mk (shut_bool htb _) trodAll_mk0
 ·rw[jG,hf]
  exact pB K hz (λt ht=>kV (List.all_eq_true.1 hT t ht)) hA hk sp (λx hx=>hsp x (by simp[hx]))
 ·rw[hvs,jG,hf];rfl
 ·exact ok_one hrt rfl (okWide_bool_mk htb _)
end
end Go.SX
namespace Go.Proofs.YtlnfjhiphlfkjaaGreatDoor
open Go Go.SX Go.ChangeShapes Go.WideShapes Go.ChangeAt Go.RowKit
theorem own :ownKnob Tryz.prog.godebug=none:=by kernel_rfl
theorem Rd.i32 {H:Type}{enc:TypeId×Value→H}{W:World}{cs:List Value}(h:Rd enc kY W 21 cs):∃z,cs=cI z∧True:=by
 obtain ⟨z,hz,_⟩:=Rd.int h Tryz.underlying21;exact ⟨z,hz,trivial⟩
theorem jFR {n:Int}(h:(Lit.int .u64 n).wf=true):0≤n∧n≤18446744073709551615:=by
 have:=(Lit.wf_int_iff .u64 n).1 h;have e1:IntKind.u64.min=0:=by decide
 have e2:IntKind.u64.max=18446744073709551615:=by decide
 rw[e1,e2] at this;exact this
theorem Rd.u64 {H:Type}{enc:TypeId×Value→H}{W:World}{cs:List Value}(h:Rd enc kY W 31 cs):∃z,cs=cU z∧(0≤z∧z≤18446744073709551615):=by
 obtain ⟨z,hz,hw⟩:=Rd.int h Tryz.underlying31;exact ⟨z,hz,jFR hw⟩
theorem Rd.vec {H:Type}{enc:TypeId×Value→H}{W:World}{cs:List Value}(h:Rd enc kY W 36 cs):∃(a:OA) (c:Nat) (xs:List Int),cs=[.slice a xs.length c]∧xs.length≤c∧xs.length≤9223372036854775807∧qI (zQ W) a xs.length 1 (xs.map zC):=by
 obtain ⟨a,c,ls,h1,h1c,h1m,h1s,h1q⟩:=Rd.list (λr hr=>Rd.i32 hr) h (sz:=1) Tryz.underlying36 zk zd;have hmx:maxLen=9223372036854775807:=by decide
 rw[hmx] at h1m;have hmm:ls.length≤9223372036854775807:=ke h1c h1m;rw[d6] at h1s;exact ⟨a,c,ls,h1,h1c,hmm,h1s⟩
set_option maxRecDepth 100000 in
theorem Rd.op {H:Type}{enc:TypeId×Value→H}{W:World}{cs:List Value}(h:Rd enc kY W 38 cs):∃o:OV,cs=o.cells∧(qI (zQ W) o.a o.vec.length 1 (o.vec.map zC)∧o.vec.length≤o.c∧o.vec.length≤9223372036854775807∧0≤o.id∧o.id≤18446744073709551615):=by
 obtain ⟨hl,hf⟩:=h.fields Tryz.underlying38;obtain ⟨x,h0,hx⟩:=Rd.u64 (hf 0 _ rfl);obtain ⟨a,c,xs,h1,h2,h3,h4⟩:=Rd.vec (hf 1 _ rfl);have hl':cs.length=2:=hl.trans zk
 match cs,hl' with
 | [u,v],_=>
  have h0':[u]=[Value.int .u64 x]:=h0;have h1':[v]=[Value.slice a xs.length c]:=h1;simp only[List.cons.injEq,and_true] at h0' h1';subst h0' h1';exact ⟨⟨x,a,c,xs⟩,rfl,h4,h2,h3,hx⟩
def jIY (W:World)(a:OA)(ops:List OV):Prop:=(qI (zQ W) a ops.length 2 (ops.flatMap OV.cells)∧okR (zQ W) ops)∧(∀u∈ops,u.vec.length≤u.c)∧ops.length≤9223372036854775807
theorem Rd.u8 {H:Type}{enc:TypeId×Value→H}{W:World}{cs:List Value}(h:Rd enc kY W 5 cs):∃z,cs=[Value.int .u8 z]:=by
 obtain ⟨z,hz,_⟩:=Rd.int h Tryz.underlying5;exact ⟨z,hz⟩
theorem Rd.ops {H:Type}{enc:TypeId×Value→H}{W:World}{cs:List Value}(h:Rd enc kY W 39 cs):∃(a:OA) (c:Nat) (ops:List OV),cs=[.slice a ops.length c]∧jIY W a ops:=by
 obtain ⟨a,c,ls,h1,h1c,h1m,h1s,h1q⟩:=Rd.list (λr hr=>Rd.op hr) h (sz:=2) Tryz.underlying39 zk zd;have hmx:maxLen=9223372036854775807:=by decide
 rw[hmx] at h1m;exact ⟨a,c,ls,h1,⟨h1s,λu hu=>(h1q u hu).1⟩,λu hu=>(h1q u hu).2.1,ke h1c h1m⟩
theorem Rd.i64 {H:Type}{enc:TypeId×Value→H}{W:World}{cs:List Value}(h:Rd enc kY W 3 cs):∃z,cs=[I64 z]∧True:=by
 obtain ⟨z,hz,hw⟩:=Rd.int h Tryz.underlying3;exact ⟨z,hz,trivial⟩
set_option maxRecDepth 100000 in
theorem Rd.hit {H:Type}{enc:TypeId×Value→H}{W:World}{cs:List Value}(h:Rd enc kY W 113 cs):∃o:HV,cs=o.cells∧(qI (zQ W) o.a o.vec.length 1 (o.vec.map zC)∧o.vec.length≤o.c):=by
 obtain ⟨hl,hf⟩:=h.fields Tryz.underlying113;obtain ⟨x,h0,hx⟩:=Rd.u64 (hf 0 _ rfl);obtain ⟨y,h1,hy⟩:=Rd.u64 (hf 1 _ rfl);obtain ⟨a,c,xs,h2,h3,h4,h5⟩:=Rd.vec (hf 2 _ rfl);have hl':cs.length=3:=hl.trans zk
 match cs,hl' with
 | [u,v,w],_=>
  have h0':[u]=[Value.int .u64 x]:=h0;have h1':[v]=[Value.int .u64 y]:=h1;have h2':[w]=[Value.slice a xs.length c]:=h2;simp only[List.cons.injEq,and_true] at h0' h1' h2';subst h0' h1' h2';exact ⟨⟨x,y,a,c,xs⟩,rfl,h5,h3⟩
theorem Rd.hits {H:Type}{enc:TypeId×Value→H}{W:World}{cs:List Value}(h:Rd enc kY W 41 cs):∃(a:OA) (c:Nat) (hs:List HV),cs=[.slice a hs.length c]∧qI (zQ W) a hs.length 3 (hs.flatMap HV.cells)∧hs.length≤9223372036854775807∧∀x∈hs,qI (zQ W) x.a x.vec.length 1 (x.vec.map zC)∧x.vec.length≤x.c:=by
 obtain ⟨a,c,ls,h1,h1c,h1m,h1s,h1q⟩:=Rd.list (λr hr=>Rd.hit hr) h (sz:=3) Tryz.underlying41 zk zd;have hmx:maxLen=9223372036854775807:=by decide
 rw[hmx] at h1m;exact ⟨a,c,ls,h1,h1s,ke h1c h1m,h1q⟩
abbrev jBM {H:Type}(p:ST):DataW H:=.agg [.lit (.string p.1),.lit (.int .i64 (p.2:Int))]
theorem jEs {H:Type}:(Rows.laid_armillary_note_sorts:DataW H)=.agg (KC.map jBM):=by kernel_rfl
theorem jEB {α:Type}{g:α→List Value}{sz:Nat}(hg:∀x,(g x).length=sz)(h0:0<sz){l:List α}{cs:List Value}(hl:cs.length=l.length*sz)(h:∀i x,l[i]? =some x→(cs.drop (i*sz)).take sz=g x):cs=l.flatMap g:=by
 have hlen:(l.flatMap g).length=l.length*sz:=by
  clear hl h
  induction l with
  |nil=>simp
  |cons y l ih=>rw[jK,jc,ih,hg,jC,Nat.succ_mul,Nat.add_comm]
 apply List.ext_getElem?;intro k
 by_cases hk:k<l.length*sz
 ·have hi:k / sz<l.length:=(Nat.div_lt_iff_lt_mul h0).2 hk
  have hr:k % sz<sz:=Nat.mod_lt _ h0;have e:k=k / sz*sz+k % sz:=by rw[Nat.mul_comm];exact (Nat.div_add_mod k sz).symm
  obtain ⟨x,hx⟩:=qx hi;have h1:=h _ x hx;have h2:(g x)[k % sz]? =cs[k]? :=by
   rw[←h1,List.getElem?_take_of_lt hr,List.getElem?_drop,←e]
  have h3:k % sz<(g x).length:=by rw[hg];exact hr
  have h4:=Ko hg l (k / sz) (k % sz) x _ hx (jY h3);rw[←e] at h4;rw[h4,←h2,jY h3]
 ·rw[List.getElem?_eq_none zo,List.getElem?_eq_none zo]
theorem jCJ :Tryz.prog.globalNamed "armillary/note.sorts" =some 0:=by kernel_rfl
theorem jEy :(Tryz.prog.globals[0]?).map (·.type)=some 236:=by kernel_rfl
theorem jDc :Tryz.prog.cellsOf 235=2:=by kernel_rfl
theorem jEP :Tryz.prog.cellsOf 236=46:=by kernel_rfl
theorem jDb :Tryz.prog.cellsOf 9=1:=by kernel_rfl
theorem jDd :Tryz.prog.cellsOf 3=1:=by kernel_rfl
theorem nK {W:World}{fuel:Nat}{cs:List Value}{p:ST}{q:List MemPlace}(h:DataW.trod (λ_=>()) kY W 0 (λ_=>true) false fuel 235 cs=some (jBM p,q)):cs=ST.cells p:=by
 obtain ⟨y0,y1,n,e,hl,h0,h1⟩:=trod_struct2 Tryz.underlying235 h;rw[jDc] at hl;dsimp only at h0 h1;rw[jDb] at h0;rw[jDd] at h1;have e':=jj Prod.fst e;simp only[DataW.agg.injEq,List.cons.injEq,and_true] at e';obtain ⟨s,hs,hy0,_⟩:=DataW.trod_string Tryz.underlying9 h0;obtain ⟨z,hz,hy1,_⟩:=DataW.trod_int Tryz.underlying3 h1;subst hy0 hy1;simp only[DataW.lit.injEq,Lit.string.injEq,Lit.int.injEq,true_and] at e'
 match cs,hl with
 | [u,v],_=>
  have hs':[u]=[Value.string s]:=hs;have hz':[v]=[Value.int .i64 z]:=hz;simp only[List.cons.injEq,and_true] at hs' hz';subst hs' hz';have:str p.1=Value.string s:=by
   unfold str;rw[e'.1]
  rw[←e'.2,←this]
theorem f8 {W:World}(h:laidMet kY [("armillary/note.sorts",Rows.laid_armillary_note_sorts)] W):zB (zQ W):=by
 obtain ⟨ps,⟨g',t',cs,fuel,p,q,hg',ht',hvar,hd,_,_⟩,_⟩:=h;obtain rfl:=Option.some.inj (jCJ.symm.trans hg');obtain rfl:=Option.some.inj (jEy.symm.trans ht');rw[jEs] at hd;obtain ⟨xs,m,_,e,hl,hxl,hx⟩:=DataW.trod_array Tryz.underlying236 hd;rw[jEP] at hl;have e1:=jj Prod.fst e;simp only[DataW.agg.injEq] at e1;have hcs:cs.toList=sortsC:=by
  refine jEB (g:=ST.cells) (sz:=2) (λ_=>rfl) zd (hl.trans zd) (λi x hi=> ?_);have hi':i<23:=(jm.1 hi).1;have h1:=hx i hi';rw[jDc] at h1;obtain ⟨y,hy⟩:=qx (l:=xs) (by rw[hxl];exact hi');rw[hy] at h1;have h2:(xs.map (·.1))[i]? =some y.1:=by rw[jZ,hy];rfl
  rw[←e1,jZ,hi] at h2;have h3:=Option.some.inj h2;exact nK (p:=x) (q:=y.2) (by rw[h1,show jBM x=y.1 from h3])
 unfold World.var? at hvar;rw[jCJ] at hvar;simp only[Option.bind_some] at hvar;refine ⟨by decide,.inr ⟨0,0,?_⟩⟩
 cases hb:W.heap[0]? with
 |none=>rw[hb] at hvar;cases hvar
 |some o=>
  rw[hb] at hvar
  cases o with
  |cells l t fz=>
   dsimp only at hvar
   cases hvar
   refine ⟨cs,t,fz,rfl,hb,λj v hv=> ?_⟩;rw[←hcs] at hv;rw[kR]
   simpa using hv
  |_=>cases hvar
end Go.Proofs.YtlnfjhiphlfkjaaGreatDoor
namespace Go.SX
open Go
def jF9 :List Nat:=[0,498536548,997073096,651767980,1994146192,1802195444,1303535960,1342533948,3988292384,4027552580,3604390888,3412177804,2607071920,2262029012,2685067896,3183342108]
def jAe (c:Nat):Nat:=jF9.getD c 0
def h1 (c:Nat):Nat:=if c % 2=1 then (c>>>1)^^^3988292384 else c>>>1
def hN :Nat→Nat→Nat
 |0,c=>c
 |k+1,c=>hN k (h1 c)
def XJ (c:Nat):Nat:=(c>>>4)^^^jAe (c&&&15)
def lO (c:Nat)(b:UInt8):Nat:=XJ (XJ (c^^^b.toNat))
def yS (c:Nat)(bs:List UInt8):Nat:=bs.foldl lO c
def Ks (bs:List UInt8):Nat:=yS 4294967295 bs^^^4294967295
def fm (b c i:Nat):Nat:=if c&&&1≠(b>>>i)&&&1 then (c>>>1)^^^3988292384 else c>>>1
theorem fQ (a b:Nat):(a^^^b) % 2=(a % 2+b % 2) % 2:=by
 have h:=Nat.testBit_xor a b 0;simp only[Nat.testBit_zero] at h;have ha:=Nat.mod_two_eq_zero_or_one a;have hb:=Nat.mod_two_eq_zero_or_one b;have hc:=Nat.mod_two_eq_zero_or_one (a^^^b)
 rcases ha with ha|ha<;>rcases hb with hb|hb<;>rcases hc with hc|hc<;>rw[ha,hb,hc] at h<;>simp at h<;>rw[ha,hb,hc]
theorem rJ (a b k:Nat):(a^^^b)>>>k=(a>>>k)^^^(b>>>k):=Nat.shiftRight_xor_distrib
theorem jGg (a b:Nat):h1 (a^^^b)=h1 a^^^h1 b:=by
 unfold h1;rw[rJ,fQ];have ha:=Nat.mod_two_eq_zero_or_one a;have hb:=Nat.mod_two_eq_zero_or_one b
 rcases ha with ha|ha<;>rcases hb with hb|hb<;>rw[ha,hb]<;>simp
 ·rw[Nat.xor_assoc]
 ·rw[Nat.xor_assoc,Nat.xor_assoc,Nat.xor_comm (b>>>1)]
 ·rw[show a>>>1^^^3988292384^^^(b>>>1^^^3988292384)=(a>>>1^^^b>>>1)^^^(3988292384^^^3988292384) from by
   rw[Nat.xor_assoc,Nat.xor_assoc,←Nat.xor_assoc 3988292384,Nat.xor_comm 3988292384 (b>>>1),Nat.xor_assoc (b>>>1)]]
  simp
theorem jCG :∀(k a b:Nat),hN k (a^^^b)=hN k a^^^hN k b
 |0,_,_=>rfl
 |k+1,a,b=>by
  show hN k (h1 (a^^^b))=_
  rw[jGg,jCG k];rfl
theorem jCH :∀(k x:Nat),hN k (x<<<k)=x
 |0,x=>by simp[hN]
 |k+1,x=>by
  show hN k (h1 (x<<<(k+1)))=x
  have e:h1 (x<<<(k+1))=x<<<k:=by
   unfold h1;have hm:(x<<<(k+1)) % 2=0:=by
    rw[Nat.shiftLeft_eq,Nat.pow_succ,←Nat.mul_assoc];omega
   rw[hm,ja zd,Nat.shiftLeft_succ,Nat.shiftRight_eq_div_pow];omega
  rw[e];exact jCH k x
theorem jFU (c:Nat):c=((c>>>4)<<<4)^^^(c&&&15):=by
 apply Nat.eq_of_testBit_eq;intro i;rw[Nat.testBit_xor,Nat.testBit_shiftLeft,Nat.testBit_shiftRight,Nat.testBit_and]
 by_cases h:4≤i
 ·have e:Nat.testBit 15 i=false:=Nat.testBit_lt_two_pow (Nat.lt_of_lt_of_le (by decide:15<2^4) (Nat.pow_le_pow_right zd h))
  rw[e,show 4+(i - 4)=i by omega];simp[h]
 ·have hi:i<4:=by omega
  have e:Nat.testBit 15 i=true:=by
   rcases i with _|_|_|_|i<;>first|decide|omega
  rw[e];simp[h]
theorem jEg :∀l,l<16→hN 4 l=jAe l:=by decide
theorem rX (c:Nat):XJ c=hN 4 c:=by
 have h:c&&&15<16:=Nat.lt_of_le_of_lt Nat.and_le_right zd
 conv=>rhs;rw[jFU c]
 rw[jCG,jCH,jEg _ h];rfl
theorem jCI :∀(a b c:Nat),hN a (hN b c)=hN (b+a) c
 |a,0,c=>by simp[hN]
 |a,b+1,c=>by
  show hN a (hN b (h1 c))=_
  rw[jCI a b,show b+1+a=(b+a)+1 by omega];rfl
theorem jEM (c:Nat)(b:UInt8):lO c b=hN 8 (c^^^b.toNat):=by
 unfold lO;rw[rX,rX,jCI]
theorem se :∀(k c:Nat),hN (k+1) c=h1 (hN k c)
 |0,_=>rfl
 |k+1,c=>by
  show hN (k+1) (h1 c)=h1 (hN k (h1 c))
  exact se k _
theorem jEX (a:Nat):a&&&1=a % 2:=Nat.and_one_is_mod a
theorem jET (b c r i:Nat)(h:c=r^^^(b>>>i)):fm b c i=h1 r^^^(b>>>(i+1)):=by
 unfold fm h1;rw[jEX,jEX];have hx:=fQ r (b>>>i);rw[←h] at hx;have e:c>>>1=(r>>>1)^^^(b>>>(i+1)):=by rw[h,rJ,Nat.shiftRight_add]
 rw[e];have hr:=Nat.mod_two_eq_zero_or_one r;have hb:=Nat.mod_two_eq_zero_or_one (b>>>i)
 rcases hr with hr|hr<;>rcases hb with hb|hb<;>rw[hr,hb] at hx<;>rw[hx,hr,hb]<;>simp
 ·rw[Nat.xor_assoc,Nat.xor_comm (b>>>(i+1)),←Nat.xor_assoc]
 ·rw[Nat.xor_assoc,Nat.xor_comm (b>>>(i+1)),←Nat.xor_assoc]
def XU (b:Nat):Nat→Nat→Nat
 |0,c=>c
 |i+1,c=>fm b (XU b i c) i
theorem sP (b c:Nat):∀i,XU b i c=hN i (c^^^b)^^^(b>>>i)
 |0=>by simp[XU,hN,Nat.xor_assoc]
 |i+1=>by
  show fm b (XU b i c) i=_
  rw[jET b _ _ i (sP b c i),se]
theorem jIT (c:Nat)(b:UInt8):XU b.toNat 8 c=lO c b:=by
 rw[sP,jEM];have:b.toNat>>>8=0:=by
  rw[Nat.shiftRight_eq_div_pow];have:=b.toNat_lt;omega
 rw[this];simp
theorem Wu {a b:Nat}(ha:a<4294967296)(hb:b<4294967296):a^^^b<4294967296:=Nat.xor_lt_two_pow (n:=32) ha hb
theorem dN (c:Nat):jAe c<4294967296:=by
 unfold jAe
 by_cases h:c<16
 ·revert c;decide
 ·rw[j8,List.getElem?_eq_none (by show 16≤c;omega)];decide
theorem dO {c:Nat}(h:c<4294967296):XJ c<4294967296:=by
 unfold XJ;refine Wu ?_ (dN _);rw[Nat.shiftRight_eq_div_pow];omega
theorem jEL {c:Nat}(b:UInt8)(h:c<4294967296):lO c b<4294967296:=
 dO (dO (Wu h (by have:=b.toNat_lt;omega)))
theorem KL :∀(bs:List UInt8) {c:Nat},c<4294967296→yS c bs<4294967296
 | [],_,h=>h
 |b::bs,_,h=>KL bs (jEL b h)
theorem Yg (bs:List UInt8):Ks bs<4294967296:=Wu (KL bs zd) zd
theorem Zc (c:Nat)(a b:List UInt8):yS c (a++b)=yS (yS c a) b:=List.foldl_append ..
section
variable {P : Program} {n : Nat} {ops rest : List Oper} {Q : vm} {f : vL} {A L : HL} {d : Tmp} {ty : TypeId} {pos : String} {af : Array Edge}
theorem Y.orr {x y:Operand}{t t':TypeId}{k:IntKind}{a b:Int}(hx:ev f x=some (.int k a))(hy:ev f y=some (.int k b)):qk P n ops ⟨some d,.binOp .or t x y t',ty,pos,af,none⟩ f A ((.int k (k.wrap ((BitVec.ofInt k.bits a)|||(BitVec.ofInt k.bits b)).toNat))):=Y.of (λ_ w s=>by simp[execOp,s.eval hx,s.eval hy,eqGuard,binOp,Op.intArith,Op.intBits])
theorem Y.cpl {x:Operand}{t:TypeId}{a:Int}(hx:ev f x=some (.int .u32 a)):qk P n ops ⟨some d,.unOp .xor t x,ty,pos,af,none⟩ f A ((.int .u32 (IntKind.u32.wrap ((BitVec.ofInt IntKind.u32.bits 4294967295)^^^(BitVec.ofInt IntKind.u32.bits a)).toNat))):=Y.of (λ_ w s=>by simp[execOp,s.eval hx,Op.unary,Op.intBits,IntKind.signed,IntKind.max,IntKind.bits])
end
theorem Yk {n:Nat}(h:n<4294967296):IntKind.u32.wrap (n:Int)=(n:Int):=by
 simp[IntKind.wrap,IntKind.bits,IntKind.signed];omega
theorem jAD {n:Nat}(h:n<4294967296):(BitVec.ofInt IntKind.u32.bits (n:Int)).toNat=n:=by
 show (BitVec.ofInt 32 (n:Int)).toNat=n
 simp;omega
theorem xor32 {a b:Nat}(ha:a<4294967296)(hb:b<4294967296):IntKind.u32.wrap (((BitVec.ofInt IntKind.u32.bits (a:Int))^^^(BitVec.ofInt IntKind.u32.bits (b:Int))).toNat:Int)=((a^^^b:Nat):Int):=by
 rw[BitVec.toNat_xor,jAD ha,jAD hb,Yk (Wu ha hb)]
theorem and32 {a b:Nat}(ha:a<4294967296)(hb:b<4294967296):IntKind.u32.wrap (((BitVec.ofInt IntKind.u32.bits (a:Int))&&&(BitVec.ofInt IntKind.u32.bits (b:Int))).toNat:Int)=((a&&&b:Nat):Int):=by
 rw[BitVec.toNat_and,jAD ha,jAD hb,Yk (Nat.lt_of_le_of_lt Nat.and_le_left ha)]
theorem or32 {a b:Nat}(ha:a<4294967296)(hb:b<4294967296):IntKind.u32.wrap (((BitVec.ofInt IntKind.u32.bits (a:Int))|||(BitVec.ofInt IntKind.u32.bits (b:Int))).toNat:Int)=((a|||b:Nat):Int):=by
 rw[BitVec.toNat_or,jAD ha,jAD hb,Yk (Nat.or_lt_two_pow (n:=32) ha hb)]
section
variable {P : Program} {n : Nat} {ops rest : List Oper} {Q : vm} {f : vL} {A L : HL} {d : Tmp} {ty : TypeId} {pos : String} {af : Array Edge}
theorem Y.and32 {x y:Operand}{t t':TypeId}{a b:Nat}(hx:ev f x=some (.int .u32 (a:Int)))(hy:ev f y=some (.int .u32 (b:Int)))(ha:a<4294967296)(hb:b<4294967296):qk P n ops ⟨some d,.binOp .and t x y t',ty,pos,af,none⟩ f A (.int .u32 ((a&&&b:Nat):Int)):=Go.SX.and32 ha hb▸Y.and hx hy
theorem Y.or32 {x y:Operand}{t t':TypeId}{a b:Nat}(hx:ev f x=some (.int .u32 (a:Int)))(hy:ev f y=some (.int .u32 (b:Int)))(ha:a<4294967296)(hb:b<4294967296):qk P n ops ⟨some d,.binOp .or t x y t',ty,pos,af,none⟩ f A (.int .u32 ((a|||b:Nat):Int)):=Go.SX.or32 ha hb▸Y.orr hx hy
theorem Y.xor32 {x y:Operand}{t t':TypeId}{a b:Nat}(hx:ev f x=some (.int .u32 (a:Int)))(hy:ev f y=some (.int .u32 (b:Int)))(ha:a<4294967296)(hb:b<4294967296):qk P n ops ⟨some d,.binOp .xor t x y t',ty,pos,af,none⟩ f A (.int .u32 ((a^^^b:Nat):Int)):=Go.SX.xor32 ha hb▸Y.xor hx hy
theorem Y.cpl32 {x:Operand}{t:TypeId}{a:Nat}(hx:ev f x=some (.int .u32 (a:Int)))(ha:a<4294967296):qk P n ops ⟨some d,.unOp .xor t x,ty,pos,af,none⟩ f A (.int .u32 ((4294967295^^^a:Nat):Int)):=Go.SX.xor32 (a:=4294967295) zd ha▸Y.cpl hx
theorem Y.cv32 {x:Operand}{s t:TypeId}{k:IntKind}{a:Nat}[h0:zi P s][h2:Jp P t .u32](hx:ev f x=some (.int k (a:Int)))(ha:a<4294967296):qk P n ops ⟨some d,.convert s t x,ty,pos,af,none⟩ f A (.int .u32 (a:Int)):=Go.SX.Yk ha▸Y.cvi hx
end
abbrev bC (b:UInt8):List Value:=[B b]
theorem d5 (xs:List UInt8):xs.flatMap bC=xs.map B:=by induction xs with
 |nil=>rfl
 |cons x xs ih=>simp[jK,ih]
structure YB where
 a:OA
 c:Nat
 bs:List UInt8
abbrev YB.val (v:YB):Value:=.slice v.a v.bs.length v.c
abbrev YB.cells (v:YB):List Value:=[v.val]
def rQ (L:HL)(v:YB):Prop:=qY L v.a v.bs.length 1 (v.bs.map B)
def wq (M:OM)(v:YB):Prop:=qI M v.a v.bs.length 1 (v.bs.map B)
theorem wq.mono {M M':OM}{v:YB}(h:wq M v)(hl:qV M M'):wq M' v:=qI.mono h hl
theorem wq.rd {M:OM}{v:YB}(h:wq M v){L:HL}[xq M L]:rQ L v:=qI.rd h
abbrev qX (vs:List YB):List UInt8:=vs.flatMap YB.bs
theorem sJ {vs:List YB}{v:YB}(h:v∈vs):v.bs.length≤(qX vs).length:=by
 obtain ⟨p,q,rfl⟩:=List.append_of_mem h
 simp[qX];omega
end Go.SX
namespace Go.Proofs.YtlnfjhiphlfkjaaGreatDoor
open Go Go.SX
attribute [local irreducible] swp qq qL qJ vZ qh St qi qk vu qH
def nibC :List Value:=jF9.map λz:Nat=>Value.int .u32 (z:Int)
def xL (M:OM):Prop:=qI M (some ⟨2,0,none⟩) 16 1 nibC
theorem xL.mono {M M':OM}(h:xL M)(hl:qV M M'):xL M':=qI.mono h hl
theorem xL.rd {M:OM}(h:xL M){L:HL}[xq M L]:vi L 2 0 nibC:=by
 have h1:qY L (some ⟨2,0,none⟩) 16 1 nibC:=qI.rd h
 rcases h1.2 with h2|⟨b,o,e,r⟩
 ·cases h2
 ·cases e;exact r
theorem gS (k:Nat)(h:k<16):nibC[k]? =some (.int .u32 (jAe k)):=by
 rcases k with _|_|_|_|_|_|_|_|_|_|_|_|_|_|_|_|k<;>first|rfl|omega
theorem X7 (c:Nat):c&&&15<16:=Nat.lt_of_le_of_lt Nat.and_le_right zd
theorem mw (a:OA)(c:Nat)(vs:List YB)(L:HL)(h:qY L a vs.length 1 (vs.flatMap YB.cells))(hv:∀v∈vs,rQ L v)(hT:vi L 2 0 nibC)(hn:vs.length≤1000000)(hb:(qX vs).length≤1000000000000):
  qh kY 191 [.slice a vs.length c] L (λr L'=>r=.int .u32 (Ks (qX vs))∧L'=L):=by
 refine qg Tryz.func191 rfl rfl rfl ?_;refine Q.r ?_;refine qw (σ:=Unit) (λ_=> [(3,.int .u32 (yS 4294967295 (qX vs)))]) (λ_=>L) (λ_=>True) ?_ ?_
 ·refine ql (σ:=Nat) (λk=> [(8,.slice a vs.length c),(9,.int .i64 vs.length),(3,.int .u32 (yS 4294967295 (qX (vs.take k)))),(10,.int .i64 k)]) (λ_=>L)
   (λk=>k≤vs.length) (λk=>vs.length - k) 0 zt (kZ _) zo ?_
  intro k hk
  by_cases hlt:k<vs.length
  ·obtain ⟨v,hx⟩:=qx hlt
   have hmv:v∈vs:=jn hx;have hvl:=sJ hmv;obtain ⟨b,o,hab,hr⟩:=qY.elem (g:=YB.cells) (λ_=>rfl) h hx rfl;rw[hab];refine Q.r ?_;have hv0:=hv v hmv;unfold rQ at hv0;rw[←d5] at hv0;refine ql (σ:=Nat) (λj=> [(8,.slice (some ⟨b,o,none⟩) vs.length c),(9,.int .i64 vs.length),(10,.int .i64 k),(14,v.val),(15,.int .i64 v.bs.length),(3,.int .u32 (yS (yS 4294967295 (qX (vs.take k))) (v.bs.take j))),(16,.int .i64 j)]) (λ_=>L)
    (λj=>j≤v.bs.length) (λj=>v.bs.length - j) 0 zt (kZ _) zo ?_
   intro j hj;have hc0:yS (yS 4294967295 (qX (vs.take k))) (v.bs.take j)<4294967296:=KL _ (KL _ zd)
   by_cases hjl:j<v.bs.length
   ·obtain ⟨x,hxj⟩:=qx hjl
    obtain ⟨b2,o2,hab2,hr2⟩:=qY.elem (g:=bC) (λ_=>rfl) hv0 hxj rfl;have hsn:yS (yS 4294967295 (qX (vs.take k))) (v.bs.take (j+1))=lO (yS (yS 4294967295 (qX (vs.take k))) (v.bs.take j)) x:=by
     rw[qA hxj,Zc];rfl
    generalize hcc:yS (yS 4294967295 (qX (vs.take k))) (v.bs.take j)=cc at hc0 hsn;have hx8:=x.toNat_lt;have l1:x.toNat<4294967296:=by omega
    unfold YB.val;rw[hab2];refine Q.r ?_;refine S.y (Y.cv32 (a:=x.toNat) rfl l1) ?_;refine S.y (Y.xor32 rfl rfl hc0 l1) ?_;have l2:cc^^^x.toNat<4294967296:=Wu hc0 l1;have l3:∀z:Nat,z<4294967296→z / 2^4<4294967296:=λz hz=>Nat.lt_of_le_of_lt (Nat.div_le_self _ _) hz
    have l4:XJ (cc^^^x.toNat)<4294967296:=dO l2;have hs:lO cc x=XJ (XJ (cc^^^x.toNat)):=rfl;generalize cc^^^x.toNat=y at*;have e1:∀y,XJ y=y / 2^4^^^jAe (y&&&15):=λy=>by unfold XJ;rw[Nat.shiftRight_eq_div_pow]
    refine Q.r ?_;refine S.y (Y.shr rfl rfl zd) ?_;refine Q.r ?_;refine S.y (Y.and32 (b:=15) rfl rfl l2 zd) ?_;refine S.y (Y.iaa rfl rfl rfl (X7 _)) ?_;refine S.y (Y.ldRj rfl hT (by rw[jX];exact gS _ (X7 _))) ?_;refine S.y (Y.xor32 rfl rfl (l3 _ l2) (dN _)) ?_;rw[←e1];rw[e1 (XJ y)] at hs;generalize XJ y=z at*;refine Q.r ?_;refine S.y (Y.shr rfl rfl zd) ?_;refine Q.r ?_;refine S.y (Y.and32 (b:=15) rfl rfl l4 zd) ?_;refine S.y (Y.iaa rfl rfl rfl (X7 _)) ?_;refine S.y (Y.ldRj rfl hT (by rw[jX];exact gS _ (X7 _))) ?_;refine S.y (Y.xor32 rfl rfl (l3 _ l4) (dN _)) ?_;rw[←hs];refine Q.r ?_;refine ⟨j+1,⟨rfl,rfl,rfl,by rw[←hab2];rfl,rfl,by rw[hsn];rfl,rfl,trivial⟩,kZ _,by omega,by omega⟩
   ·have hje:j=v.bs.length:=by omega
    subst hje;refine Q.r ?_;have e3:yS (yS 4294967295 (qX (vs.take k))) (v.bs.take v.bs.length)=yS 4294967295 (qX (vs.take (k+1))):=by
     rw[jI,qA hx];unfold qX;rw[kS,Zc]
     simp
    rw[e3];exact ⟨k+1,zt,kZ _,by omega,by omega⟩
  ·have hke:k=vs.length:=by omega
   subst hke;refine Q.r ?_;refine ⟨(),⟨?_,trivial⟩,kZ _,trivial⟩;rw[jI];rfl
 ·intro _ _
  have hc0:yS 4294967295 (qX vs)<4294967296:=KL _ zd;refine Q.r ?_;refine S.y (Y.cpl32 rfl hc0) ?_;refine Q.r ?_;refine N.t rfl (kZ _) ⟨?_,rfl⟩;unfold Ks;rw[Nat.xor_comm]
end Go.Proofs.YtlnfjhiphlfkjaaGreatDoor
namespace Go.SX
open Go
section
variable {P : Program} {n : Nat} {ops rest : List Oper} {Q : vm} {f : vL} {A L : HL}
variable {d : Tmp} {ty : TypeId} {pos : String} {af : Array Edge}
theorem gu {w:World}{dT sT ty e t0:TypeId}{b o dl dc k kc sz:Nat}{a:Addr}{cs l:List Value}(hu:P.underlying dT=some (.slice e))(hs:∀w,(sizeOf e).run P w=.ok sz w)
  (hn:cs.length=min k dl*sz) (hrow:w.heap[b]? =some (cl l t0)) (hl:o+cs.length≤l.length) (hsrc:∀j v,cs[j]? =some v→w.cell? (a.add j)=some v) (h1:∀v∈cs,v.oneCell'=true):
  (Builtin.copy_ #[dT,sT] ty #[.slice (some ⟨b,o,none⟩) dl dc,.slice (some a) k kc]).run P w=.ok (goInt (min k dl:Nat)) (w.setRow b (vN l o cs).toArray):=by
 have hld:=run_loadCells_list (P:=P) w a cs hsrc;have hst:=run_storeCells_at P b o t0 cs 0 l.toArray w hrow (by simpa using hl) h1;rw[hn] at hld;simp only[Nat.add_zero] at hst;have hp:vN l o cs=List.take o l++cs++List.drop (o+cs.length) l:=rfl;rw[hp];have hm:Nat.min k dl=min k dl:=rfl
 simp[Builtin.copy_,run_underlying hu,Builtin.lenOf,Builtin.firstCells,hs,hm,hld,hst]
theorem S.cpy {x y:Operand}{t tx e t0:TypeId}{sz bts:Nat}{ag:Bool}{zs:List Value}{b o dl dc b2 o2 k kc:Nat}{l l' ys:List Value}{L':Obj→HL}[h:wS P t e][h2:Ty P e ag sz zs bts][hu:XW b L (cl l t0) L']
  (hx:ev f x=some (.slice (some ⟨b,o,none⟩) dl dc)) (hy:ev f y=some (.slice (some ⟨b2,o2,none⟩) k kc)) (hr:vi L b2 o2 ys) (hn:ys.length=min k dl*sz) (hl:o+ys.length≤l.length) (h1:ys.all (·.oneCell')=true) (hl':vN l o ys=l')
  (hk:qq P n ops rest Q (upd f d (.int .i64 (min k dl:Nat))) (L' (cl l' t0))):
  qq P n ops (⟨some d,.call ⟨.builtin .copy,#[x,y],#[t,tx]⟩,ty,pos,af,none⟩::rest) Q f L:=by
 refine vF (R := fun v L1 => v = .int .i64 (min k dl : Nat) ∧ L1 = L' (cl l' t0)) (fun F ac w s t1 => ?_) (by rintro _ _ ⟨rfl,rfl⟩;exact hk);have hrow := hu.read t1;have hrun := gu (P := P) (w := w) (dT := t) (sT := tx) (ty := ty) (e := e) (t0 := t0) (b := b) (o := o) (dl := dl) (dc := dc) (k := k) (kc := kc) (sz := sz) (a := ⟨b2,o2,none⟩) (cs := ys) (l := l) h.raw h2.size hn hrow hl (fun j v e => by
  have:=hr w F t1 j v e;have e2:(⟨b2,o2,none⟩:Addr).add j=⟨b2,o2+j,none⟩:=by unfold Addr.add;split<;>simp_all
  rw[e2];exact this) (λv hv=>by simpa using List.all_eq_true.1 h1 v hv)
 refine ⟨_,w.setRow b l'.toArray,_,?_,Qb hrow t1,rfl,rfl⟩;rw[←hl']
 simp[execOp,resolve,invoke,s.eval hx,s.eval hy,builtin,hrun,goInt]
theorem S.appz {x y:Operand}{t tn e:TypeId}{sz bts:Nat}{ag:Bool}{zs:List Value}{kn kq:IntKind}{b o m c k:Nat}{olds:List Value}[h:wS P t e][h2:Ty P e ag sz zs bts][h3:Jp P tn kn]
  (hx:ev f x=some (.slice (some ⟨b,o,none⟩) m c)) (hy:ev f y=some (.int kq k)) (hr:vi L b o olds) (ho:olds.length=m*sz) (hg:c<m+k) (h0:0<k) (hz:zs.length=sz) (hs0:0<sz) (hfit:(m+k)*bts≤140737488355328) (h63:m+k≤9223372036854775807)
  (hk:∀b' c',qq P n ops rest Q (upd f d (.slice (some ⟨b',0,none⟩) (m+k) c')) (slO e sz (some ⟨b',0,none⟩) (m+k) c' (olds++Vh k zs)::L)):
  qq P n ops (⟨some d,.call ⟨.builtin .append,#[x,y],#[t,tn]⟩,ty,pos,af,none⟩::rest) Q f L:=by
 obtain ⟨i,z,hi,hisz,hib,hiz,hzz⟩:=h2.raw;refine vF (R:=λv L1=>∃b' c',v=.slice (some ⟨b',0,none⟩) (m+k) c'∧L1=slO e sz (some ⟨b',0,none⟩) (m+k) c' (olds++Vh k zs)::L) (λF ac w s t1=> ?_) (by rintro _ _ ⟨b',c',rfl,rfl⟩;exact hk b' c');have hfit':Builtin.nextslicecap (m+k) c*i.bytes≤281474976710656:=growslice_fits hg (by rw[hib];exact hfit);have hold:(Builtin.firstCells i.size m (.slice (some ⟨b,o,none⟩) m c)).run P w.drew=.ok olds.toArray w.drew:=by
  refine run_firstCells_some w.drew i.size m _ m c olds (by rw[hisz];exact ho) (λj u hj=> ?_);have e2:(⟨b,o,none⟩:Addr).add j=⟨b,o+j,none⟩:=by unfold Addr.add;split<;>simp_all
  rw[e2];exact hr w F t1 j u hj
 have hbz:k*i.bytes≤281474976710656:=by
  rw[hib];have:=Nat.mul_le_mul_right bts (show k≤m+k by omega);omega
 have hr:=Lib.run_append_grow_zeros (P:=P) w t tn ty e i z kq kn h.raw h3.raw hi hiz (some ⟨b,o,none⟩) m c olds hold k h0 (by rw[hisz];exact hs0) hg zo hbz hfit';have hcap:m+k≤grownCap w (m+k) c e:=by
  simp only[grownCap,Question.cut];omega
 have hzl:z.cells.size=sz:=by rw[←hz,←hzz];simp
 have hzr:(Builtin.zeroCells z.cells k).toList=Vh k zs:=by
  have:=Yj z.cells k sz hzl;rw[hzz] at this;have e:Builtin.zeroCells z.cells k=(Vh k zs).toArray:=by simpa[Builtin.zeroCells,hzl] using this
  rw[e]
 have hrl:(Vh k zs).length=k*sz:=by rw[yu,hz]
 refine ⟨_,w.drew.alloc (.cells (olds.toArray++Builtin.zeroCells z.cells k++Builtin.zeroCells z.cells (grownCap w (m+k) c e - (m+k))) e),slO e sz (some ⟨w.heap.size,0,none⟩) (m+k) (grownCap w (m+k) c e) (olds++Vh k zs)::L,?_,?_,_,_,rfl,rfl⟩
 ·simp[execOp,resolve,invoke,s.eval hx,s.eval hy,builtin,hr]
 ·have H2:St (w.drew.alloc (.cells (olds.toArray++Builtin.zeroCells z.cells k++Builtin.zeroCells z.cells (grownCap w (m+k) c e - (m+k))) e)) (pt w.heap.size (cl ((olds++Vh k zs)++(Builtin.zeroCells z.cells (grownCap w (m+k) c e - (m+k))).toList) e)::(L++F)):=by
   refine St.pt_new t1 ?_
   show w.heap.push _=_
   congr 1
   simp[cl,←hzr]
  have H3 := St.slO_shut (sz := sz) (m := m + k) (c := grownCap w (m + k) c e) (by simp [ho,hrl,Nat.add_mul]) hcap (by
   simp only[jc,ho,hrl,Builtin.zeroCells,Array.length_toList,Array.size_map,Array.size_range,hzl];rw[←Nat.add_mul,←Nat.add_mul];congr 1;omega) H2
  exact H3
theorem qh.slOc {g:FuncId}{args:List Value}{R:Value→HL→Prop}{t sz m c:Nat}{a:OA}{cs:List Value}
  (h0:a=none→m=0→c=0→cs=[]→qh P g args (SX.slO t sz none 0 0 []::L) R) (h1:∀b,a=some ⟨b,0,none⟩→m≤c→qh P g args (SX.slO t sz a m c cs::L) R):qh P g args (SX.slO t sz a m c cs::L) R:=λF w H=>by
 rcases (St.slO_open H).2 with ⟨e1,e2,e3,e4,_⟩|⟨b,rest,e,h2,_,_⟩
 ·subst e1 e2 e3 e4
  exact h0 rfl rfl rfl rfl F w H
 ·exact h1 b e h2 F w H
theorem jB7 (b:Nat){t sz m c:Nat}{cs:List Value}{L0:HL}[h:KU (some ⟨b,0,none⟩) L t sz m c cs L0]
  (hk:∀rs,m≤c→(cs++rs).length=c*sz→qq P n ops rest Q f (pt b (cl (cs++rs) t)::L0)):qq P n ops rest Q f L:=λok F a w s t1=>by
 rcases (St.slO_open (L:=L0++F) (h.ent w F t1)).2 with ⟨e,_⟩|⟨b',rs,e,h1,h2,h3⟩
 ·cases e
 ·cases e
  exact hk rs h1 h2 ok F a w s h3
theorem Y.cap {x:Operand}{t e:TypeId}{a:OA}{m c:Nat}[h:wS P t e](hx:ev f x=some (.slice a m c)):qk P n ops ⟨some d,.call ⟨.builtin .cap,#[x],#[t]⟩,ty,pos,af,none⟩ f A (.int .i64 c):=by
 refine Y.of (λac w s=> ?_)
 simp[execOp,resolve,invoke,s.eval hx,builtin,Builtin.cap_,h.und]
 rfl
theorem St.pt_ne {w:World}{b b':Nat}{o o':Obj}{L:HL}(H:St w (pt b o::pt b' o'::L)):b≠b':=by
 rintro rfl;obtain ⟨h,f,h1,h2,ok,e,a,h3,h4,ok',rfl,a',l⟩:=H;have e3:h3 b=some (true,o'):=a';have e2:(h3.add h4) b=some (true,o'):=by simp[Hp.add,e3]
 have:=ok b _ _ _ _ a e2
 simp at this
theorem Y.ovl {x y:Operand}{g:FuncId}{fn:Func}{tS tR e t1 t2:TypeId}{ats:Array TypeId}{b1 b2 o1 o2 m1 c1 m2 c2 sz bts:Nat}{ag:Bool}{zs l1 l2:List Value}{A0 A1:HL}[h:wS P tS e][h2:Ty P e ag sz zs bts]
  [p1:xp (pt b1 (cl l1 t1)) A A0] [p2:xp (pt b2 (cl l2 t2)) A0 A1]
  (hf:P.funcs[g]? =some fn) (hname:(fn.name== "runtime.NumGoroutine")=false) (hb:fn.body.isNone=true) (hn:Extern.findNext fn=none) (he:Extern.find fn=some (Extern.SlicesOverlaps.overlaps #[tS,tS] #[tR]))
  (hx:ev f x=some (.slice (some ⟨b1,o1,none⟩) m1 c1)) (hy:ev f y=some (.slice (some ⟨b2,o2,none⟩) m2 c2)) (hl:l2≠[]):
  qk P n ops ⟨some d,.call ⟨.value (.func g),#[x,y],ats⟩,ty,pos,af,none⟩ f A (.bool false):=by
 refine Y.of' (λac w F s t=> ?_);have u2:St w (pt b1 (cl l1 t1)::pt b2 (cl l2 t2)::(A1++F)):=by simpa using (p1.ent.trans p2.ent.cons) w F t
 have hne:=St.pt_ne u2;have r1:=St.pt_read u2;have r2:=St.pt_read u2.tail;have hr:=Lib.run_overlaps_apart (P:=P) w tS tR e h.raw sz h2.size ⟨b1,o1,none⟩ ⟨b2,o2,none⟩ m1 c1 m2 c2 hne t1 t2 l1.length l2.length (by simp[World.shape?,r1,cl]) (by simp[World.shape?,r2,cl]) (by simpa using hl) (by simp[World.frozen?,r1,cl]) (by simp[World.frozen?,r1,cl]);have hev:ac.eval (.func g)=.func (.func g) #[] #[]:=rfl
 simp[execOp,resolve,Deferred.ofValue,invoke,s.eval hx,s.eval hy,hev,run_callFunc_extern hf hname hb hn he,hr]
end
section
variable {P : Program} {n : Nat} {ops rest : List Oper} {Q : vm} {f : vL} {A L : HL} {d : Tmp} {ty : TypeId} {pos : String} {af : Array Edge}
theorem Y.anI {x y:Operand}{t t':TypeId}{k:IntKind}{a b:Int}(hx:ev f x=some (.int k a))(hy:ev f y=some (.int k b)):qk P n ops ⟨some d,.binOp .andNot t x y t',ty,pos,af,none⟩ f A ((.int k (k.wrap ((BitVec.ofInt k.bits a)&&& ~~~(BitVec.ofInt k.bits b)).toNat))):=Y.of (λ_ w s=>by simp[execOp,s.eval hx,s.eval hy,eqGuard,binOp,Op.intBits])
theorem S.mks {x y:Operand}{t e:TypeId}{sz bts:Nat}{ag:Bool}{zs:List Value}{kx ky:IntKind}{m:Nat}[h:wS P t e][h2:Ty P e ag sz zs bts](hx:ev f x=some (.int kx m))(hy:ev f y=some (.int ky m))(hz:zs.length=sz)
  (hb:bts*m≤281474976710656) (h63:m≤9223372036854775807) (hs:m*sz≤16777216) (hk:∀b,qq P n ops rest Q (upd f d (.slice (some ⟨b,0,none⟩) m m)) (pt b (cl (Vh m zs) e)::L)):
  qq P n ops (⟨some d,.makeSlice t x y,ty,pos,af,none⟩::rest) Q f L:=by
 obtain ⟨i,z,hi,hisz,hib,hiz,hzz⟩:=h2.raw;refine vF (R:=λv L1=>∃b,v=.slice (some ⟨b,0,none⟩) m m∧L1=pt b (cl (Vh m zs) e)::L) (λF ac w s t1=> ?_) (by rintro _ _ ⟨b,rfl,rfl⟩;exact hk b);have hr:=run_makeSlice (P:=P) w t e i z h.raw hi hiz kx ky (m:Int) m zo zo (by rw[hisz];simpa using hs) (by rw[hib];omega) zo;have hzl:z.cells.size=sz:=by rw[←hz,←hzz];simp
 have e1:madeCells z.cells (m*sz)=(Vh m zs).toArray:=by
  have:=Yj z.cells m sz hzl;rw[hzz] at this;exact this
 rw[hisz,kz,e1] at hr;refine ⟨_,w.alloc (.cells (Vh m zs).toArray e),pt w.heap.size (cl (Vh m zs) e)::L,?_,?_,_,rfl,rfl⟩
 ·simp[execOp,s.eval hx,s.eval hy,hr]
 ·exact St.pt_new t1 rfl
theorem S.cpy0 {x y:Operand}{t tx e:TypeId}{sz bts:Nat}{ag:Bool}{zs:List Value}{b o dl dc kc:Nat}{a:OA}[h:wS P t e][h2:Ty P e ag sz zs bts]
  (hx:ev f x=some (.slice (some ⟨b,o,none⟩) dl dc)) (hy:ev f y=some (.slice a 0 kc)) (hk:qq P n ops rest Q (upd f d (.int .i64 0)) L):
  qq P n ops (⟨some d,.call ⟨.builtin .copy,#[x,y],#[t,tx]⟩,ty,pos,af,none⟩::rest) Q f L:=by
 refine vF (R:=λv L1=>v=.int .i64 0∧L1=L) (λF ac w s t1=> ?_) (by rintro _ _ ⟨rfl,rfl⟩;exact hk);have hst:(storeCells ⟨b,o,none⟩ []).run P w=.ok () w:=rfl;have hrun:(Builtin.copy_ #[t,tx] ty #[.slice (some ⟨b,o,none⟩) dl dc,.slice a 0 kc]).run P w=.ok (goInt 0) w:=by
  cases a with
  |none=>simp[Builtin.copy_,run_underlying h.raw,Builtin.lenOf,Builtin.firstCells,h2.size,hst]
  |some ad=>
   have hld:=run_loadCells_list (P:=P) w ad [] (λj v e=>by simp at e);simp only[j7] at hld
   simp[Builtin.copy_,run_underlying h.raw,Builtin.lenOf,Builtin.firstCells,h2.size,hld,hst]
 refine ⟨_,w,_,?_,t1,rfl,rfl⟩
 simp[execOp,resolve,invoke,s.eval hx,s.eval hy,builtin,hrun,goInt]
end
theorem qI.fromA {M:OM}{a:OA}{m c l sz:Nat}{cs:List Value}(h:qI M a m sz cs)(h1:l≤m)(h2:m≤c):qI M (Go.Proofs.YtlnfjhiphlfkjaaGreatDoor.Q4 a c l sz) (m - l) sz (cs.drop (l*sz)):=by
 by_cases h0:l=0
 ·subst h0
  unfold Go.Proofs.YtlnfjhiphlfkjaaGreatDoor.Q4;rw[jb rfl,Nat.zero_mul,List.drop_zero];exact h
 ·refine ⟨by rw[jE,h.1,Nat.sub_mul],?_⟩
  rcases h.2 with h3|⟨b,o,l',t,fz,e,e1,e2⟩
  ·omega
  ·by_cases hc:c=l
   ·exact .inl zo
   ·subst e
    unfold Go.Proofs.YtlnfjhiphlfkjaaGreatDoor.Q4;rw[ja h0];refine .inr ⟨b,o+l*sz,l',t,fz,by simp[hc],e1,λj v hj=> ?_⟩;rw[List.getElem?_drop] at hj;have:=e2 _ v hj
    rwa [←Nat.add_assoc] at this
end Go.SX
namespace Go.Proofs.YtlnfjhiphlfkjaaGreatDoor
open Go Go.SX
attribute [local irreducible] swp qq qL qJ vZ qh St qi qk vu qH
def vW :List UInt8→Nat→Nat→Nat×Nat×Int
 | [],_,_=>(0,0,2)
 |b::bs,i,n=>if i=9∧1<b.toNat then (0,0,4) else if b.toNat<128 then (if b.toNat=0∧0<i then (0,0,4) else (n+b.toNat % 128*2^(7*i),i+1,0)) else vW bs (i+1) (n+b.toNat % 128*2^(7*i))
theorem yv (b:UInt8)(bs:List UInt8)(i n:Nat):vW (b::bs) i n=if i=9∧1<b.toNat then (0,0,4) else if b.toNat<128 then (if b.toNat=0∧0<i then (0,0,4) else (n+b.toNat % 128*2^(7*i),i+1,0)) else vW bs (i+1) (n+b.toNat % 128*2^(7*i)):=rfl
theorem Vy :∀(bs:List UInt8) (i n:Nat),(vW bs i n).2.1≤i+bs.length
 | [],i,n=>by simp[vW]
 |b::bs,i,n=>by
  unfold vW;have:=Vy bs (i+1) (n+b.toNat % 128*2^(7*i));rw[jC]
  repeat' split
  all_goals ((try dsimp only);omega)
set_option maxRecDepth 100000 in
theorem jIo (b:Nat)(hb:b<256):IntKind.u8.wrap (((BitVec.ofInt IntKind.u8.bits (b:Int))&&& ~~~(BitVec.ofInt IntKind.u8.bits 128)).toNat:Int)=((b % 128:Nat):Int):=by
 show IntKind.u8.wrap (((BitVec.ofInt 8 (b:Int))&&& ~~~(BitVec.ofInt 8 128)).toNat:Int)=_
 rw[BitVec.toNat_and,show (BitVec.ofInt 8 (b:Int)).toNat=b by simp;omega,show (~~~(BitVec.ofInt 8 128)).toNat=127 by decide];have e3:b&&&127=b % 128:=(by decide:∀x,x<256→x&&&127=x % 128) b hb;rw[e3,wrap_u8 zo zo]
theorem fw {n b i:Nat}(hn:n<2^(7*i))(hb:b<128):n+b*2^(7*i)<2^(7*(i+1)):=by
 have e:2^(7*(i+1))=128*2^(7*i):=by rw[Nat.mul_add,Nat.pow_add,Nat.mul_comm]
 have:=Nat.mul_le_mul_right (2^(7*i)) (show b≤127 by omega);omega
theorem pE {n b i:Nat}(hn:n<2^(7*i))(hi:i≤9)(hb:b<128)(h9:i=9→b≤1):n+b*2^(7*i)<18446744073709551616∧
  IntKind.u64.wrap (((BitVec.ofInt IntKind.u64.bits (n:Int))|||(BitVec.ofInt IntKind.u64.bits (IntKind.u64.wrap ((b:Int)*2^(7*i))))).toNat:Int)=((n+b*2^(7*i):Nat):Int):=by
 have h1:n+b*2^(7*i)<18446744073709551616:=by
  by_cases h:i=9
  ·subst h
   have:=h9 rfl;have e:(2:Nat)^(7*9)=9223372036854775808:=by decide
   rw[e] at hn ⊢;omega
  ·have:=fw hn hb
   have h2:2^(7*(i+1))≤2^(7*9):=Nat.pow_le_pow_right zo zo;have e:(2:Nat)^(7*9)=9223372036854775808:=by decide
   omega
 refine ⟨h1,?_⟩;have e2:IntKind.u64.wrap ((b:Int)*2^(7*i))=((b*2^(7*i):Nat):Int):=by
  have:((b:Int)*2^(7*i))=((b*2^(7*i):Nat):Int):=by push_cast;rfl
  rw[this,wrap_u64 zo zo]
 have e:∀x:Nat,x<18446744073709551616→(BitVec.ofInt IntKind.u64.bits (x:Int)).toNat=x:=λx hx=>by
  show (BitVec.ofInt 64 (x:Int)).toNat=x
  simp;omega
 have e5:n|||b*2^(7*i)=n+b*2^(7*i):=by rw[Nat.or_comm,Nat.mul_comm b,←Nat.two_pow_add_eq_or_of_lt hn,Nat.add_comm]
 rw[e2,BitVec.toNat_or,e _ zo,e _ zo,e5,wrap_u64 zo zo]
abbrev cB (b:UInt8):List Value:=[B b]
theorem jCQ (xs:List UInt8):xs.flatMap cB=xs.map B:=by induction xs with
 |nil=>rfl
 |cons x xs ih=>simp[jK,ih]
set_option maxRecDepth 100000 in
theorem tP (a:OA)(c:Nat)(bs:List UInt8)(L:HL)(h:qY L a bs.length 1 (bs.map B))(hb:bs.length≤1000000000000):
  qh kY 234 [.slice a bs.length c] L (λv L'=>v=.tuple #[.int .u64 (vW bs 0 0).1,.int .i64 (vW bs 0 0).2.1,.int .i64 (vW bs 0 0).2.2]∧L'=L):=by
 refine qg Tryz.func234 rfl rfl rfl ?_;refine Q.r ?_;refine qw (σ:=Unit) (λ_=> []) (λ_=>L) (λ_=>vW bs 0 0=(0,0,2)) ?_ ?_
 ·refine ql (σ:=Nat×Nat) (λs=> [(8,.slice a bs.length c),(9,.int .i64 bs.length),(5,.int .u64 s.2),(10,.int .i64 s.1)]) (λ_=>L)
   (λs=>s.1≤bs.length∧s.1≤9∧s.2<2^(7*s.1)∧vW (bs.drop s.1) s.1 s.2=vW bs 0 0) (λs=>bs.length - s.1) (0,0) zt (kZ _) ⟨by omega,by omega,by simp,rfl⟩ ?_
  rintro ⟨k,n⟩ ⟨hk,h9,hn,hp⟩;dsimp only at hk h9 hn hp ⊢
  by_cases hlt:k<bs.length
  ·obtain ⟨x,hx⟩:=qx hlt
   have hd:bs.drop k=x::bs.drop (k+1):=by
    rw[List.drop_eq_getElem_cons hlt]
    congr 1
    exact (jm.1 hx).2
   rw[hd,yv] at hp;have hx8:x.toNat<256:=x.toNat_lt;have hrs:qY L a bs.length 1 (bs.flatMap cB):=by rw[jCQ];exact h
   obtain ⟨b,o,hia,hr⟩:=qY.elem (g:=cB) (λ_=>rfl) hrs hx rfl;clear hrs;rw[hia];have em:IntKind.i64.wrap (7*(k:Int))=((7*k:Nat):Int):=by rw[vl zo zo];push_cast;rfl
   by_cases c9:k=9∧1<x.toNat
   ·rw[jb c9] at hp
    obtain ⟨c91,c92⟩:=c9;rw[←hp];refine Q.r ?_;exact N.r3 (RV.tmp rfl (RV.tmp rfl (RV.tmp rfl RV.nil))) (kZ _) ⟨rfl,rfl⟩
   ·rw[ja c9] at hp
    have hm9:k=9→x.toNat % 128≤1:=λe=>by omega
    obtain ⟨ho1,ho2⟩:=pE (b:=x.toNat % 128) hn h9 zo hm9;have hm2:=fw (b:=x.toNat % 128) hn zo;generalize hm:n+x.toNat % 128*2^(7*k)=m at*;have hpw:(2:Nat)^(7*(k+1))=2^(7*(k+1)):=rfl;clear hpw hn hm;have hgo:∀{R:Prop},(k=9→x.toNat≤1→R)→(k≠9→R)→R:=λh1 h2=>by
     by_cases e:k=9
     ·exact h1 e zo
     ·exact h2 e
    refine hgo (λc91 c92=> ?_) (λc91=> ?_)
    all_goals refine Q.r ?_
    all_goals refine S.y (Y.anI rfl rfl) ?_
    all_goals rw[jIo _ hx8]
    all_goals refine Q.r ?_
    all_goals refine S.y (Y.cvi rfl) ?_
    all_goals rw[wrap_u64 zo zo]
    all_goals refine Q.r ?_
    all_goals refine S.y (Y.mul rfl rfl) ?_
    all_goals rw[em]
    all_goals refine S.y (Y.shlI (b:=7*k) rfl rfl (by show 7*k≤64;omega)) ?_
    all_goals refine S.y (Y.or rfl rfl) ?_
    all_goals rw[ho2]
    all_goals clear ho2 hgo hm9 em c9 hd hia ho1
    ·rw[jb zo] at hp
     by_cases hx0:x.toNat=0
     ·rw[jb ⟨hx0,by omega⟩] at hp
      rw[←hp];clear hp;refine Q.r ?_;exact N.r3 (RV.tmp rfl (RV.tmp rfl (RV.tmp rfl RV.nil))) (kZ _) ⟨rfl,rfl⟩
     ·rw[ja zo] at hp
      rw[←hp];clear hp;refine Q.r ?_;exact N.r3 (RV.tmp rfl (RV.tmp rfl (RV.tmp rfl RV.nil))) (kZ _) ⟨rfl,rfl⟩
    ·by_cases hx1:x.toNat<128
     ·rw[jb hx1] at hp
      by_cases hx0:x.toNat=0
      ·by_cases hk0:0<k
       ·rw[jb ⟨hx0,hk0⟩] at hp
        rw[←hp];clear hp;refine Q.r ?_;exact N.r3 (RV.tmp rfl (RV.tmp rfl (RV.tmp rfl RV.nil))) (kZ _) ⟨rfl,rfl⟩
       ·rw[ja zo] at hp
        rw[←hp];clear hp;refine Q.r ?_;exact N.r3 (RV.tmp rfl (RV.tmp rfl (RV.tmp rfl RV.nil))) (kZ _) ⟨rfl,rfl⟩
      ·rw[ja zo] at hp
       rw[←hp];clear hp;refine Q.r ?_;exact N.r3 (RV.tmp rfl (RV.tmp rfl (RV.tmp rfl RV.nil))) (kZ _) ⟨rfl,rfl⟩
     ·rw[ja hx1] at hp
      refine Q.r ?_;exact ⟨(k+1,m),zt,kZ _,⟨by omega,by omega,hm2,hp⟩,by dsimp only;omega⟩
  ·have hke:k=bs.length:=by omega
   subst hke;rw[kM] at hp;refine Q.r ?_;exact ⟨(),trivial,kZ _,hp.symm⟩
 ·rintro _ hp
  (try dsimp only at hp)
  rw[hp];refine Q.r ?_;exact N.r3 (RV.tmp rfl (RV.tmp rfl (RV.tmp rfl RV.nil))) (kZ _) ⟨rfl,rfl⟩
def qB (bs:List UInt8)(most:Nat):Nat×Nat×Int:=if (vW bs 0 0).2.2≠0 then (0,0,(vW bs 0 0).2.2) else if most<(vW bs 0 0).1 then (0,0,3) else ((vW bs 0 0).1,(vW bs 0 0).2.1,0)
def Vg (a:OA)(c:Nat)(bs:List UInt8)(q:Nat×Nat×Int):Value:=if q.2.2≠0 then .slice none 0 0 else .slice (Q4 a c q.2.1 1) (bs.length - q.2.1) (c - q.2.1)
theorem yt (bs:List UInt8)(most:Nat):(qB bs most).2.1≤bs.length:=by
 unfold qB;have:=Vy bs 0 0
 split
 ·simp
 ·split
  ·simp
  ·dsimp only;omega
theorem qY.atA {L:HL}{a:OA}{m sz:Nat}{cs:List Value}(h:qY L a m sz cs):m=0∨∃b o,a=some ⟨b,o,none⟩:=by
 rcases h.2 with h0|⟨b,o,e,_⟩
 ·exact .inl h0
 ·exact .inr ⟨b,o,e⟩
set_option maxRecDepth 100000 in
theorem Ww (a:OA)(c:Nat)(bs:List UInt8)(most:Nat)(L:HL)(h:qY L a bs.length 1 (bs.map B))(hb:bs.length≤1000000000000):
  qh kY 194 [.slice a bs.length c,.int .u64 most] L (λv L'=>v=.tuple #[.int .u64 (qB bs most).1,Vg a c bs (qB bs most),.int .i64 (qB bs most).2.2]∧L'=L):=by
 have hsz:=Vy bs 0 0;have hat:=qY.atA h;have hp:=tP a c bs L h hb;unfold qB;generalize vW bs 0 0=q at*;obtain ⟨v,sz,e⟩:=q;dsimp only at*;refine qg Tryz.func194 rfl rfl rfl ?_;refine Q.r ?_;refine S.cr rfl hp ?_;rintro _ _ ⟨rfl,rfl⟩;clear hp
 by_cases he:e=0
 ·subst he
  by_cases hm:most<v
  ·rw[ja zd,jb hm]
   refine Q.r ?_;exact N.r3 (RV.tmp rfl (RV.tmp rfl (RV.tmp rfl RV.nil))) (kZ _) ⟨rfl,rfl⟩
  ·rw[ja zd,ja hm]
   refine Q.r ?_;refine Q.dgo [] [] [] [0,1,2,3,4,5,6] ?_;refine Q.rd ?_;refine D.y rfl rfl rfl zk (Y.slFa rfl rfl rfl zo hat) ?_;refine Q.rd ?_;refine Q.r ?_;exact N.r3 (RV.tmp rfl (RV.tmp rfl (RV.tmp rfl RV.nil))) (kZ _) ⟨rfl,rfl⟩
 ·rw[jb he]
  refine Q.r ?_;refine N.r3 (RV.tmp rfl (RV.tmp rfl (RV.tmp rfl RV.nil))) (kZ _) ⟨?_,rfl⟩;unfold Vg;rw[jb he];rfl
abbrev fM (r:Nat)(a:OA)(m c:Nat)(bad:Int):HP:=pt r (cl [.slice a m c,.int .i64 bad] 243)
theorem jAs (r:Nat)(a:OA)(m c:Nat)(bad e:Int)(L:HL):
  qh kY 235 [.pointer (some ⟨r,0,none⟩),.int .i64 e] (fM r a m c bad::L) (λv L'=>v=.tuple #[]∧L'=fM r a m c (if bad=0 then e else bad)::L):=by
 refine qg Tryz.func235 rfl rfl rfl ?_
 by_cases hb:bad=0
 ·rw[jb hb]
  refine Q.r ?_;exact N.n0 RV.nil (kZ _) ⟨rfl,rfl⟩
 ·rw[ja hb]
  refine Q.r ?_;exact N.n0 RV.nil (kZ _) ⟨rfl,rfl⟩
theorem z7 (r:Nat)(a a2:OA)(m c m2 c2:Nat)(bad e:Int)(L:HL):
  qh kY 195 [.pointer (some ⟨r,0,none⟩),.slice a2 m2 c2,.int .i64 e] (fM r a m c bad::L)
   (λv L'=>v=.bool (decide (e=0))∧L'=(if e=0 then fM r a2 m2 c2 bad else fM r a m c (if bad=0 then e else bad))::L):=by
 refine qg Tryz.func195 rfl rfl rfl ?_
 by_cases he:e=0
 ·rw[jb he]
  refine Q.r ?_;exact N.t rfl (kZ _) ⟨by rw[jo he],rfl⟩
 ·rw[ja he]
  refine Q.r ?_;refine S.cr rfl (jAs r a m c bad e L) ?_;rintro _ _ ⟨rfl,rfl⟩;refine Q.r ?_;exact N.t rfl (kZ _) ⟨by rw[jv he],rfl⟩
theorem ce (r:Nat)(a:OA)(m c:Nat)(bad:Int)(L:HL):
  qh kY 193 [.pointer (some ⟨r,0,none⟩)] (fM r a m c bad::L) (λv L'=>v=.bool (!decide (bad=0))∧L'=fM r a m c bad::L):=by
 refine qg Tryz.func193 rfl rfl rfl ?_;refine Q.r ?_;exact N.t rfl (kZ _) ⟨rfl,rfl⟩
def Kh (most:Nat)(bs:List UInt8)(bad:Int):Nat×List UInt8×Int:=if bad≠0 then (0,bs,bad) else if (qB bs most).2.2≠0 then (0,bs,(qB bs most).2.2) else ((qB bs most).1,bs.drop (qB bs most).2.1,0)
set_option maxRecDepth 100000 in
theorem bz (r:Nat)(a:OA)(c:Nat)(bs:List UInt8)(bad:Int)(most:Nat)(M:OM)(L:HL)[hM:xq M L](h:qI M a bs.length 1 (bs.map B))(hc:bs.length≤c)(hb:bs.length≤1000000000000):
  qh kY 145 [.pointer (some ⟨r,0,none⟩),.int .u64 most] (fM r a bs.length c bad::L)
   (λv L'=>v=.int .u64 (Kh most bs bad).1∧∃a' c',qI M a' (Kh most bs bad).2.1.length 1 ((Kh most bs bad).2.1.map B)∧(Kh most bs bad).2.1.length≤c'∧L'=fM r a' (Kh most bs bad).2.1.length c' (Kh most bs bad).2.2::L):=by
 refine qg Tryz.func145 rfl rfl rfl ?_;refine Q.r ?_;refine S.cr rfl (ce r a bs.length c bad L) ?_;rintro _ _ ⟨rfl,rfl⟩;unfold Kh
 by_cases hd:bad=0
 ·subst hd
  rw[ja zd];refine Q.r ?_;refine S.cr rfl (Ww a c bs most (fM r a bs.length c 0::L) (h.rd (hm:=xq.there)) hb) ?_;rintro _ _ ⟨rfl,rfl⟩;have hsz:=yt bs most;generalize qB bs most=q at*;obtain ⟨v,sz,e⟩:=q;dsimp only at*;refine Q.r ?_;unfold Vg;dsimp only
  by_cases he:e=0
  ·subst he
   rw[ja zd,ja zd];refine S.cr rfl (z7 r a (Q4 a c sz 1) bs.length c (bs.length - sz) (c - sz) 0 0 L) ?_;rintro _ _ ⟨rfl,rfl⟩;rw[jb rfl];refine Q.r ?_;have hs:=h.fromA (l:=sz) hsz hc;rw[jX,←List.map_drop] at hs;refine N.t rfl (kZ _) ⟨rfl,Q4 a c sz 1,c - sz,?_,?_,?_⟩
   ·dsimp only
    rw[jE];exact hs
   ·dsimp only
    rw[jE];omega
   ·dsimp only
    rw[jE]
  ·rw[jb he,jb he]
   refine S.cr rfl (z7 r a none bs.length c 0 0 0 e L) ?_;rintro _ _ ⟨rfl,rfl⟩;rw[ja he,jb rfl];refine Q.r ?_;exact N.t rfl (kZ _) ⟨rfl,a,c,h,hc,rfl⟩
 ·rw[jb hd]
  refine Q.r ?_;exact N.t rfl (kZ _) ⟨rfl,a,c,h,hc,rfl⟩
theorem nR (r:Nat)(a:OA)(m c:Nat)(bad:Int)(L:HL):
  qh kY 147 [.pointer (some ⟨r,0,none⟩)] (fM r a m c bad::L) (λv L'=>v=.int .i64 m∧L'=fM r a m c bad::L):=by
 refine qg Tryz.func147 rfl rfl rfl ?_;refine Q.r ?_;exact N.t rfl (kZ _) ⟨rfl,rfl⟩
def Y7 (bs:List UInt8)(bad:Int):Int:=if bad≠0 then bad else if bs.length=0 then 0 else 4
theorem bB (r:Nat)(a:OA)(c:Nat)(bs:List UInt8)(bad:Int)(L:HL):
  qh kY 86 [.pointer (some ⟨r,0,none⟩)] (fM r a bs.length c bad::L) (λv L'=>v=.int .i64 (Y7 bs bad)∧L'=fM r a bs.length c bad::L):=by
 refine qg Tryz.func86 rfl rfl rfl ?_;unfold Y7
 by_cases hd:bad=0
 ·rw[ja (by simpa using hd)]
  by_cases hl:bs.length=0
  ·rw[jb hl]
   refine Q.r ?_;exact N.t rfl (kZ _) ⟨rfl,rfl⟩
  ·rw[ja hl]
   refine Q.r ?_;exact N.t rfl (kZ _) ⟨rfl,rfl⟩
 ·rw[jb hd]
  refine Q.r ?_;exact N.t rfl (kZ _) ⟨rfl,rfl⟩
theorem bA (a:OA)(c:Nat)(bs:List UInt8)(M:OM)(L L0:HL)[hP:xw L M L0](h:qY L a bs.length 1 (bs.map B))(hb:bs.length≤10000000):
  qh kY 84 [.slice a bs.length c] L (λv L'=>∃r a' M',v=.pointer (some ⟨r,0,none⟩)∧qV M M'∧qI M' a' bs.length 1 (bs.map B)∧L'=fM r a' bs.length bs.length 0::qp M'::L0):=by
 refine qg Tryz.func84 rfl rfl rfl ?_;refine Q.r ?_;refine S.mks (m:=bs.length) rfl rfl zr zo zo zo (λb1=> ?_);refine Q.r ?_;have hput:vN (Vh bs.length [.int .u8 0]) 0 (bs.map B)=bs.map B:=by
  have hl:(Vh bs.length [Value.int .u8 0]).length=bs.length:=by rw[yu];simp
  unfold vN;rw[kB,kO,kR,List.drop_eq_nil_of_le (by rw[hl,jf];exact jz _),jG]
 rcases h.2 with h0|⟨b2,o2,rfl,hr⟩
 ·have hn:bs=[]:=jO h0
  subst hn;refine S.cpy0 rfl rfl ?_;refine qo (vg (sz:=1) (m:=0) rfl) ?_;refine JC (λM' hl hs=> ?_);refine Q.r ?_;(repeat (intro b1;refine Q.r ?_));exact N.t rfl (kZ _) ⟨b1,_,M',rfl,hl,hs,rfl⟩
 ·refine S.cpy (l':=bs.map B) rfl rfl hr.sub (by simp) (by rw[yu];simp) (JR _) hput ?_
  refine qo (vg (sz:=1) (m:=bs.length) (by simp)) ?_;refine JC (λM' hl hs=> ?_);refine Q.r ?_;(repeat (intro b1;refine Q.r ?_));exact N.t rfl (kZ _) ⟨b1,_,M',rfl,hl,hs,rfl⟩
end Go.Proofs.YtlnfjhiphlfkjaaGreatDoor
namespace Go.SX
open Go
section
variable {P : Program} {n : Nat} {ops rest : List Oper} {Q : vm} {f : vL} {A L : HL} {d : Tmp} {ty : TypeId} {pos : String} {af : Array Edge}
theorem Y.sl3n {x hi mx:Operand}{t e:TypeId}{a:OA}{m c sz bts:Nat}{ag:Bool}{zs:List Value}{h mm:Nat}{j k:Int}{kh km:IntKind}[hs:wS P t e][h2:Ty P e ag sz zs bts](hx:ev f x=some (.slice a m c))
  (hh:ev f hi=some (.int kh j)) (hm:ev f mx=some (.int km k)) (eh:j=(h:Int)) (em:k=(mm:Int)) (h3:h≤mm) (h4:mm≤c):
  qk P n ops ⟨some d,.slice t x none (some hi) (some mx),ty,pos,af,none⟩ f A (.slice a h mm):=by
 refine Y.of (λac w s=> ?_);subst eh em;have e1:∀ad:Addr,ad.add 0=ad:=λ_=>rfl
 have e2:(h:Int)≤(mm:Int):=by omega
 have e3:(mm:Int)≤(c:Int):=by omega
 cases a<;>simp[execOp,s.eval hx,s.eval hh,s.eval hm,Instr.sliceAt,hs.und,Instr.slice,Instr.sliceBounds,h2.size,Instr.sliceBound,asIntOf,h3,h4,e1]
theorem S.mnz {g:FuncId}{fn:Func}{x:Operand}{ats:Array TypeId}{ps:Array TypeId}{t e:TypeId}{m:Nat}[h:wS P t e](hf:P.funcs[g]? =some fn)(hname:(fn.name== "runtime.NumGoroutine")=false)
  (hb:fn.body.isNone=true) (hn:Extern.findNext fn=none) (he:Extern.find fn=some (Extern.BytealgMakeNoZero.makeNoZero ps #[t])) (hx:ev f x=some (.int .i64 (m:Int))) (hm:m≤281474976710656)
  (hk:∀b cs,m≤cs.length→qq P n ops rest Q (upd f d (.slice (some ⟨b,0,none⟩) m cs.length)) (pt b (cl cs e)::L)):
  qq P n ops (⟨some d,.call ⟨.value (.func g),#[x],ats⟩,ty,pos,af,none⟩::rest) Q f L:=by
 refine vF (R:=λv L1=>∃b cs,m≤cs.length∧v=.slice (some ⟨b,0,none⟩) m cs.length∧L1=pt b (cl cs e)::L) (λF ac w s t1=> ?_) (by rintro _ _ ⟨b,cs,h1,rfl,rfl⟩;exact hk b cs h1);obtain ⟨cs,hrun,hle,_⟩:=Lib.run_makeNoZero (P:=P) w ps t e h.raw m hm;have hc:(callFunc g #[.int .i64 (m:Int)]).run P w=.ok (.value (.slice (some ⟨w.heap.size,0,none⟩) m cs.size)) (w.drew.drew.alloc (.cells cs e)):=by
  rw[run_callFunc_extern hf hname hb hn he,hrun];rfl
 refine ⟨_,w.drew.drew.alloc (.cells cs e),pt w.heap.size (cl cs.toList e)::L,?_,?_,w.heap.size,cs.toList,by simpa using hle,by simp;rfl,rfl⟩
 ·have hev:ac.eval (.func g)=.func (.func g) #[] #[]:=rfl
  simp[execOp,resolve,Deferred.ofValue,invoke,s.eval hx,hc,hev]
 ·have e1:cl cs.toList e=.cells cs e (0,0):=by simp[cl]
  rw[e1];exact St.pt_new (w:=w.drew.drew) t1 rfl
theorem y9 (b:Nat){t:TypeId}{l cs:List Value}{m:Nat}{L0 L1:HL}{M:OM}[h:xp (pt b (cl l t)) L L0][h1:xw L0 M L1](hm:m≤l.length)(he:l.take m=cs)
  (hk:∀M',qV M M'→qI M' (some ⟨b,0,none⟩) m 1 cs→qq P n ops rest Q f (qp M'::L1)):qq P n ops rest Q f L:=by
 refine qo (h.ent.trans (vg (sz:=1) (m:=l.length) (by simp))) ?_;refine qR (some ⟨b,0,none⟩) (λM' hl hs=>hk M' hl ?_);have:=qI.take hs hm
 rwa [jX,he] at this
theorem jBE (b:Nat){cd:Code}{t:TypeId}{l cs:List Value}{m:Nat}{L0 L1:HL}{M:OM}[h:xp (pt b (cl l t)) L L0][h1:xw L0 M L1](hm:m≤l.length)(he:l.take m=cs)
  (hk:∀M',qV M M'→qI M' (some ⟨b,0,none⟩) m 1 cs→swp P n cd Q f (qp M'::L1)):swp P n cd Q f L:=by
 refine vh (h.ent.trans (vg (sz:=1) (m:=l.length) (by simp))) ?_;refine wF (some ⟨b,0,none⟩) (λM' hl hs=>hk M' hl ?_);have:=qI.take hs hm
 rwa [jX,he] at this
theorem xk (a:OA){t sz m c:Nat}{cs:List Value}{L0 L1:HL}{M:OM}[h:KU a L t sz m c cs L0][h1:xw L0 M L1]
  (hk:∀M',qV M M'→qI M' a m sz cs→m≤c→qq P n ops rest Q f (qp M'::L1)):qq P n ops rest Q f L:=by
 refine qo (h.ent.trans X4) (Ke λhc=> ?_);exact JC (λM' hl hs=>hk M' hl hs hc)
end
theorem rH {t sz m c:Nat}{a:OA}{cs:List Value}{L:HL}:qi (slO t sz a m c cs::L) (wT (cs.length=m*sz∧(m=0∨∃b,a=some ⟨b,0,none⟩)∧m≤c)::slO t sz a m c cs::L):=λw F H=>by
 have H0:St w (slO t sz a m c cs::(L++F)):=by simpa using H
 obtain ⟨hl,hq⟩:=St.slO_open H0;have hp:cs.length=m*sz∧(m=0∨∃b,a=some ⟨b,0,none⟩)∧m≤c:=by
  refine ⟨hl,?_⟩
  rcases hq with ⟨_,hm,hc,_⟩|⟨b,_,ha,hm,_⟩
  ·exact ⟨.inl hm,by omega⟩
  ·exact ⟨.inr ⟨b,ha⟩,hm⟩
 exact qi.shut_pure hp w F H
theorem jEb {P:Program}{n:Nat}{ops rest:List Oper}{Q:vm}{f:vL}{L:HL}(a:OA){t sz m c:Nat}{cs:List Value}{L0:HL}[h:KU a L t sz m c cs L0]
  (hk:cs.length=m*sz→(m=0∨∃b,a=some ⟨b,0,none⟩)→m≤c→qq P n ops rest Q f (slO t sz a m c cs::L0)):qq P n ops rest Q f L:=
 qo (h.ent.trans rH) (Ke λhp=>hk hp.1 hp.2.1 hp.2.2)
theorem rN (pre rest ys:List Value):vN (pre++rest) pre.length ys=pre++ys++rest.drop ys.length:=by
 unfold vN;rw[List.take_left',kN,Nat.add_sub_cancel_left]
 ·rw[List.drop_eq_nil_of_le zo,kO]
 ·rfl
section
variable {P : Program} {n : Nat} {ops rest : List Oper} {Q : vm} {f : vL} {A L : HL} {d : Tmp} {ty : TypeId} {pos : String} {af : Array Edge}
theorem sr (l:List UInt8)(a b:Nat)(h1:a≤b)(h2:b≤l.length):(⟨l.toArray⟩:ByteArray).extract a b=⟨((l.drop a).take (b - a)).toArray⟩:=by
 apply ByteArray.ext;apply Array.ext';rw[ByteArray.data_extract]
 simp
theorem Y.stF {x lo:Operand}{t:TypeId}{bs:List UInt8}{l:Nat}{i:Int}{kl:IntKind}[hs:Wn P t](hx:ev f x=some (str bs))(hl:ev f lo=some (.int kl i))(el:i=(l:Int))(h1:l≤bs.length):
  qk P n ops ⟨some d,.slice t x (some lo) none none,ty,pos,af,none⟩ f A (str (bs.drop l)):=by
 refine Y.of (λac w s=> ?_);subst el;have hx':=s.eval hx;unfold str at hx' ⊢;have e1:(l:Int)≤(bs.length:Int):=by omega
 have es:(⟨bs.toArray⟩:ByteArray).size=bs.length:=by simp[ByteArray.size]
 have e3:(bs.drop l).take (bs.length - l)=bs.drop l:=kK (by rw[jE];exact jz _)
 simp[execOp,hx',s.eval hl,Instr.sliceAt,hs.und,Instr.slice,Instr.sliceBounds,Instr.sliceBound,asIntOf,es,h1,sr bs l bs.length h1 (jz _),e3]
theorem Y.stT {x hi:Operand}{t:TypeId}{bs:List UInt8}{h:Nat}{j:Int}{kh:IntKind}[hs:Wn P t](hx:ev f x=some (str bs))(hh:ev f hi=some (.int kh j))(eh:j=(h:Int))(h2:h≤bs.length):
  qk P n ops ⟨some d,.slice t x none (some hi) none,ty,pos,af,none⟩ f A (str (bs.take h)):=by
 refine Y.of (λac w s=> ?_);subst eh;have hx':=s.eval hx;unfold str at hx' ⊢;have e2:(h:Int)≤(bs.length:Int):=by omega
 have es:(⟨bs.toArray⟩:ByteArray).size=bs.length:=by simp[ByteArray.size]
 have e3:=sr bs 0 h (jw _) h2;rw[List.drop_zero,Nat.sub_zero] at e3
 simp[execOp,hx',s.eval hh,Instr.sliceAt,hs.und,Instr.slice,Instr.sliceBounds,Instr.sliceBound,asIntOf,es,h2,e3]
theorem gr {t:TypeId}{ms:Array (String×TypeId)}(m:Nat)(h:P.underlying t=some (.interface ms))(w:World):(Op.equalIn (m+1) t .nilIface .nilIface).run P w=.ok true w:=by
 simp[Op.equalIn,run_underlying h]
theorem Y.eqNN {x:Operand}{t t':TypeId}{ms:Array (String×TypeId)}(hx:ev f x=some .nilIface)(hi:P.underlying t=some (.interface ms)):qk P n ops ⟨some d,.binOp .eql t x (.const .nilIface) t',ty,pos,af,none⟩ f A (.bool true):=by
 refine Y.of (λac w s=> ?_);have e:ac.eval (.const .nilIface)=.nilIface:=rfl;have e2:(Op.equal t .nilIface .nilIface).run P w=.ok true w:=by
  exact gr 9999 hi w
 simp[execOp,s.eval hx,e,eqGuard,binOp,e2]
theorem Y.stA {x y:Operand}{t t':TypeId}{a b:List UInt8}(hx:ev f x=some (str a))(hy:ev f y=some (str b))(hl:a.length+b.length≤1000000):qk P n ops ⟨some d,.binOp .add t x y t',ty,pos,af,none⟩ f A (str (a++b)):=by
 refine Y.of (λac w s=> ?_);have h1:=s.eval hx;have h2:=s.eval hy;unfold str at h1 h2 ⊢;have e:(⟨a.toArray⟩++⟨b.toArray⟩:ByteArray)=⟨(a++b).toArray⟩:=by
  apply ByteArray.ext
  simp[ByteArray.data_append]
 have ea:(⟨a.toArray⟩:ByteArray).size=a.length:=by simp[ByteArray.size]
 have eb:(⟨b.toArray⟩:ByteArray).size=b.length:=by simp[ByteArray.size]
 have hl2:(a.length:Int)+(b.length:Int)≤9223372036854775807:=by omega
 simp[execOp,h1,h2,eqGuard,binOp,Op.stringOp,e,ea,eb,hl2]
theorem Y.stL {x:Operand}{t:TypeId}{bs:List UInt8}[hs:Wn P t](hx:ev f x=some (str bs)):qk P n ops ⟨some d,.call ⟨.builtin .len,#[x],#[t]⟩,ty,pos,af,none⟩ f A (.int .i64 bs.length):=by
 refine Y.of (λac w s=> ?_);have h1:=s.eval hx;unfold str at h1;have es:(⟨bs.toArray⟩:ByteArray).size=bs.length:=by simp[ByteArray.size]
 simp[execOp,resolve,invoke,h1,builtin,Builtin.len_,hs.und,goInt,es]
theorem S.rgs {x:Operand}{t:TypeId}{bs:List UInt8}[hs:Wn P t](hx:ev f x=some (str bs))
  (hk:∀r,qq P n ops rest Q (upd f d (.pointer (some ⟨r,0,none⟩))) (pt r (.stringIter ⟨bs.toArray⟩ 0)::L)):qq P n ops (⟨some d,.range t x,ty,pos,af,none⟩::rest) Q f L:=by
 refine vF (R:=λv L1=>∃r,v=.pointer (some ⟨r,0,none⟩)∧L1=pt r (.stringIter ⟨bs.toArray⟩ 0)::L) (λF a w s t0=> ?_) (by rintro _ _ ⟨r,rfl,rfl⟩;exact hk r);have h1:=s.eval hx;unfold str at h1;exact ⟨.pointer (some ⟨w.heap.size,0,none⟩),_,_,by simp[execOp,Instr.range,h1,hs.und,newObj,Sem.run],St.new t0,_,rfl,rfl⟩
theorem S.nxs {x:Operand}{r k:Nat}{bs:List UInt8}{L0:HL}[hp:xp (pt r (.stringIter ⟨bs.toArray⟩ k)) L L0](hx:ev f x=some (.pointer (some ⟨r,0,none⟩)))
  (hend:bs.length≤k→qq P n ops rest Q (upd f d (.tuple #[.bool false])) (pt r (.stringIter ⟨bs.toArray⟩ k)::L0))
  (hstep:∀b,bs[k]? =some b→qq P n ops rest Q (upd f d (.tuple #[.bool true,.int .i64 k,.int .i32 b.toNat])) (pt r (.stringIter ⟨bs.toArray⟩ (k+1))::L0)) (hb:∀b∈bs,b.toNat<128):
  qq P n ops (⟨some d,.next x true,ty,pos,af,none⟩::rest) Q f L:=by
 refine qo hp.ent ?_;refine vF (R := fun v L1 => (bs.length ≤ k ∧ v = .tuple #[.bool false] ∧ L1 = pt r (.stringIter ⟨bs.toArray⟩ k) :: L0) ∨ ∃ b,bs[k]? = some b ∧ v = .tuple #[.bool true,.int .i64 k,.int .i32 b.toNat] ∧ L1 = pt r (.stringIter ⟨bs.toArray⟩ (k + 1)) :: L0) (fun F a w s t0 => ?_) (by
  rintro _ _ (⟨h,rfl,rfl⟩|⟨b,h,rfl,rfl⟩)
  ·exact hend h
  ·exact hstep b h)
 have hr:=St.pt_read t0;have es:(⟨bs.toArray⟩:ByteArray).size=bs.length:=by simp[ByteArray.size]
 by_cases h:k<bs.length
 ·obtain ⟨b,hbk⟩:∃b,bs[k]? =some b:=⟨_,jY h⟩
  have hb8:=hb b (jn hbk);have hget:(⟨bs.toArray⟩:ByteArray).get! k=b:=by
   have:bs.toArray[k]! =b:=by
    rw[getElem!_pos bs.toArray k (by simpa using h)];simp only[List.getElem_toArray];exact (jm.1 hbk).2
   exact this
  have hd:Utf8.decode ⟨bs.toArray⟩ k=(b.toNat,1):=by
   unfold Utf8.decode;simp only[Nat.add_zero,hget];rw[jb hb8]
  refine ⟨_,{w with heap:=w.heap.setIfInBounds r (.stringIter ⟨bs.toArray⟩ (k+1))},_,?_,?_,.inr ⟨b,hbk,rfl,rfl⟩⟩
  ·have hlt:r<w.heap.size:=(kj.1 hr).1
   simp[execOp,s.eval hx,Instr.next,getObj,setObj,Sem.run,hr,es,h,hd,goInt]
  ·have hlt:r<w.heap.size:=(kj.1 hr).1
   exact St.pt_write (w':={w with heap:=w.heap.setIfInBounds r (.stringIter ⟨bs.toArray⟩ (k+1))}) t0 (by simp[hlt]) (λj hj=>by simp[Ne.symm hj])
 ·exact ⟨_,w,_,by simp[execOp,s.eval hx,Instr.next,getObj,Sem.run,hr,es,h],t0,.inl ⟨by omega,rfl,rfl⟩⟩
end
theorem St.more {w w':World}{L:HL}(H:St w L)(hb:∀(k:Nat) (o:Obj),w.heap[k]? =some o→w'.heap[k]? =some o)(he:ext w'=ext w):St w' L:=by
 obtain ⟨h0,f,s⟩:=H;exact ⟨h0,λb p o e=>hb _ _ (f b p o e),by rw[he];exact s⟩
theorem qh.intro {P:Program}{g:FuncId}{args:List Value}{L:HL}{R:Value→HL→Prop}(h:∀F w,St w (L++F)→Calls P g args.toArray w λe w'=>∃v L',e=.returned v∧St w' (L'++F)∧R v L'):qh P g args L R:=h
theorem qh.lift {P:Program}{g:FuncId}{args:List Value}{L:HL}{R:Value→Prop}(h:∀F w,St w (L++F)→Calls P g args.toArray w λe w'=>∃v,e=.returned v∧R v∧(∀(k:Nat) (o:Obj),w.heap[k]? =some o→w'.heap[k]? =some o)∧ext w'=ext w):qh P g args L (λr L'=>R r∧L'=L):=by
 intro F w H;refine (h F w H).mono ?_;rintro e w' ⟨v,rfl,hv,hb,he⟩;exact ⟨v,L,rfl,St.more H hb he,hv,rfl⟩
end Go.SX
