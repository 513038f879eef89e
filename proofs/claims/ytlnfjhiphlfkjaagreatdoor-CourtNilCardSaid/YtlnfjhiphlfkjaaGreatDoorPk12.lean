/- Walks of functions, and plain laws, that the last text rests on. No condition. -/
import Derived.Test.YtlnfjhiphlfkjaaGreatDoorPk11
set_option linter.unusedVariables false
set_option linter.unusedSimpArgs false
set_option linter.unusedSectionVars false
set_option maxHeartbeats 16000000
namespace Go.Proofs.YtlnfjhiphlfkjaaGreatDoor
open Go Go.SX
theorem zp {z:Int}(rest:List UInt8)(h0:0≤z)(h1:z≤18446744073709551615):xD ⟨numI z++rest,true⟩=(z,⟨rest,true⟩):=by
 unfold xD;dsimp only;rw[QW rest h0 h1 zo,jb ⟨rfl,rfl⟩];dsimp only;rw[kF,Int.toNat_of_nonneg h0]
theorem Q1 {z:Int}{m:Nat}(rest:List UInt8)(h0:0≤z)(h1:z≤m)(h2:z≤18446744073709551615):zj m ⟨numI z++rest,true⟩=(z,⟨rest,true⟩):=by
 unfold zj;rw[zp rest h0 h2,ja (by dsimp only;omega)]
theorem lv {v:List Int}(rest:List UInt8)(h:vOK v):WU ⟨vW v++rest,true⟩=(v,⟨rest,true⟩):=by
 have hf:=(Qd (most:=8) zd).fwd v rest true h;rw[jCK] at hf;dsimp only at hf;rw[ja zd] at hf;unfold WU;dsimp only;generalize Kw (vW v++rest)=x at hf;obtain ⟨a,b,c⟩:=x;dsimp only at hf ⊢
 by_cases hc:c=0
 ·rw[ja (by simp[hc])] at hf
  rw[jb ⟨hc,rfl⟩];have h1:=jj Prod.fst hf;have h2:=jj (λz=>z.2.bs) hf;dsimp only at h1 h2;rw[h1,h2]
 ·rw[jb hc] at hf
  have h2:=jj (λz=>z.2.bad) hf;dsimp only at h2;exact absurd h2 hc
theorem jBl {α:Type}{e:α→List UInt8}{d:RZ→α×RZ}{ok:α→Prop}(h:∀x rest,ok x→d ⟨e x++rest,true⟩=(x,⟨rest,true⟩))(rest:List UInt8):∀(xs acc:List α),(∀x∈xs,ok x)→fG d xs.length (⟨xs.flatMap e++rest,true⟩,acc)=(⟨rest,true⟩,acc++xs)
 | [],acc,_=>by simp[fG]
 |x::xs,acc,hx=>by
  rw[jC,KM,jK,ju];dsimp only;rw[h x _ (hx x kg)];dsimp only;rw[jBl h rest xs _ λy hy=>hx y (jV _ hy),ju];rfl
theorem cF {α:Type}{e:α→List UInt8}{d:RZ→α×RZ}{ok:α→Prop}(h:∀x rest,ok x→d ⟨e x++rest,true⟩=(x,⟨rest,true⟩))(rest:List UInt8){m:Nat}(hm:m≤1000000){xs:List α}(hl:xs.length≤m)(hx:∀x∈xs,ok x):VE m d ⟨ws e xs++rest,true⟩=(xs,⟨rest,true⟩):=by
 unfold VE ws;rw[ju,Q1 _ (kQ _) zo zo];dsimp only;rw[kz,jBl h rest xs [] hx,kO]
theorem jEW (o:Int×List Int)(rest:List UInt8)(h:X0 o):opF ⟨xj o++rest,true⟩=(o,⟨rest,true⟩):=by
 unfold opF xj;rw[ju,zp _ h.1.1 (by have:=h.1.2;omega)];dsimp only;rw[lv rest h.2]
theorem jE6 (o:Int×Int×List Int)(rest:List UInt8)(h:KR o):htF ⟨xq o++rest,true⟩=(o,⟨rest,true⟩):=by
 unfold htF xq;rw[ju,ju,zp _ h.1.1 (by have:=h.1.2;omega)];dsimp only;rw[zp _ h.2.1.1 (by have:=h.2.1.2;omega)];dsimp only;rw[lv rest h.2.2]
structure okZ (n:NA):Prop where
 txn:0≤n.txn∧n.txn≤18446744073709551615
 batch:0≤n.batch∧n.batch≤18446744073709551615
 stamp:0≤n.stamp∧n.stamp≤18446744073709551615
 after:0≤n.after∧n.after≤18446744073709551615
 mark:0≤n.mark∧n.mark≤18446744073709551615
 query:0≤n.query∧n.query≤18446744073709551615
 id:0≤n.id∧n.id≤18446744073709551615
 k:0≤n.k∧n.k≤16
 ef:0≤n.ef∧n.ef≤256
 code:0≤n.code∧n.code≤13
 who:0≤n.who∧n.who≤15
 parts:n.parts.length≤4∧∀x∈n.parts,0≤x∧x≤15
 ops:n.ops.length≤16∧∀o∈n.ops,X0 o
 vec:vOK n.vec
 hits:n.hits.length≤16∧∀h∈n.hits,KR h
def Jq (n x:NA)(f:UInt8):NA:=
 if f=116 then {x with txn:=n.txn} else if f=98 then {x with batch:=n.batch} else if f=115 then {x with stamp:=n.stamp} else if f=97 then {x with after:=n.after} else if f=109 then {x with mark:=n.mark} else if f=113 then {x with query:=n.query} else if f=105 then {x with id:=n.id} else if f=107 then {x with k:=n.k} else if f=101 then {x with ef:=n.ef} else if f=99 then {x with code:=n.code} else if f=119 then {x with who:=n.who} else if f=112 then {x with parts:=n.parts} else if f=111 then {x with ops:=n.ops} else if f=118 then {x with vec:=n.vec} else {x with hits:=n.hits}
theorem jCS {n:NA}(h:okZ n)(x:NA)(f:UInt8)(rest:List UInt8):XL (x,⟨W7 n f++rest,true⟩) f=(Jq n x f,⟨rest,true⟩):=by
 unfold XL W7 Jq
 by_cases h0:f=116
 ·simp only[jb h0]
  rw[zp rest h.txn.1 h.txn.2]
 simp only[ja h0]
 by_cases h1:f=98
 ·simp only[jb h1]
  rw[zp rest h.batch.1 h.batch.2]
 simp only[ja h1]
 by_cases h2:f=115
 ·simp only[jb h2]
  rw[zp rest h.stamp.1 h.stamp.2]
 simp only[ja h2]
 by_cases h3:f=97
 ·simp only[jb h3]
  rw[zp rest h.after.1 h.after.2]
 simp only[ja h3]
 by_cases h4:f=109
 ·simp only[jb h4]
  rw[zp rest h.mark.1 h.mark.2]
 simp only[ja h4]
 by_cases h5:f=113
 ·simp only[jb h5]
  rw[zp rest h.query.1 h.query.2]
 simp only[ja h5]
 by_cases h6:f=105
 ·simp only[jb h6]
  rw[zp rest h.id.1 h.id.2]
 simp only[ja h6]
 by_cases h7:f=107
 ·simp only[jb h7]
  rw[Q1 rest h.k.1 (by have:=h.k.2;omega) (by have:=h.k.2;omega)]
 simp only[ja h7]
 by_cases h8:f=101
 ·simp only[jb h8]
  rw[Q1 rest h.ef.1 (by have:=h.ef.2;omega) (by have:=h.ef.2;omega)]
 simp only[ja h8]
 by_cases h9:f=99
 ·simp only[jb h9]
  rw[Q1 rest h.code.1 (by have:=h.code.2;omega) (by have:=h.code.2;omega)]
 simp only[ja h9]
 by_cases h10:f=119
 ·simp only[jb h10]
  rw[Q1 rest h.who.1 (by have:=h.who.2;omega) (by have:=h.who.2;omega)]
 simp only[ja h10]
 by_cases h11:f=112
 ·simp only[jb h11]
  rw[cF (ok:=λx:Int=>0≤x∧x≤15) (λx rest hx=>Q1 rest hx.1 (by have:=hx.2;omega) (by have:=hx.2;omega)) rest zd h.parts.1 h.parts.2]
 simp only[ja h11]
 by_cases h12:f=111
 ·simp only[jb h12]
  rw[cF (ok:=X0) jEW rest zd h.ops.1 h.ops.2]
 simp only[ja h12]
 by_cases h13:f=118
 ·simp only[jb h13]
  rw[lv rest h.vec]
 simp only[ja h13];rw[cF (ok:=KR) jE6 rest zd h.hits.1 h.hits.2]
theorem px {n:NA}(h:okZ n)(rest:List UInt8):∀(l:List UInt8) (x:NA),l.foldl XL (x,⟨l.flatMap (W7 n)++rest,true⟩)=(l.foldl (Jq n) x,⟨rest,true⟩)
 | [],x=>rfl
 |f::l,x=>by
  rw[jK,ju,List.foldl_cons,jCS h,px h rest l,List.foldl_cons]
theorem Wd {α β:Type}(p:α→Bool)(g:β→α→β):∀(l:List α) (x:β),(l.filter p).foldl g x=l.foldl (λx c=>if p c=true then g x c else x) x
 | [],x=>rfl
 |c::l,x=>by
  rw[kI,List.foldl_cons]
  split
  ·next h=>rw[List.foldl_cons,Wd p g l]
  ·next h=>rw[Wd p g l]
theorem jF8 (n:NA)(b:Bool)(x0 x1 x2 x3 x4 x5 x6 x7 x8 x9 x10 x11:Int)(x12:List Int)(x13:VL)(x14:List Int)(x15:List (Int×Int×List Int)):(if b=true then Jq n ⟨x0,x1,x2,x3,x4,x5,x6,x7,x8,x9,x10,x11,x12,x13,x14,x15⟩ 116 else ⟨x0,x1,x2,x3,x4,x5,x6,x7,x8,x9,x10,x11,x12,x13,x14,x15⟩)=⟨x0,if b=true then n.txn else x1,x2,x3,x4,x5,x6,x7,x8,x9,x10,x11,x12,x13,x14,x15⟩:=by cases b<;>rfl
theorem jF7 (n:NA)(b:Bool)(x0 x1 x2 x3 x4 x5 x6 x7 x8 x9 x10 x11:Int)(x12:List Int)(x13:VL)(x14:List Int)(x15:List (Int×Int×List Int)):(if b=true then Jq n ⟨x0,x1,x2,x3,x4,x5,x6,x7,x8,x9,x10,x11,x12,x13,x14,x15⟩ 98 else ⟨x0,x1,x2,x3,x4,x5,x6,x7,x8,x9,x10,x11,x12,x13,x14,x15⟩)=⟨x0,x1,if b=true then n.batch else x2,x3,x4,x5,x6,x7,x8,x9,x10,x11,x12,x13,x14,x15⟩:=by cases b<;>rfl
theorem jF6 (n:NA)(b:Bool)(x0 x1 x2 x3 x4 x5 x6 x7 x8 x9 x10 x11:Int)(x12:List Int)(x13:VL)(x14:List Int)(x15:List (Int×Int×List Int)):(if b=true then Jq n ⟨x0,x1,x2,x3,x4,x5,x6,x7,x8,x9,x10,x11,x12,x13,x14,x15⟩ 115 else ⟨x0,x1,x2,x3,x4,x5,x6,x7,x8,x9,x10,x11,x12,x13,x14,x15⟩)=⟨x0,x1,x2,if b=true then n.stamp else x3,x4,x5,x6,x7,x8,x9,x10,x11,x12,x13,x14,x15⟩:=by cases b<;>rfl
theorem jF5 (n:NA)(b:Bool)(x0 x1 x2 x3 x4 x5 x6 x7 x8 x9 x10 x11:Int)(x12:List Int)(x13:VL)(x14:List Int)(x15:List (Int×Int×List Int)):(if b=true then Jq n ⟨x0,x1,x2,x3,x4,x5,x6,x7,x8,x9,x10,x11,x12,x13,x14,x15⟩ 97 else ⟨x0,x1,x2,x3,x4,x5,x6,x7,x8,x9,x10,x11,x12,x13,x14,x15⟩)=⟨x0,x1,x2,x3,if b=true then n.after else x4,x5,x6,x7,x8,x9,x10,x11,x12,x13,x14,x15⟩:=by cases b<;>rfl
theorem jF4 (n:NA)(b:Bool)(x0 x1 x2 x3 x4 x5 x6 x7 x8 x9 x10 x11:Int)(x12:List Int)(x13:VL)(x14:List Int)(x15:List (Int×Int×List Int)):(if b=true then Jq n ⟨x0,x1,x2,x3,x4,x5,x6,x7,x8,x9,x10,x11,x12,x13,x14,x15⟩ 109 else ⟨x0,x1,x2,x3,x4,x5,x6,x7,x8,x9,x10,x11,x12,x13,x14,x15⟩)=⟨x0,x1,x2,x3,x4,if b=true then n.mark else x5,x6,x7,x8,x9,x10,x11,x12,x13,x14,x15⟩:=by cases b<;>rfl
theorem jF3 (n:NA)(b:Bool)(x0 x1 x2 x3 x4 x5 x6 x7 x8 x9 x10 x11:Int)(x12:List Int)(x13:VL)(x14:List Int)(x15:List (Int×Int×List Int)):(if b=true then Jq n ⟨x0,x1,x2,x3,x4,x5,x6,x7,x8,x9,x10,x11,x12,x13,x14,x15⟩ 113 else ⟨x0,x1,x2,x3,x4,x5,x6,x7,x8,x9,x10,x11,x12,x13,x14,x15⟩)=⟨x0,x1,x2,x3,x4,x5,if b=true then n.query else x6,x7,x8,x9,x10,x11,x12,x13,x14,x15⟩:=by cases b<;>rfl
theorem jF2 (n:NA)(b:Bool)(x0 x1 x2 x3 x4 x5 x6 x7 x8 x9 x10 x11:Int)(x12:List Int)(x13:VL)(x14:List Int)(x15:List (Int×Int×List Int)):(if b=true then Jq n ⟨x0,x1,x2,x3,x4,x5,x6,x7,x8,x9,x10,x11,x12,x13,x14,x15⟩ 105 else ⟨x0,x1,x2,x3,x4,x5,x6,x7,x8,x9,x10,x11,x12,x13,x14,x15⟩)=⟨x0,x1,x2,x3,x4,x5,x6,if b=true then n.id else x7,x8,x9,x10,x11,x12,x13,x14,x15⟩:=by cases b<;>rfl
theorem jF1 (n:NA)(b:Bool)(x0 x1 x2 x3 x4 x5 x6 x7 x8 x9 x10 x11:Int)(x12:List Int)(x13:VL)(x14:List Int)(x15:List (Int×Int×List Int)):(if b=true then Jq n ⟨x0,x1,x2,x3,x4,x5,x6,x7,x8,x9,x10,x11,x12,x13,x14,x15⟩ 107 else ⟨x0,x1,x2,x3,x4,x5,x6,x7,x8,x9,x10,x11,x12,x13,x14,x15⟩)=⟨x0,x1,x2,x3,x4,x5,x6,x7,if b=true then n.k else x8,x9,x10,x11,x12,x13,x14,x15⟩:=by cases b<;>rfl
theorem jF0 (n:NA)(b:Bool)(x0 x1 x2 x3 x4 x5 x6 x7 x8 x9 x10 x11:Int)(x12:List Int)(x13:VL)(x14:List Int)(x15:List (Int×Int×List Int)):(if b=true then Jq n ⟨x0,x1,x2,x3,x4,x5,x6,x7,x8,x9,x10,x11,x12,x13,x14,x15⟩ 101 else ⟨x0,x1,x2,x3,x4,x5,x6,x7,x8,x9,x10,x11,x12,x13,x14,x15⟩)=⟨x0,x1,x2,x3,x4,x5,x6,x7,x8,if b=true then n.ef else x9,x10,x11,x12,x13,x14,x15⟩:=by cases b<;>rfl
theorem jFZ (n:NA)(b:Bool)(x0 x1 x2 x3 x4 x5 x6 x7 x8 x9 x10 x11:Int)(x12:List Int)(x13:VL)(x14:List Int)(x15:List (Int×Int×List Int)):(if b=true then Jq n ⟨x0,x1,x2,x3,x4,x5,x6,x7,x8,x9,x10,x11,x12,x13,x14,x15⟩ 99 else ⟨x0,x1,x2,x3,x4,x5,x6,x7,x8,x9,x10,x11,x12,x13,x14,x15⟩)=⟨x0,x1,x2,x3,x4,x5,x6,x7,x8,x9,if b=true then n.code else x10,x11,x12,x13,x14,x15⟩:=by cases b<;>rfl
theorem jEO (n:NA)(b:Bool)(x0 x1 x2 x3 x4 x5 x6 x7 x8 x9 x10 x11:Int)(x12:List Int)(x13:VL)(x14:List Int)(x15:List (Int×Int×List Int)):(if b=true then Jq n ⟨x0,x1,x2,x3,x4,x5,x6,x7,x8,x9,x10,x11,x12,x13,x14,x15⟩ 119 else ⟨x0,x1,x2,x3,x4,x5,x6,x7,x8,x9,x10,x11,x12,x13,x14,x15⟩)=⟨x0,x1,x2,x3,x4,x5,x6,x7,x8,x9,x10,if b=true then n.who else x11,x12,x13,x14,x15⟩:=by cases b<;>rfl
theorem jEN (n:NA)(b:Bool)(x0 x1 x2 x3 x4 x5 x6 x7 x8 x9 x10 x11:Int)(x12:List Int)(x13:VL)(x14:List Int)(x15:List (Int×Int×List Int)):(if b=true then Jq n ⟨x0,x1,x2,x3,x4,x5,x6,x7,x8,x9,x10,x11,x12,x13,x14,x15⟩ 112 else ⟨x0,x1,x2,x3,x4,x5,x6,x7,x8,x9,x10,x11,x12,x13,x14,x15⟩)=⟨x0,x1,x2,x3,x4,x5,x6,x7,x8,x9,x10,x11,if b=true then n.parts else x12,x13,x14,x15⟩:=by cases b<;>rfl
theorem jEM (n:NA)(b:Bool)(x0 x1 x2 x3 x4 x5 x6 x7 x8 x9 x10 x11:Int)(x12:List Int)(x13:VL)(x14:List Int)(x15:List (Int×Int×List Int)):(if b=true then Jq n ⟨x0,x1,x2,x3,x4,x5,x6,x7,x8,x9,x10,x11,x12,x13,x14,x15⟩ 111 else ⟨x0,x1,x2,x3,x4,x5,x6,x7,x8,x9,x10,x11,x12,x13,x14,x15⟩)=⟨x0,x1,x2,x3,x4,x5,x6,x7,x8,x9,x10,x11,x12,if b=true then n.ops else x13,x14,x15⟩:=by cases b<;>rfl
theorem jEL (n:NA)(b:Bool)(x0 x1 x2 x3 x4 x5 x6 x7 x8 x9 x10 x11:Int)(x12:List Int)(x13:VL)(x14:List Int)(x15:List (Int×Int×List Int)):(if b=true then Jq n ⟨x0,x1,x2,x3,x4,x5,x6,x7,x8,x9,x10,x11,x12,x13,x14,x15⟩ 118 else ⟨x0,x1,x2,x3,x4,x5,x6,x7,x8,x9,x10,x11,x12,x13,x14,x15⟩)=⟨x0,x1,x2,x3,x4,x5,x6,x7,x8,x9,x10,x11,x12,x13,if b=true then n.vec else x14,x15⟩:=by cases b<;>rfl
theorem jEK (n:NA)(b:Bool)(x0 x1 x2 x3 x4 x5 x6 x7 x8 x9 x10 x11:Int)(x12:List Int)(x13:VL)(x14:List Int)(x15:List (Int×Int×List Int)):(if b=true then Jq n ⟨x0,x1,x2,x3,x4,x5,x6,x7,x8,x9,x10,x11,x12,x13,x14,x15⟩ 104 else ⟨x0,x1,x2,x3,x4,x5,x6,x7,x8,x9,x10,x11,x12,x13,x14,x15⟩)=⟨x0,x1,x2,x3,x4,x5,x6,x7,x8,x9,x10,x11,x12,x13,x14,if b=true then n.hits else x15⟩:=by cases b<;>rfl
theorem jAO (n:NA)(k:Nat):(wN k).foldl (Jq n) {NA.zero with kind:=n.kind}=⟨n.kind,if vj k 116=true then n.txn else 0,if vj k 98=true then n.batch else 0,if vj k 115=true then n.stamp else 0,if vj k 97=true then n.after else 0,if vj k 109=true then n.mark else 0,if vj k 113=true then n.query else 0,if vj k 105=true then n.id else 0,if vj k 107=true then n.k else 0,if vj k 101=true then n.ef else 0,if vj k 99=true then n.code else 0,if vj k 119=true then n.who else 0,if vj k 112=true then n.parts else [],if vj k 111=true then n.ops else [],if vj k 118=true then n.vec else [],if vj k 104=true then n.hits else []⟩:=by
 rw[VG,Wd];unfold abc;simp only[List.foldl_cons,List.foldl_nil,jF8,jF7,jF6,jF5,jF4,jF3,jF2,jF1,jF0,jFZ,jEO,jEN,jEM,jEL,jEK]
theorem zE {α:Type}{b:Bool}{x y:α}{p:Prop}(h:if b=true then p else x=y):(if b=true then x else y)=x:=by
 cases b with
 |true=>rfl
 |false=>exact h.symm
theorem V2 {n:NA}(h:qu n=true)(u:xf n):okZ n:=by
 have hO:=xn h u;have hR:=h;unfold qu at hR;simp only[jF,jS] at hR;obtain ⟨⟨hk,hb⟩,hB⟩:=hR;unfold wQ at hB;simp only[jF,kL,Bool.or_eq_false_iff,j5] at hB;obtain ⟨⟨⟨⟨⟨⟨⟨⟨⟨⟨c1,c2⟩,c3⟩,c4⟩,c5⟩,c6⟩,c7⟩,⟨⟨⟨d1,d2⟩,d3⟩,d4⟩⟩,e1⟩,e2⟩,e3⟩:=hB;have hu:=u.a;obtain ⟨b1,b2,b3,b4,b5⟩:=hO.b;refine ⟨hu.txn,hu.batch,hu.stamp,hu.after,hu.mark,hu.query,hu.id,by omega,by omega,by omega,by omega,⟨by omega,λx hx=> ?_⟩,⟨by omega,λo ho=> ?_⟩,VQ (by simpa using d4),⟨by omega,λo ho=> ?_⟩⟩
 ·unfold wL at e1
  rw[List.all_eq_true] at e1;obtain ⟨i,hi,rfl⟩:=List.mem_iff_getElem.1 hx;have:=e1 i (List.mem_range.2 hi);unfold cj at this;simp only[jF,jS] at this;have h2:=this.1;rw[j8,jY hi] at h2;dsimp only[Option.getD_some] at h2;omega
 ·rw[List.any_eq_false] at e2
  have h2:=e2 o ho;unfold yi at h2;simp only[kU,jS,kL,not_or] at h2;have h0:=u.o o ho;exact ⟨⟨h0,by omega⟩,VQ (by simpa using h2.2)⟩
 ·rw[List.any_eq_false] at e3
  have h2:=e3 o ho;unfold xA at h2;simp only[kU,jS,kL,not_or] at h2;have h0:=u.h o ho;exact ⟨⟨h0.1,by omega⟩,⟨h0.2.1,by have:=h0.2.2;omega⟩,V3 (by simpa using h2.2)⟩
theorem jCV {n:NA}(h:OKn n):(wN n.kind.toNat).foldl (Jq n) {NA.zero with kind:=n.kind}=n:=by
 rw[jAO];obtain ⟨b1,b2,b3,b4,b5⟩:=h.b;have q0:qB n.kind.toNat 0=vj n.kind.toNat 116:=vd _ 0 zd;have q1:qB n.kind.toNat 1=vj n.kind.toNat 98:=vd _ 1 zd;have q2:qB n.kind.toNat 2=vj n.kind.toNat 115:=vd _ 2 zd;have q3:qB n.kind.toNat 3=vj n.kind.toNat 97:=vd _ 3 zd;have q4:qB n.kind.toNat 4=vj n.kind.toNat 109:=vd _ 4 zd;have q5:qB n.kind.toNat 5=vj n.kind.toNat 113:=vd _ 5 zd;have q6:qB n.kind.toNat 6=vj n.kind.toNat 105:=vd _ 6 zd;have q7:qB n.kind.toNat 7=vj n.kind.toNat 107:=vd _ 7 zd;have q8:qB n.kind.toNat 8=vj n.kind.toNat 101:=vd _ 8 zd;have q9:qB n.kind.toNat 9=vj n.kind.toNat 99:=vd _ 9 zd;have q10:qB n.kind.toNat 10=vj n.kind.toNat 119:=vd _ 10 zd;have q11:qB n.kind.toNat 11=vj n.kind.toNat 112:=vd _ 11 zd;have q12:qB n.kind.toNat 12=vj n.kind.toNat 111:=vd _ 12 zd;have q13:qB n.kind.toNat 13=vj n.kind.toNat 118:=vd _ 13 zd;have q14:qB n.kind.toNat 14=vj n.kind.toNat 104:=vd _ 14 zd;obtain ⟨k0,k1,k2,k3,k4,k5,k6,k7,k8,k9,k10,_⟩:VD [(qB n.kind.toNat 0,18446744073709551615),(qB n.kind.toNat 1,18446744073709551615),(qB n.kind.toNat 2,1099511627776),(qB n.kind.toNat 3,1099511627776),(qB n.kind.toNat 4,1099511627776),(qB n.kind.toNat 5,18446744073709551615),(qB n.kind.toNat 6,1099511627776),(qB n.kind.toNat 7,16),(qB n.kind.toNat 8,256),(qB n.kind.toNat 9,13),(qB n.kind.toNat 10,16)] [n.txn,n.batch,n.stamp,n.after,n.mark,n.query,n.id,n.k,n.ef,n.code,n.who]:=b1;dsimp only at k0;rw[q0] at k0;dsimp only at k1;rw[q1] at k1;dsimp only at k2;rw[q2] at k2;dsimp only at k3;rw[q3] at k3;dsimp only at k4;rw[q4] at k4;dsimp only at k5;rw[q5] at k5;dsimp only at k6;rw[q6] at k6;dsimp only at k7;rw[q7] at k7;dsimp only at k8;rw[q8] at k8;dsimp only at k9;rw[q9] at k9;dsimp only at k10;rw[q10] at k10
 rw[q11] at b2;rw[q12] at b3;rw[q13] at b4;rw[q14] at b5;rw[zE k0,zE k1,zE k2,zE k3,zE k4,zE k5,zE k6,zE k7,zE k8,zE k9,zE k10];rw[zE (x:=n.parts) (y:=[]) b2];rw[zE (x:=n.ops) (y:=[]) b3];rw[zE (x:=n.vec) (y:=[]) b4];rw[zE (x:=n.hits) (y:=[]) b5]
theorem nX {n:NA}(h:qu n=true)(u:xf n):W4 (qC n)=(n,⟨[],true⟩):=by
 have hO:=xn h u;have hx:=fy (xF n) [] (zG hO u);rw[jG] at hx;have hk:=hO.k;unfold W4 qC;rw[hx.2.1,KU,←jG ((wN n.kind.toNat).flatMap (W7 n)),Q1 _ hk.1 hk.2 zo];dsimp only;rw[px (V2 h u),jCV hO]
theorem jET {n:NA}(h:qu n=true)(u:xf n):J7 (qC n)=0∧jAT (qC n)=n:=by
 have hO:=xn h u;have hx:=fy (xF n) [] (zG hO u);rw[jG] at hx;have hC:J7 (qC n)=0:=by
  unfold J7;rw[nX h u];unfold qC;rw[hx.1,hx.2.2.1,ja zd,ja (by simp),jb ⟨rfl,rfl,h⟩]
 refine ⟨hC,?_⟩;unfold jAT;rw[jb hC,nX h u]
attribute [local irreducible] swp qq qM qL vX qh St qi qk vu qG
abbrev TV.val (t:TV):Value:=.agg t.cells.toArray
abbrev slB (a:OA)(c:Nat)(bs:List UInt8):HP:=slO 5 1 a bs.length c (bs.map B)
section
variable {n : Nat} {ops rest : List Oper} {Q : vk} {f : vF} {L : HL} {d : Tmp} {ty : TypeId} {pos : String} {af : Array Edge}
theorem S.appB {x y:Operand}{t tx:TypeId}{a a2:OA}{c c2:Nat}{X Y:List UInt8}{L':HP→HL}[h:wu kY t 5][h2:wu kY tx 5][hu:Kv a L 5 1 X.length c (X.map B) L'](hx:ev f x=some (.slice a X.length c))(hy:ev f y=some (.slice a2 Y.length c2))(hr:qW L a2 Y.length 1 (Y.map B))(hl:X.length+Y.length≤100000000000000)
  (hk:∀a' c',qq kY n ops rest Q (upd f d (.slice a' (X++Y).length c')) (L' (slB a' c' (X++Y)))):
  qq kY n ops (⟨some d,.call ⟨.builtin .append,#[x,y],#[t,tx]⟩,ty,pos,af,none⟩::rest) Q f L:=by
 refine S.app hx hy (vA.rd hr (zM _)) zr zo zo (λa' c'=> ?_);have:=hk a' c';unfold slB at this;rw[jc,jq] at this;exact this
end
theorem jBf {z:Int}(h:128≤z):numI z=UInt8.ofNat (z % 128+128).toNat::numI (z / 128):=by
 obtain ⟨m,rfl⟩:∃m:Nat,z=(m:Int):=⟨z.toNat,by omega⟩;rw[n8 (m:=m) zo];have e1:((m:Int) % 128+128).toNat=m % 128+128:=by omega
 have e2:((m:Int) / 128)=((m / 2^7:Nat):Int):=by omega
 rw[e1,e2]
theorem jFV {r:Int}(h:0≤r∧r<128):IntKind.u8.wrap (IntKind.u8.wrap r+128)=((UInt8.ofNat (r+128).toNat).toNat:Int):=by
 rw[u8w,u8w,UInt8.toNat_ofNat'];omega
theorem tj :∀(k:Nat) (z:Int) (L:HL),0≤z→z.toNat≤k→z≤18446744073709551615→
  qh kY 103 [.int .u64 z] L (λr L'=>∃a c,r=.slice a (numI z).length c∧L'=slB a c (numI z)::L):=by
 have low:∀(z:Int) (L:HL),0≤z→z<128→qh kY 103 [.int .u64 z] L (λr L'=>∃a c,r=.slice a (numI z).length c∧L'=slB a c (numI z)::L):=by
  intro z L h0 hlt;refine qg Tryz.func103 rfl rfl rfl ?_;refine Q.r ?_;refine S.y (Y.cvi rfl) ?_;rw[jFU];refine Q.r ?_;(repeat (intro b1;refine Q.r ?_));rw[n7 hlt];refine N.t rfl ?_ ⟨some ⟨b1,0,none⟩,1,rfl,rfl⟩;exact ve (sz:=1) (m:=1) rfl
 intro k
 induction k with
 |zero=>exact λz L h0 hk hz=>low z L h0 zo
 |succ k ih=>
  intro z L h0 hk hz
  by_cases hlt:z<128
  ·exact low z L h0 hlt
  ·have hq:=jBf (z:=z) zo
   refine qg Tryz.func103 rfl rfl rfl ?_;refine Q.r ?_;refine S.y (Y.rem rfl rfl zd) ?_;rw[Int.tmod_eq_emod_of_nonneg h0];refine Q.r ?_;refine S.y (Y.cvi rfl) ?_;refine Q.r ?_;refine S.y (Y.add rfl rfl) ?_;rw[jFV zo];refine Q.r ?_;(repeat (intro b1;refine Q.r ?_));refine qm (ve (sz:=1) (m:=1) rfl) ?_;refine S.y (Y.quo rfl rfl zd) ?_;rw[Int.tdiv_eq_ediv_of_nonneg h0,wrap_u64 zo zo];refine Q.r ?_;refine S.cr rfl (ih (z / 128) _ zo zo zo) ?_;rintro _ _ ⟨a,c,rfl,rfl⟩;have hnl:=qp (z:=z / 128) zo;refine Q.r ?_;refine qX a (λha=> ?_);refine S.appB (X:=[UInt8.ofNat (z % 128+128).toNat]) (Y:=numI (z / 128)) rfl rfl (qW.own ha (by rw[jf,jX])) (by simp only[jC,j7];omega) (λa' c'=> ?_);refine Q.r ?_;rw[hq];refine N.t rfl ?_ ⟨a',c',rfl,rfl⟩;exact eG
theorem zP (z:Int)(L:HL)(h0:0≤z)(hz:z≤18446744073709551615):
  qh kY 103 [.int .u64 z] L (λr L'=>∃a c,r=.slice a (numI z).length c∧L'=slB a c (numI z)::L):=tj z.toNat z L h0 (jz _) hz
end Go.Proofs.YtlnfjhiphlfkjaaGreatDoor
namespace Go.Proofs.YtlnfjhiphlfkjaaGreatDoor
open Go Go.SX
theorem l9 {st:VS}{t a:Int}{ops:VL}(h:Kn st t a ops=0):v7 st.dim ops=0:=by
 unfold Kn at h
 split at h
 ·cases h
 split at h
 ·rename_i h1
  exact absurd h h1
 ·rename_i h1
  exact Decidable.not_not.1 h1
theorem jBn {st:VS}{t a:Int}{ops:VL}(h:Kn st t a ops=0):zz st t a ops={st with its:=st.its++[(t,a,ops)]}:=by unfold zz;rw[jb h]
abbrev itA (i:IR):Int×Int×VL:=(i.1,i.2.1,i.2.2.2)
abbrev ptA (i:IR):Int×List Int:=(i.1,i.2.2.1)
structure OKJ (dim m:Int)(E:List (Int×VL))(I:List IR)(D:List (Int×Int)):Prop where
 hm:0≤m∧m≤(1099511627776:Nat)
 hE:E.length≤1048576∧∀e∈E,jHj e
 hI:I.length≤1048576∧∀i∈I,jHi 4 15 16 i
 hD:D.length≤1048576∧∀d∈D,jHk d∧d.2≠0
 rE:zI (E.map (·.1))
 rI:zI (I.map (·.1))
 rD:zI (D.map (·.1))
 ld:jEj (VS0 dim) m E=0
 fo:jEq dim I ⟨jGn (VS0 dim) m E,[],[]⟩=some ⟨⟨dim,E,I.map itA,m⟩,I.map ptA,[]⟩
structure JPX (j:JS):Prop where
 g:GS j.v
 it:∀i∈j.v.its,(0≤i.1∧i.1≤18446744073709551615)∧(0≤i.2.1∧i.2.1≤1099511627776)∧v7 j.v.dim i.2.2=0∧∀o∈i.2.2,0≤o.1
 ch:∀c∈j.v.ch,0≤c.1
 pt:∀u∈j.parts,u.2.length≤4∧wL u.2=true
 dn:∀d∈j.done,(0≤d.1∧d.1≤18446744073709551615)∧0<d.2∧d.2≤1099511627776
 pk:∀t,(qJ j.parts t).isSome=(qJ j.v.its t).isSome
theorem JPX.zero (dim:Int):JPX ⟨⟨dim,[],[],0⟩,[],[]⟩:=⟨⟨λ_ h=>(by cases h),λ_ h=>(by cases h),(show (0:Int)≤_ by decide)⟩,λ_ h=>(by cases h),λ_ h=>(by cases h),λ_ h=>(by cases h),λ_ h=>(by cases h),λ_=>rfl⟩
theorem sM {dim:Int}{ops:VL}(h:v7 dim ops=0):0<ops.length∧ops.length≤16∧(ops.map (·.1)).Nodup∧∀o∈ops,o.1≤1099511627776∧(0<o.2.length→wK o.2=true∧(o.2.length:Int)=dim):=by
 unfold v7 at h
 by_cases g1:dim<1∨8<dim
 ·rw[jb g1] at h;cases h
 rw[ja g1] at h
 by_cases g2:ops.length=0
 ·rw[jb g2] at h;cases h
 rw[ja g2] at h
 by_cases g3:16<ops.length
 ·rw[jb g3] at h;cases h
 rw[ja g3] at h
 by_cases g4:ops.any (Kg dim)=true
 ·rw[jb g4] at h;cases h
 rw[ja g4] at h
 by_cases g5:(ops.map (·.1)).Nodup
 ·refine ⟨by omega,by omega,g5,λo ho=> ?_⟩
  have g6:=List.any_eq_false.1 (by simpa using g4) o ho;unfold Kg at g6;simp only[kU,jF,jS,kL,not_or,not_and] at g6;refine ⟨by omega,λhl=> ?_⟩;have g7:=g6.2 hl;exact ⟨by simpa using g7.1,by have:=g7.2;omega⟩
 ·rw[ja g5] at h;cases h
theorem GS.lock {st:VS}(h:GS st){t a:Int}{ops:VL}(hE:Kn st t a ops=0):GS (zz st t a ops):=by
 rw[jBn hE];refine ⟨h.c,λi hi=> ?_,h.m⟩
 rcases jy.1 hi with hi|hi
 ·exact h.i i hi
 ·rw[ji.1 hi]
  exact (sM (l9 hE)).2.2.2
attribute [local irreducible] swp qq qM qL vX qh St qi qk vu qG
theorem mP (n:Int)(L:HL)(h:JE n):
  qh kY 174 [yT n] L (λr L'=>∃a c,r=.slice a (numI (QT n)).length c∧L'=slB a c (numI (QT n))::L):=by
 obtain ⟨h1,h2⟩:=h;rw[bz zo zo];refine qg Tryz.func174 rfl rfl rfl ?_;refine Q.r ?_;refine S.y (Y.cvi rfl) ?_;rw[vl zo zo]
 by_cases hn:n<0
 ·rw[jb hn]
  refine Q.r ?_;refine S.y (Y.mul rfl rfl) ?_;rw[vl zo zo];refine Q.r ?_;refine S.y (Y.cvi rfl) ?_;rw[wrap_u64 zo zo];refine S.cr rfl (zP (-2*n - 1) _ zo zo) ?_;rintro _ _ ⟨a,c,rfl,rfl⟩;refine Q.r ?_;exact N.t rfl (kZ _) ⟨a,c,rfl,rfl⟩
 ·rw[ja hn]
  refine Q.r ?_;refine S.y (Y.mul rfl rfl) ?_;rw[vl zo zo];refine Q.r ?_;refine S.y (Y.cvi rfl) ?_;rw[wrap_u64 zo zo];refine S.cr rfl (zP (2*n) _ zo zo) ?_;rintro _ _ ⟨a,c,rfl,rfl⟩;refine Q.r ?_;exact N.t rfl (kZ _) ⟨a,c,rfl,rfl⟩
theorem jAh {n:Int}(h:JE n):(numI (QT n)).length≤10:=by
 obtain ⟨h1,h2⟩:=h;refine qp ?_;rw[bz zo zo]
 split<;>omega
theorem Wm (a:OA)(c:Nat)(v:List Int)(M:OM)(L:HL)[hM:wY M L](hs:qH M a v.length 1 (v.map yT))(hv:v.length≤8)(hi:∀n∈v,JE n):
  qh kY 104 [.slice a v.length c] L (λr L'=>∃a' c',r=.slice a' (vW v).length c'∧L'=slB a' c' (vW v)::L):=by
 have n0:=qp (z:=(v.length:Int)) zo;unfold vW;refine qg Tryz.func104 rfl rfl rfl ?_;refine Q.r ?_;refine S.y (Y.cvi rfl) ?_;rw[wrap_u64 zo zo];refine S.cr rfl (zP (v.length:Int) _ zo zo) ?_;rintro _ L2 ⟨a1,c1,rfl,eL⟩;rw[eL];clear eL L2;refine Q.r ?_;refine qx (σ:=OA×Nat) (λs=> [(3,.slice s.1 (numI (v.length:Int)++v.flatMap λn=>numI (QT n)).length s.2)]) (λs=>slB s.1 s.2 (numI (v.length:Int)++v.flatMap λn=>numI (QT n))::L) (λ_=>True) ?_ ?_
 ·refine ql (σ:=Nat×OA×Nat) (λs=> [(10,.slice a v.length c),(11,.int .i64 v.length),(3,.slice s.2.1 (numI (v.length:Int)++(v.take s.1).flatMap λn=>numI (QT n)).length s.2.2),(12,.int .i64 s.1)])
   (λs=>slB s.2.1 s.2.2 (numI (v.length:Int)++(v.take s.1).flatMap λn=>numI (QT n))::L) (λs=>s.1≤v.length) (λs=>v.length - s.1) (0,a1,c1) ⟨rfl,rfl,by simp only[kB,j3,jG];rfl,rfl,trivial⟩ (by simp only[kB,j3,jG];exact eG) (jw _) ?_
  rintro ⟨k,a2,c2⟩ hk;dsimp only at hk ⊢
  by_cases hlt:k<v.length
  ·obtain ⟨q,hq⟩:=qw hlt
   have hqi:=hi q (jn hq);obtain ⟨b,o,hia,cr⟩:=qH.cm1 (g:=yT) hs hq rfl;have hXl:((v.take k).flatMap λn=>numI (QT n)).length≤v.length*10:=yG k λn hn=>jAh (hi n hn)
   have hnx:numI (v.length:Int)++(v.take (k+1)).flatMap (λn=>numI (QT n))=numI (v.length:Int)++(v.take k).flatMap (λn=>numI (QT n))++numI (QT q):=by rw[QN hq,ju]
   have hl:(numI (v.length:Int)++(v.take k).flatMap λn=>numI (QT n)).length≤1000:=by rw[jc];omega
   generalize numI (v.length:Int)++(v.take k).flatMap (λn=>numI (QT n))=X at hnx hl ⊢;have hz:=jAh hqi;rw[hia];refine Q.r ?_;refine S.cr rfl (mP q _ hqi) ?_;rintro _ _ ⟨y1,cy1,rfl,rfl⟩;refine Q.r ?_;refine qX y1 (λha=> ?_);refine S.appB (a:=a2) (X:=X) (Y:=numI (QT q)) rfl rfl (qW.own ha (by rw[jf,jX])) zo (λy2 cy2=> ?_);rw[←hnx];refine Q.r ?_;exact ⟨(k+1,y2,cy2),⟨by rw[←hia];rfl,rfl,rfl,rfl,trivial⟩,by exact eG,hlt,jr v.length k hlt⟩
  ·have hke:k=v.length:=by omega
   subst hke;rw[jI];refine Q.r ?_;exact ⟨(a2,c2),zt,by exact eG,trivial⟩
 rintro ⟨a2,c2⟩ _;dsimp only;refine Q.r ?_;exact N.t rfl eG ⟨a2,c2,rfl,rfl⟩
theorem jCh (b i:Nat):(b / 2^i)&&&1=(b>>>i)&&&1:=by rw[Nat.shiftRight_eq_div_pow]
theorem pN (b:Nat){c:Nat}(hc:c<4294967296):∀i,Xd b i c<4294967296
 |0=>hc
 |i+1=>by
  have h:=pN b hc i;have h2:Xd b i c>>>1<4294967296:=by rw[Nat.shiftRight_eq_div_pow];omega
  show db b (Xd b i c) i<_
  unfold db
  split
  ·exact VY h2 zd
  ·exact h2
theorem Z6 (u:YB)(L:HL)(h:n4 L u)(hl:u.bs.length≤1000000000):
  qh kY 110 [u.val] L (λr L'=>r=.int .u32 (JM u.bs)∧L'=L):=by
 refine qg Tryz.func110 rfl rfl rfl ?_;have hv0:=h;unfold n4 at hv0;rw[←cM] at hv0;refine Q.r ?_;refine qx (σ:=Unit) (λ_=> [(3,.int .u32 (yk 4294967295 u.bs))]) (λ_=>L) (λ_=>True) ?_ ?_
 ·refine ql (σ:=Nat) (λj=> [(8,u.val),(9,.int .i64 u.bs.length),(3,.int .u32 (yk 4294967295 (u.bs.take j))),(10,.int .i64 j)]) (λ_=>L)
   (λj=>j≤u.bs.length) (λj=>u.bs.length - j) 0 zt (kZ _) (jw _) ?_
  intro j hj;have hc0:yk 4294967295 (u.bs.take j)<4294967296:=Ke _ zd
  by_cases hjl:j<u.bs.length
  ·obtain ⟨x,hxj⟩:=qw hjl
   obtain ⟨b2,o2,hab2,hr2⟩:=qW.elem (g:=bC) (λ_=>rfl) hv0 hxj rfl;have hsn:yk 4294967295 (u.bs.take (j+1))=f9 (yk 4294967295 (u.bs.take j)) x:=by rw[qz hxj,Yo];rfl
   generalize yk 4294967295 (u.bs.take j)=cc at hc0 hsn;have hx8:=x.toNat_lt;unfold YB.val;rw[hab2];refine Q.r ?_;refine ql (σ:=Nat) (λi=> [(5,B x),(8,.slice (some ⟨b2,o2,none⟩) u.bs.length u.c),(9,.int .i64 u.bs.length),(10,.int .i64 j),(3,.int .u32 (Xd x.toNat i cc)),(14,.int .i64 i)]) (λ_=>L)
    (λi=>i≤8) (λi=>8 - i) 0 zt (kZ _) (jw _) ?_
   intro i hi;have hb:=pN x.toNat hc0 i
   by_cases hi8:i<8
   ·have hi8':(i:Int)<8:=by omega
    have hbn:Xd x.toNat (i+1) cc=db x.toNat (Xd x.toNat i cc) i:=rfl;generalize Xd x.toNat i cc=y at hb hbn;have l1:x.toNat / 2^i<4294967296:=Nat.lt_of_le_of_lt (Nat.div_le_self _ _) zo;have l2:y / 2^1<4294967296:=by omega
    unfold B;refine Q.r ?_;refine S.y (Y.shr rfl rfl (by show i≤8;omega)) ?_;refine S.y (Y.cv32 rfl l1) ?_;refine S.y (Y.and32 (b:=1) rfl rfl l1 zd) ?_;rw[jCh]
    by_cases he:y&&&1=(x.toNat>>>i)&&&1
    ·have hne:((y&&&1:Nat):Int)=(((x.toNat>>>i)&&&1:Nat):Int):=by rw[he]
     rw[←he];refine Q.r ?_;refine S.y (Y.and32 (b:=1) rfl rfl hb zd) ?_;refine Q.r ?_;refine S.y (Y.shr (b:=1) rfl rfl zd) ?_;refine Q.r ?_;exact ⟨i+1,⟨rfl,rfl,rfl,rfl,by rw[hbn];unfold db;rw[ja (λh=>h he),Nat.shiftRight_eq_div_pow];rfl,rfl,trivial⟩,kZ _,hi8,by omega⟩
    ·have hne:¬((y&&&1:Nat):Int)=(((x.toNat>>>i)&&&1:Nat):Int):=by omega
     refine Q.r ?_;refine S.y (Y.and32 (b:=1) rfl rfl hb zd) ?_;refine Q.r ?_;refine S.y (Y.shr (b:=1) rfl rfl zd) ?_;refine S.y (Y.xor32 (b:=3988292384) rfl rfl l2 zd) ?_;refine Q.r ?_;exact ⟨i+1,⟨rfl,rfl,rfl,rfl,by rw[hbn];unfold db;rw[jb he,Nat.shiftRight_eq_div_pow];rfl,rfl,trivial⟩,kZ _,hi8,by omega⟩
   ·have hie:i=8:=by omega
    subst hie;rw[jHE];refine Q.r ?_;exact ⟨j+1,⟨by rw[←hab2];rfl,rfl,by rw[hsn];rfl,rfl,trivial⟩,kZ _,hjl,by omega⟩
  ·have hje:j=u.bs.length:=by omega
   subst hje;refine Q.r ?_;exact ⟨(),⟨by rw[jI];rfl,trivial⟩,kZ _,trivial⟩
 ·intro _ _
  have hc0:yk 4294967295 u.bs<4294967296:=Ke _ zd;refine Q.r ?_;refine S.y (Y.xor32 rfl rfl hc0 zd) ?_;refine Q.r ?_;exact N.t rfl (kZ _) ⟨rfl,rfl⟩
theorem rY {bs:List UInt8}{i:Nat}{x:UInt8}(h:bs[i]? =some x):yb (bs.drop i)=yb (bs.drop (i+1))*256+x.toNat:=by
 obtain ⟨hl,hx⟩:=jm.1 h;rw[List.drop_eq_getElem_cons hl,hx];rfl
theorem fB {bs:List UInt8}(h:bs.length≤4):yb bs<4294967296:=Nat.lt_of_lt_of_le (cw bs) (Nat.pow_le_pow_right zd h)
theorem YE (u:YB)(L:HL)(h:n4 L u)(hl:u.bs.length≤4):
  qh kY 109 [u.val] L (λr L'=>r=.int .u64 (yb u.bs)∧L'=L):=by
 refine qg Tryz.func109 rfl rfl rfl ?_;have hv0:=h;unfold n4 at hv0;rw[←cM] at hv0;refine Q.r ?_;refine qx (σ:=Unit) (λ_=> [(3,.int .u64 (yb u.bs))]) (λ_=>L) (λ_=>True) ?_ ?_
 ·refine ql (σ:=Nat) (λj=> [(0,u.val),(3,.int .u64 (yb (u.bs.drop j))),(4,.int .i64 ((j:Int) - 1))]) (λ_=>L)
   (λj=>j≤u.bs.length) (λj=>j) u.bs.length ⟨rfl,by rw[kM];rfl,rfl,trivial⟩ (kZ _) (jz _) ?_
  intro j hj
  rcases j with _|i
  ·refine Q.r ?_
   exact ⟨(),zt,kZ _,trivial⟩
  ·rw[show ((i+1:Nat):Int) - 1=(i:Int) by omega]
   obtain ⟨x,hx⟩:=qw (show i<u.bs.length from hj);obtain ⟨b2,o2,hab2,hr2⟩:=qW.elem (g:=bC) (λ_=>rfl) hv0 hx rfl;have hn:=rY hx;have h4:yb (u.bs.drop i)<4294967296:=fB (by rw[jE];omega);have hx8:=x.toNat_lt;unfold YB.val;rw[hab2];refine Q.r ?_;refine S.y (Y.mul rfl rfl) ?_;rw[wrap_u64 zo zo];refine Q.r ?_;refine S.y (Y.cvi rfl) ?_;rw[wrap_u64 zo zo];refine S.y (Y.add rfl rfl) ?_;rw[wrap_u64 zo zo,show (yb (u.bs.drop (i+1)):Int)*256+(x.toNat:Int)=((yb (u.bs.drop i):Nat):Int) by omega];refine Q.r ?_;exact ⟨i,⟨by rw[←hab2];rfl,rfl,rfl,trivial⟩,kZ _,by omega,by omega⟩
 ·intro _ _
  refine Q.r ?_;exact N.t rfl (kZ _) ⟨rfl,rfl⟩
theorem gG (a:OA)(c:Nat)(bs:List UInt8)(L:HL)(h:qW L a bs.length 1 (bs.map B))(hc:bs.length≤c)(hn:bs.length≤100000000000):
  qh kY 111 [.slice a bs.length c] L (λv L'=>∃a' c',v=.slice a' bs.length c'∧L'=slO 5 1 a' bs.length c' (bs.map B)::L):=by
 refine qg Tryz.func111 rfl rfl rfl ?_
 repeat (first|(refine GQ.y ?_;refine Q.y ?_)|refine Q.go ?_|(refine GQ.g ?_;refine Q.gq ?_)|(refine GQ.s ?_;refine Q.st ?_))
 refine S.bs rfl rfl rfl rfl rfl (λb=> ?_);refine qm (ve (sz:=1) (m:=0) rfl) ?_
 repeat (first|(refine GQ.y ?_;refine Q.y ?_)|refine Q.go ?_|(refine GQ.g ?_;refine Q.gq ?_)|(refine GQ.s ?_;refine Q.st ?_))
 refine S.app0 rfl rfl rfl (vA.rd h.sub (zM _)) zr zo zo (λa' c'=> ?_)
 repeat (first|(refine GQ.y ?_;refine Q.y ?_)|refine Q.go ?_|(refine GQ.g ?_;refine Q.gq ?_)|(refine GQ.s ?_;refine Q.st ?_))
 refine N.t rfl ?_ ⟨a',c',rfl,rfl⟩;exact eG
def cpR (M:OM)(L0:HL)(bs:List UInt8)(r:Value)(L':HL):Prop:=∃v:YB,∃M',r=v.val∧v.bs=bs∧wc M' v∧v.bs.length≤v.c∧qU M M'∧L'=qo M'::L0
theorem WO (v:YB)(M:OM)(L L0:HL)[hP:xb L M L0](h:n4 L v)(hc:v.bs.length≤v.c)(hn:v.bs.length≤100000000000):
  qh kY 111 [v.val] L (cpR M L0 v.bs):=by
 refine (gG v.a v.c v.bs L h hc hn).post λr L' hr=> ?_
 obtain ⟨a',c',rfl,rfl⟩:=hr;refine xH.ent Xk (xH.pure λhcap=> ?_);exact xH.abs a' λM' hl hs=>xH.done ⟨⟨a',c',v.bs⟩,M',rfl,rfl,hs,hcap,hl,rfl⟩
theorem mV (a:OA)(c:Nat)(bs:List UInt8)(M:OM)(L0:HL)(h:qH M a bs.length 1 (bs.map B))(hc:bs.length≤c)(hb:bs.length≤1000000):
  qh kY 41 [.slice a bs.length c] (qo M::L0) (jC6 M L0 bs):=by
 refine qg Tryz.func41 rfl rfl rfl ?_
 by_cases h6:bs.length<6
 ·refine Q.r ?_
  have e:zZ bs=2:=by unfold zZ;rw[jb h6]
  exact N.r3 (RV.tmp rfl (RV.tmp rfl (RV.tmp rfl RV.nil))) (kZ _) ⟨⟨none,0,[]⟩,⟨none,0,[]⟩,M,by rw[e];rfl,by rw[e];rfl,by rw[e];rfl,qH.nil,qH.nil,jz _,jz _,qU.refl _,rfl⟩
 have hrd:qW (qo M::L0) a bs.length 1 (bs.map B):=qH.rd h;obtain ⟨b,o,rfl,hr⟩:=hrd.2.resolve_left zo;have hno:∀e:Int,e≠0→zZ bs=e→jC6 M L0 bs (.tuple #[.slice none 0 0,.slice none 0 0,.int .i64 e]) (qo M::L0):=λe he hq=>
  ⟨⟨none,0,[]⟩,⟨none,0,[]⟩,M,by rw[hq];rfl,by rw[hq,ja he],by rw[hq,ja he],qH.nil,qH.nil,jz _,jz _,qU.refl _,rfl⟩
 refine Q.r ?_;refine S.y (Y.slB (l:=4) (h:=6) rfl rfl rfl rfl zo zo zo) ?_;have h46:=wc.cut h hc 4 2 zo;have e46:6 - 4=((bs.drop 4).take 2).length:=by rw[jP,jE];omega
 rw[e46];refine S.cr rfl (YE ⟨some ⟨b,if c=4 then o else o+4*1,none⟩,c - 4,(bs.drop 4).take 2⟩ _ h46.rd (by show ((bs.drop 4).take 2).length≤4;omega)) ?_;rintro _ _ ⟨rfl,rfl⟩;have hnl:yb ((bs.drop 4).take 2)<65536:=by
  have:=cw ((bs.drop 4).take 2);rw[←e46] at this;exact this
 have hnn:yb ((bs.drop 4).take 2)=VW bs:=rfl;rw[hnn] at hnl ⊢;refine S.y (Y.cvi rfl) ?_;rw[bA zo];have hE:zZ bs=if 4096<VW bs then 3 else if bs.length - 6<VW bs then 2 else if JM ((bs.drop 4).take (2+VW bs))≠yb (bs.take 4) then 5 else 0:=by
  conv=>lhs;unfold zZ
  rw[ja h6]
 have hnB:VC bs=(bs.drop 6).take (VW bs):=rfl;have hnR:Y4 bs=bs.drop (6+VW bs):=rfl;generalize VW bs=nn at*
 by_cases h4:4096<nn
 ·rw[jb h4] at hE
  refine Q.r ?_;exact N.r3 (RV.tmp rfl (RV.tmp rfl (RV.tmp rfl RV.nil))) (kZ _) (hno 3 zd hE)
 rw[ja h4] at hE
 by_cases h5:bs.length - 6<nn
 ·rw[jb h5] at hE
  have h5':(bs.length:Int)<6+(nn:Int):=by omega
  refine Q.r ?_;exact N.r3 (RV.tmp rfl (RV.tmp rfl (RV.tmp rfl RV.nil))) (kZ _) (hno 2 zd hE)
 rw[ja h5] at hE;have h5':¬(bs.length:Int)<6+(nn:Int):=by omega
 refine Q.r ?_;have hb4:=wc.cut h hc 4 (2+nn) zo;have el:6+nn - 4=((bs.drop 4).take (2+nn)).length:=by rw[jP,jE];omega
 have hb0:wc M ⟨some ⟨b,o,none⟩,c,bs.take 4⟩:=by
  have:=qH.take h (k:=4) zo;unfold wc;dsimp only;rw[jP,Nat.min_eq_left zo,List.map_take];exact this
 have el0:(4:Nat)=(bs.take 4).length:=by rw[jP];omega
 refine Q.dgo [] [4,8] [] [0,1,2,3,6,7,4,5,8,9] ?_;refine Q.rd ?_;refine D.yp rfl rfl rfl (Y.slB (l:=4) (h:=6+nn) rfl rfl rfl rfl zo zo zo) ?_;rw[el];refine Q.rd ?_;refine D.yp rfl rfl rfl (Y.slT (h:=4) rfl rfl rfl zo) ?_;refine D.e rfl rfl rfl ?_;refine S.cr rfl (Z6 ⟨some ⟨b,if c=4 then o else o+4*1,none⟩,c - 4,(bs.drop 4).take (2+nn)⟩ _ hb4.rd (by show ((bs.drop 4).take (2+nn)).length≤_;omega)) ?_;rintro _ _ ⟨rfl,rfl⟩;dsimp only;have hs1:=Xy ((bs.drop 4).take (2+nn));have hs2:yb (bs.take 4)<4294967296:=fB (by rw[jP];omega);refine Q.r ?_;refine Q.rd ?_;refine D.yp rfl rfl rfl (Y.cvi rfl) ?_;rw[wrap_u64 zo zo];refine Q.rd ?_;refine D.e rfl rfl rfl ?_
 conv in (occs:=1) (Value.slice (some ⟨b,o,none⟩) 4 c)=>rw[el0]
 refine S.cr rfl (YE ⟨some ⟨b,o,none⟩,c,bs.take 4⟩ _ hb0.rd (by show (bs.take 4).length≤4;omega)) ?_;rintro _ _ ⟨rfl,rfl⟩;dsimp only;refine Q.r ?_
 by_cases h7:JM ((bs.drop 4).take (2+nn))≠yb (bs.take 4)
 ·rw[jb h7] at hE
  have h7':¬((JM ((bs.drop 4).take (2+nn)):Nat):Int)=(yb (bs.take 4):Nat):=by omega
  refine Q.rd ?_;refine Q.r ?_;exact N.r3 (RV.tmp rfl (RV.tmp rfl (RV.tmp rfl RV.nil))) (kZ _) (hno 5 zd hE)
 rw[ja h7] at hE;have h7':((JM ((bs.drop 4).take (2+nn)):Nat):Int)=(yb (bs.take 4):Nat):=by omega
 refine Q.rd ?_;refine Q.r ?_;refine Q.dgo [] [4,9] [] [0,1,2,3,5,6,7,8,4,9,10,11,12] ?_;refine Q.rd ?_;refine D.yp rfl rfl rfl (Y.slB (l:=6) (h:=6+nn) rfl rfl rfl rfl zo zo zo) ?_;have hb6:=wc.cut h hc 6 nn zo;have hbt:=wc.tail h hc (6+nn) zo;have el6:6+nn - 6=((bs.drop 6).take nn).length:=by rw[jP,jE];omega
 have elt:bs.length - (6+nn)=(bs.drop (6+nn)).length:=by rw[jE]
 rw[el6];refine Q.rd ?_;refine D.yp rfl rfl rfl (Y.slF (l:=6+nn) rfl rfl zo zo) ?_;rw[elt];refine Q.rd ?_;refine D.e rfl rfl rfl ?_;refine S.cr rfl (WO ⟨some ⟨b,if c=6 then o else o+6*1,none⟩,c - 6,(bs.drop 6).take nn⟩ M _ _ hb6.rd (by show ((bs.drop 6).take nn).length≤c - 6;omega) (by show ((bs.drop 6).take nn).length≤_;omega)) ?_;rintro _ _ ⟨v,M1,rfl,hv,hvo,hvc,hl1,rfl⟩;refine Q.r ?_;refine Q.rd ?_;refine D.e rfl rfl rfl ?_;refine S.cr rfl (WO ⟨some ⟨b,if c=6+nn then o else o+(6+nn)*1,none⟩,c - (6+nn),bs.drop (6+nn)⟩ M1 _ _ (hbt.mono hl1).rd (by show (bs.drop (6+nn)).length≤c - (6+nn);omega) (by show (bs.drop (6+nn)).length≤_;omega)) ?_;rintro _ _ ⟨w,M2,rfl,hw,hwo,hwc,hl2,rfl⟩;dsimp only at hv hw;refine Q.r ?_;refine Q.rd ?_;refine Q.r ?_;refine N.r3 (RV.tmp rfl (RV.tmp rfl (RV.tmp rfl RV.nil))) ?_ ⟨v,w,M2,by rw[hE],by rw[hE,jb rfl,hnB,hv],by rw[hE,jb rfl,hnR,hw],hvo.mono hl2,hwo,hvc,hwc,hl1.trans hl2,rfl⟩;exact eG
theorem ZH :∀(k n:Nat),yA (k+1) n=yA k n++[UInt8.ofNat (n / 256^k % 256)]
 |0,n=>by simp[yA]
 |k+1,n=>by
  have h:=ZH k (n / 256)
  show UInt8.ofNat (n % 256)::yA (k+1) (n / 256)=(UInt8.ofNat (n % 256)::yA k (n / 256))++_
  rw[h,Nat.div_div_eq_div_mul,Nat.pow_succ,Nat.mul_comm 256];rfl
theorem jD1 (bs:List UInt8)(b:UInt8):(bs++[b]).map B=bs.map B++[B b]:=by rw[jq];rfl
theorem Z7 (n k:Nat)(L:HL)(hn:n<18446744073709551616)(hk:k≤8):
  qh kY 175 [.int .u64 n,.int .i64 k] L (λr L'=>∃a c,r=.slice a k c∧L'=slO 5 1 a k c ((yA k n).map B)::L):=by
 refine qg Tryz.func175 rfl rfl rfl ?_;refine Q.r ?_;refine qx (σ:=OA×Nat) (λs=> [(5,.slice s.1 k s.2)]) (λs=>slO 5 1 s.1 k s.2 ((yA k n).map B)::L) (λ_=>True) ?_ ?_
 ·refine ql (σ:=Nat×OA×Nat) (λs=> [(6,.int .i64 k),(0,.int .u64 (n / 256^s.1:Nat)),(5,.slice s.2.1 s.1 s.2.2),(7,.int .i64 s.1)])
   (λs=>slO 5 1 s.2.1 s.1 s.2.2 ((yA s.1 n).map B)::L) (λs=>s.1≤k) (λs=>k - s.1) (0,none,0) ⟨rfl,jj some (jj (Value.int .u64) (by simp)),rfl,rfl,trivial⟩ vh (jw _) ?_
  rintro ⟨i,a,c⟩ hi;dsimp only at hi ⊢
  by_cases hlt:i<k
  ·have hm:n / 256^i<18446744073709551616:=Nat.lt_of_le_of_lt (Nat.div_le_self _ _) hn
   have hs:=ZH i n;have hd:n / 256^(i+1)=n / 256^i / 256:=by rw[Nat.div_div_eq_div_mul,Nat.pow_succ]
   generalize n / 256^i=m at hm hs hd;refine Q.r ?_;refine S.y (Y.rem rfl rfl zd) ?_;rw[show Int.tmod (m:Int) 256=((m % 256:Nat):Int) from rfl];refine S.y (Y.cv8 rfl) ?_;rw[Nat.mod_mod];refine Q.r ?_;(repeat (intro b1;refine Q.r ?_));refine S.app rfl rfl (vA.sl vg.row zr zr) zr zo zo (λa7 c7=> ?_);refine Q.r ?_;refine S.y (Y.quo rfl rfl zd) ?_;rw[show Int.tdiv (m:Int) 256=((m / 256:Nat):Int) from rfl,wrap_u64 zo zo];refine Q.r ?_;refine ⟨(i+1,a7,c7),⟨rfl,by rw[hd];rfl,rfl,rfl,trivial⟩,?_,by show i+1≤k;omega,by show k - (i+1)<k - i;omega⟩;dsimp only;rw[hs,jD1];exact eG
  ·have hie:i=k:=by omega
   subst hie;refine Q.r ?_;exact ⟨(a,c),zt,kZ _,trivial⟩
 ·rintro ⟨a,c⟩ _
  refine Q.r ?_;exact N.t rfl (kZ _) ⟨a,c,rfl,rfl⟩
theorem gE (v:YB)(M:OM)(L0:HL)(h:wc M v)(hl:v.bs.length≤4096):
  qh kY 105 [v.val] (qo M::L0) (λr L'=>∃u:YB,∃M',r=.tuple #[u.val,.int .i64 0]∧u.bs=frB v.bs∧wc M' u∧u.bs.length≤u.c∧qU M M'∧L'=qo M'::L0):=by
 refine qg Tryz.func105 rfl rfl rfl ?_;refine Q.r ?_;refine S.y (Y.cvi rfl) ?_;rw[wrap_u64 zo zo];refine S.cr rfl (Z7 v.bs.length 2 _ zo zd) ?_;rintro _ _ ⟨a,c,rfl,rfl⟩;refine Q.r ?_;refine S.app rfl rfl (vA.rd (wc.rd h) (zM _)) zr zo zo (λa2 c2=> ?_);refine Q.r ?_;have hb:((yA 2 v.bs.length).map B++v.bs.map B)=(Ku v.bs).map B:=by unfold Ku;rw[jq]
 have hbl:(Ku v.bs).length=2+v.bs.length:=by unfold Ku;rw[jc,yN]
 rw[hb];have hf:frB v.bs=yA 4 (JM (Ku v.bs))++Ku v.bs:=rfl;generalize Ku v.bs=bd at hb hbl hf ⊢;rw[←hbl];refine wA a2 (λM1 hl1 hs1 hc1=> ?_);refine S.cr rfl (Z6 ⟨a2,c2,bd⟩ _ (qH.rd hs1) (by dsimp only;omega)) ?_;rintro _ _ ⟨rfl,rfl⟩;dsimp only;have hcr:=Xy bd;refine S.y (Y.cvi rfl) ?_;rw[wrap_u64 zo zo];refine S.cr rfl (Z7 (JM bd) 4 _ zo zd) ?_;rintro _ _ ⟨a3,c3,rfl,rfl⟩;refine Q.r ?_;refine S.app rfl rfl (vA.rd (qH.rd hs1) (zM _)) zr zo zo (λa4 c4=> ?_);rw[←jq];have hfl:4+bd.length=(yA 4 (JM bd)++bd).length:=by rw[jc,yN]
 rw[←hf] at hfl ⊢;rw[hfl];refine wA a4 (λM2 hl2 hs2 hc2=> ?_);refine Q.r ?_;exact N.u rfl rfl (kZ _) ⟨⟨a4,c4,frB v.bs⟩,M2,rfl,rfl,hs2,hc2,hl1.trans hl2,rfl⟩
theorem wc.nil {M:OM}:wc M ⟨none,0,[]⟩:=qH.nil
abbrev nC (n:NV):Obj:=cl n.cells 43
theorem jDy {n:NA}(h:qu n=true)(u:xf n)(i:Nat):(xE n i).length≤4096:=ke (jAZ n i) (zG (xn h u) u)
theorem jCn {k i:Nat}{f:UInt8}(h:(wN k)[i]? =some f):f∈abc:=by
 have:=jn h;rw[VG] at this;exact (jB.1 this).1
set_option maxRecDepth 100000 in
theorem dv (n:NV)(M:OM)(L0:HL)(hn:xt M n)(hN:OkN n)(hu:xf n.abs):
  qh kY 39 [n.val] (qo M::L0) (jGj M L0 n.abs):=by
 refine qg Tryz.func39 rfl rfl rfl ?_;refine Q.r ?_;(repeat (intro b1;refine Q.r ?_));revert b1;intro bn;refine S.cr rfl (VU n _ hn.rd hN hu.a) ?_;rintro _ _ ⟨rfl,rfl⟩
 by_cases hR:qu n.abs=true
 case neg=>
  have hR':qu n.abs=false:=by simpa using hR
  rw[hR'];refine Q.r ?_;refine N.u rfl rfl (L':=qo M::L0) eG ⟨⟨none,0,[]⟩,M,by rw[hR'];rfl,by rw[hR'];rfl,qH.nil,jz _,qU.refl _,rfl⟩
 rw[hR];have hZ:=V2 hR hu;have hO:=xn hR hu;have hkR:=hO.k;have hkN:n.kind=((n.kind.toNat:Nat):Int):=by have h1:0≤n.kind:=hkR.1;omega
 have hP:=jDy hR hu;have hkk:n.abs.kind=n.kind:=rfl;have h0k:0≤n.kind:=hkR.1;have h1k:n.kind≤255:=hkR.2;refine Q.r ?_;refine S.y (Y.cvi rfl) ?_;rw[wrap_u64 zo zo];refine S.cr rfl (zP n.kind _ zo zo) ?_;rintro _ _ ⟨a1,c1,rfl,rfl⟩;refine Q.r ?_;refine S.cr (args:=[.int .u8 ((n.kind.toNat:Nat):Int)]) (by rw[←hkN];rfl) (Qs n.kind.toNat _ zo) ?_;rintro _ _ ⟨rfl,he⟩;rw[he];clear he;have hle:=cJ n.kind.toNat;have hps:∀i f,(wN n.kind.toNat)[i]? =some f→xE n.abs (i+1)=xE n.abs i++W7 n.abs f:=λi f h=>rL (n:=n.abs) h
 have hp0:xE n.abs 0=numI n.kind:=rK n.abs;have hpa:xE n.abs (wN n.kind.toNat).length=xF n.abs:=jA0 n.abs (jz _);have hab:∀i f,(wN n.kind.toNat)[i]? =some f→f∈abc:=λi f h=>jCn h
 generalize wN n.kind.toNat=lt at*;refine Q.r ?_;refine qx (σ:=OA×Nat) (λs=> [(4,.slice s.1 (xF n.abs).length s.2)]) (λs=>slB s.1 s.2 (xF n.abs)::qo M::L0) (λ_=>True) ?_ ?_
 ·refine ql (σ:=Nat×OA×Nat) (λs=> [(1,.pointer (some ⟨bn,0,none⟩)),(6,str lt),(4,.slice s.2.1 (xE n.abs s.1).length s.2.2),(7,.int .i64 s.1)])
   (λs=>slB s.2.1 s.2.2 (xE n.abs s.1)::pt bn (nC n)::qo M::L0) (λs=>s.1≤lt.length) (λs=>lt.length - s.1) (0,a1,c1) ⟨rfl,rfl,by rw[hp0];rfl,rfl,trivial⟩ (by rw[hp0];exact eG) (jw _) ?_
  rintro ⟨k,a2,c2⟩ hk;dsimp only at hk ⊢
  by_cases hlt:k<lt.length
  ·obtain ⟨f,hf⟩:=qw hlt
   have hnx:=hps k f hf;have hfa:=hab k f hf;have hPk:=hP k;have hPn:=hP (k+1);have hlt':(k:Int)<lt.length:=by omega
   generalize xE n.abs k=X at hnx hPk ⊢;refine Q.r ?_;refine S.y (Y.slen rfl) ?_;refine Q.r ?_;refine S.y (Y.idx rfl rfl (jFs hf)) ?_;unfold abc at hfa;simp only[j9,List.not_mem_nil,or_false] at hfa
   rcases hfa with rfl|rfl|rfl|rfl|rfl|rfl|rfl|rfl|rfl|rfl|rfl|rfl|rfl|rfl|rfl
   ·have h0:=hZ.txn
    have hnx:xE n.abs (k+1)=X++numI n.txn:=hnx;have h0a:0≤n.txn:=h0.1;have h0b:n.txn≤18446744073709551615:=by have:n.txn≤_:=h0.2;omega
    refine Q.r ?_;refine S.cr rfl (zP n.txn _ h0a h0b) ?_;rintro _ _ ⟨y1,cy1,rfl,rfl⟩;have m1:=qp (z:=n.txn) zo;refine Q.r ?_;refine qX y1 (λha=> ?_);refine S.appB (a:=a2) (X:=X) (Y:=numI n.txn) rfl rfl (qW.own ha (by rw[jf,jX])) zo (λy2 cy2=> ?_);rw[←hnx];refine Q.r ?_;exact ⟨(k+1,y2,cy2),zt,by exact eG,hlt,jr lt.length k hlt⟩
   ·have h0:=hZ.batch
    have hnx:xE n.abs (k+1)=X++numI n.batch:=hnx;have h0a:0≤n.batch:=h0.1;have h0b:n.batch≤18446744073709551615:=by have:n.batch≤_:=h0.2;omega
    refine Q.r ?_;refine S.cr rfl (zP n.batch _ h0a h0b) ?_;rintro _ _ ⟨y1,cy1,rfl,rfl⟩;have m1:=qp (z:=n.batch) zo;refine Q.r ?_;refine qX y1 (λha=> ?_);refine S.appB (a:=a2) (X:=X) (Y:=numI n.batch) rfl rfl (qW.own ha (by rw[jf,jX])) zo (λy2 cy2=> ?_);rw[←hnx];refine Q.r ?_;exact ⟨(k+1,y2,cy2),zt,by exact eG,hlt,jr lt.length k hlt⟩
   ·have h0:=hZ.stamp
    have hnx:xE n.abs (k+1)=X++numI n.stamp:=hnx;have h0a:0≤n.stamp:=h0.1;have h0b:n.stamp≤18446744073709551615:=by have:n.stamp≤_:=h0.2;omega
    refine Q.r ?_;refine S.cr rfl (zP n.stamp _ h0a h0b) ?_;rintro _ _ ⟨y1,cy1,rfl,rfl⟩;have m1:=qp (z:=n.stamp) zo;refine Q.r ?_;refine qX y1 (λha=> ?_);refine S.appB (a:=a2) (X:=X) (Y:=numI n.stamp) rfl rfl (qW.own ha (by rw[jf,jX])) zo (λy2 cy2=> ?_);rw[←hnx];refine Q.r ?_;exact ⟨(k+1,y2,cy2),zt,by exact eG,hlt,jr lt.length k hlt⟩
   ·have h0:=hZ.after
    have hnx:xE n.abs (k+1)=X++numI n.after:=hnx;have h0a:0≤n.after:=h0.1;have h0b:n.after≤18446744073709551615:=by have:n.after≤_:=h0.2;omega
    refine Q.r ?_;refine S.cr rfl (zP n.after _ h0a h0b) ?_;rintro _ _ ⟨y1,cy1,rfl,rfl⟩;have m1:=qp (z:=n.after) zo;refine Q.r ?_;refine qX y1 (λha=> ?_);refine S.appB (a:=a2) (X:=X) (Y:=numI n.after) rfl rfl (qW.own ha (by rw[jf,jX])) zo (λy2 cy2=> ?_);rw[←hnx];refine Q.r ?_;exact ⟨(k+1,y2,cy2),zt,by exact eG,hlt,jr lt.length k hlt⟩
   ·have h0:=hZ.mark
    have hnx:xE n.abs (k+1)=X++numI n.mark:=hnx;have h0a:0≤n.mark:=h0.1;have h0b:n.mark≤18446744073709551615:=by have:n.mark≤_:=h0.2;omega
    refine Q.r ?_;refine S.cr rfl (zP n.mark _ h0a h0b) ?_;rintro _ _ ⟨y1,cy1,rfl,rfl⟩;have m1:=qp (z:=n.mark) zo;refine Q.r ?_;refine qX y1 (λha=> ?_);refine S.appB (a:=a2) (X:=X) (Y:=numI n.mark) rfl rfl (qW.own ha (by rw[jf,jX])) zo (λy2 cy2=> ?_);rw[←hnx];refine Q.r ?_;exact ⟨(k+1,y2,cy2),zt,by exact eG,hlt,jr lt.length k hlt⟩
   ·have h0:=hZ.query
    have hnx:xE n.abs (k+1)=X++numI n.query:=hnx;have h0a:0≤n.query:=h0.1;have h0b:n.query≤18446744073709551615:=by have:n.query≤_:=h0.2;omega
    refine Q.r ?_;refine S.cr rfl (zP n.query _ h0a h0b) ?_;rintro _ _ ⟨y1,cy1,rfl,rfl⟩;have m1:=qp (z:=n.query) zo;refine Q.r ?_;refine qX y1 (λha=> ?_);refine S.appB (a:=a2) (X:=X) (Y:=numI n.query) rfl rfl (qW.own ha (by rw[jf,jX])) zo (λy2 cy2=> ?_);rw[←hnx];refine Q.r ?_;exact ⟨(k+1,y2,cy2),zt,by exact eG,hlt,jr lt.length k hlt⟩
   ·have h0:=hZ.id
    have hnx:xE n.abs (k+1)=X++numI n.id:=hnx;have h0a:0≤n.id:=h0.1;have h0b:n.id≤18446744073709551615:=by have:n.id≤_:=h0.2;omega
    refine Q.r ?_;refine S.cr rfl (zP n.id _ h0a h0b) ?_;rintro _ _ ⟨y1,cy1,rfl,rfl⟩;have m1:=qp (z:=n.id) zo;refine Q.r ?_;refine qX y1 (λha=> ?_);refine S.appB (a:=a2) (X:=X) (Y:=numI n.id) rfl rfl (qW.own ha (by rw[jf,jX])) zo (λy2 cy2=> ?_);rw[←hnx];refine Q.r ?_;exact ⟨(k+1,y2,cy2),zt,by exact eG,hlt,jr lt.length k hlt⟩
   ·have h0:=hZ.k
    have hnx:xE n.abs (k+1)=X++numI n.k:=hnx;have h0a:0≤n.k:=h0.1;have h0b:n.k≤18446744073709551615:=by have:n.k≤_:=h0.2;omega
    refine Q.r ?_;refine S.y (Y.cvi rfl) ?_;rw[wrap_u64 zo zo];refine S.cr rfl (zP n.k _ h0a h0b) ?_;rintro _ _ ⟨y1,cy1,rfl,rfl⟩;have m1:=qp (z:=n.k) zo;refine Q.r ?_;refine qX y1 (λha=> ?_);refine S.appB (a:=a2) (X:=X) (Y:=numI n.k) rfl rfl (qW.own ha (by rw[jf,jX])) zo (λy2 cy2=> ?_);rw[←hnx];refine Q.r ?_;exact ⟨(k+1,y2,cy2),zt,by exact eG,hlt,jr lt.length k hlt⟩
   ·have h0:=hZ.ef
    have hnx:xE n.abs (k+1)=X++numI n.ef:=hnx;have h0a:0≤n.ef:=h0.1;have h0b:n.ef≤18446744073709551615:=by have:n.ef≤_:=h0.2;omega
    refine Q.r ?_;refine S.y (Y.cvi rfl) ?_;rw[wrap_u64 zo zo];refine S.cr rfl (zP n.ef _ h0a h0b) ?_;rintro _ _ ⟨y1,cy1,rfl,rfl⟩;have m1:=qp (z:=n.ef) zo;refine Q.r ?_;refine qX y1 (λha=> ?_);refine S.appB (a:=a2) (X:=X) (Y:=numI n.ef) rfl rfl (qW.own ha (by rw[jf,jX])) zo (λy2 cy2=> ?_);rw[←hnx];refine Q.r ?_;exact ⟨(k+1,y2,cy2),zt,by exact eG,hlt,jr lt.length k hlt⟩
   ·have h0:=hZ.code
    have hnx:xE n.abs (k+1)=X++numI n.code:=hnx;have h0a:0≤n.code:=h0.1;have h0b:n.code≤18446744073709551615:=by have:n.code≤_:=h0.2;omega
    refine Q.r ?_;refine S.y (Y.cvi rfl) ?_;rw[wrap_u64 zo zo];refine S.cr rfl (zP n.code _ h0a h0b) ?_;rintro _ _ ⟨y1,cy1,rfl,rfl⟩;have m1:=qp (z:=n.code) zo;refine Q.r ?_;refine qX y1 (λha=> ?_);refine S.appB (a:=a2) (X:=X) (Y:=numI n.code) rfl rfl (qW.own ha (by rw[jf,jX])) zo (λy2 cy2=> ?_);rw[←hnx];refine Q.r ?_;exact ⟨(k+1,y2,cy2),zt,by exact eG,hlt,jr lt.length k hlt⟩
   ·have h0:=hZ.who
    have hnx:xE n.abs (k+1)=X++numI n.who:=hnx;have h0a:0≤n.who:=h0.1;have h0b:n.who≤18446744073709551615:=by have:n.who≤_:=h0.2;omega
    refine Q.r ?_;refine S.y (Y.cvi rfl) ?_;rw[wrap_u64 zo zo];refine S.cr rfl (zP n.who _ h0a h0b) ?_;rintro _ _ ⟨y1,cy1,rfl,rfl⟩;have m1:=qp (z:=n.who) zo;refine Q.r ?_;refine qX y1 (λha=> ?_);refine S.appB (a:=a2) (X:=X) (Y:=numI n.who) rfl rfl (qW.own ha (by rw[jf,jX])) zo (λy2 cy2=> ?_);rw[←hnx];refine Q.r ?_;exact ⟨(k+1,y2,cy2),zt,by exact eG,hlt,jr lt.length k hlt⟩
   ·have h0:=hZ.parts
    have hll:n.parts.length≤4:=h0.1;have hnx:xE n.abs (k+1)=X++(numI (n.parts.length:Int)++n.parts.flatMap numI):=hnx;have m0:=qp (z:=(n.parts.length:Int)) zo;refine Q.r ?_;refine S.y (Y.cvi rfl) ?_;rw[wrap_u64 zo zo];refine S.cr rfl (zP (n.parts.length:Int) _ zo zo) ?_;rintro _ _ ⟨y1,cy1,rfl,rfl⟩;refine Q.r ?_;refine qX y1 (λha=> ?_);refine S.appB (a:=a2) (X:=X) (Y:=numI (n.parts.length:Int)) rfl rfl (qW.own ha (by rw[jf,jX])) zo (λy2 cy2=> ?_);have q0:(X++numI (n.parts.length:Int)).length≤5000:=by rw[jc];omega
    rw[←ju] at hnx;generalize X++numI (n.parts.length:Int)=Z at q0 hnx ⊢;refine Q.r ?_;refine ql (σ:=Nat×OA×Nat) (λs=> [(1,.pointer (some ⟨bn,0,none⟩)),(6,str lt),(7,.int .i64 k),(155,.slice n.pa n.parts.length n.pc),(156,.int .i64 n.parts.length),(4,.slice s.2.1 (Z++(n.parts.take s.1).flatMap numI).length s.2.2),(157,.int .i64 s.1)])
     (λs=>slB s.2.1 s.2.2 (Z++(n.parts.take s.1).flatMap numI)::pt bn (nC n)::qo M::L0) (λs=>s.1≤n.parts.length) (λs=>n.parts.length - s.1) (0,y2,cy2) ⟨rfl,rfl,rfl,rfl,rfl,by simp only[kB,j3,jG];rfl,rfl,trivial⟩ (by simp only[kB,j3,jG];exact eG) (jw _) ?_
    rintro ⟨m,a8,c8⟩ hm;dsimp only at hm ⊢
    by_cases hmt:m<n.parts.length
    ·obtain ⟨q,hq⟩:=qw hmt
     have hqb:=h0.2 q (jn hq);obtain ⟨b,oo,hia,cr⟩:=qH.cm1 (g:=I64) hn.p hq rfl;have hZl:((n.parts.take m).flatMap numI).length≤n.parts.length*10:=yG m λz hz=>qp (by have:=(h0.2 z hz).2;omega)
     have hnx2:Z++(n.parts.take (m+1)).flatMap numI=Z++(n.parts.take m).flatMap numI++numI q:=by rw[QN hq,ju]
     have hl:(Z++(n.parts.take m).flatMap numI).length≤6000:=by rw[jc];omega
     generalize Z++(n.parts.take m).flatMap numI=W at hnx2 hl ⊢;have m2:=qp (z:=q) zo;rw[hia];refine Q.r ?_;refine S.y (Y.cvi rfl) ?_;rw[wrap_u64 zo zo];refine S.cr rfl (zP q _ zo zo) ?_;rintro _ _ ⟨y3,cy3,rfl,rfl⟩;refine Q.r ?_;refine qX y3 (λha=> ?_);refine S.appB (a:=a8) (X:=W) (Y:=numI q) rfl rfl (qW.own ha (by rw[jf,jX])) zo (λy4 cy4=> ?_);rw[←hnx2];refine Q.r ?_;exact ⟨(m+1,y4,cy4),⟨rfl,rfl,rfl,by rw[←hia];rfl,rfl,rfl,rfl,trivial⟩,by exact eG,hmt,jr n.parts.length m hmt⟩
    ·have hme:m=n.parts.length:=by omega
     subst hme;rw[jI,←hnx];refine Q.r ?_;exact ⟨(k+1,a8,c8),zt,by exact eG,hlt,jr lt.length k hlt⟩
   ·have h0:=hZ.ops
    have hll:n.ops.length≤16:=by have:(n.ops.map OV.abs).length≤16:=h0.1;rw[jf] at this;exact this
    have hnx:xE n.abs (k+1)=X++(numI ((n.ops.map OV.abs).length:Int)++(n.ops.map OV.abs).flatMap xj):=hnx;rw[jf,List.flatMap_map] at hnx;have m0:=qp (z:=(n.ops.length:Int)) zo;refine Q.r ?_;refine S.y (Y.cvi rfl) ?_;rw[wrap_u64 zo zo];refine S.cr rfl (zP (n.ops.length:Int) _ zo zo) ?_;rintro _ _ ⟨y1,cy1,rfl,rfl⟩;refine Q.r ?_;refine qX y1 (λha=> ?_);refine S.appB (a:=a2) (X:=X) (Y:=numI (n.ops.length:Int)) rfl rfl (qW.own ha (by rw[jf,jX])) zo (λy2 cy2=> ?_);have q0:(X++numI (n.ops.length:Int)).length≤5000:=by rw[jc];omega
    rw[←ju] at hnx;generalize X++numI (n.ops.length:Int)=Z at q0 hnx ⊢;refine Q.r ?_;refine ql (σ:=Nat×OA×Nat) (λs=> [(1,.pointer (some ⟨bn,0,none⟩)),(6,str lt),(7,.int .i64 k),(177,.slice n.oa n.ops.length n.oc),(178,.int .i64 n.ops.length),(4,.slice s.2.1 (Z++(n.ops.take s.1).flatMap λv=>xj v.abs).length s.2.2),(179,.int .i64 s.1)])
     (λs=>slB s.2.1 s.2.2 (Z++(n.ops.take s.1).flatMap λv=>xj v.abs)::pt bn (nC n)::qo M::L0) (λs=>s.1≤n.ops.length) (λs=>n.ops.length - s.1) (0,y2,cy2) ⟨rfl,rfl,rfl,rfl,rfl,by simp only[kB,j3,jG];rfl,rfl,trivial⟩ (by simp only[kB,j3,jG];exact eG) (jw _) ?_
    rintro ⟨m,a8,c8⟩ hm;dsimp only at hm ⊢
    by_cases hmt:m<n.ops.length
    ·obtain ⟨u,hq⟩:=qw hmt
     have hum:=jn hq;have hqb:X0 u.abs:=h0.2 u.abs (jA hum);obtain ⟨b6,o6,hia6,cr6⟩:=qH.cm (g:=OV.cells) (λ_=>rfl) hn.o.1 hq rfl;have hZl:((n.ops.take m).flatMap λv=>xj v.abs).length≤n.ops.length*100:=yG m λz hz=>by
      have h1:X0 z.abs:=h0.2 z.abs (jA hz);have h2:=qp (z:=z.id) (by have:z.id≤(1099511627776:Nat):=h1.1.2;omega);have h3:=wV h1.2
      show (numI z.id++vW z.vec).length≤100
      rw[jc];have h3:(vW z.vec).length≤90:=h3;omega
     have hnx2:Z++((n.ops.take (m+1)).flatMap λv=>xj v.abs)=(Z++(n.ops.take m).flatMap λv=>xj v.abs)++numI u.id++vW u.vec:=by
      rw[QN hq];simp only[ju]
     have hl:(Z++(n.ops.take m).flatMap λv=>xj v.abs).length≤7000:=by rw[jc];omega
     generalize (Z++(n.ops.take m).flatMap λv=>xj v.abs)=W at hnx2 hl ⊢;have hu0:0≤u.id:=hqb.1.1;have hu1:u.id≤18446744073709551615:=by have:u.id≤(1099511627776:Nat):=hqb.1.2;omega
     have hw8:u.vec.length≤8:=hqb.2.1;have hwv:(vW u.vec).length≤90:=wV hqb.2;rw[hia6];refine Q.r ?_;(repeat (intro b1;refine Q.r ?_));revert b1;intro b7;refine vf (L':=pt b7 (cl [.int .u64 u.id,.slice u.a u.vec.length u.c] 38)::slB a8 c8 W::pt bn (nC n)::qo M::L0) eG ?_;refine Q.dgo [true] [3,4,7,8] [] [0,1,2,5,6,3,4,7,8,9] ?_;refine Q.rd ?_;refine D.e rfl rfl rfl ?_;refine S.cr rfl (zP u.id _ zo zo) ?_;rintro _ _ ⟨y4,cy4,rfl,rfl⟩;have m4:=qp (z:=u.id) zo;refine Q.r ?_;refine Q.rd ?_;refine D.e rfl rfl rfl ?_;refine qX y4 (λha4=> ?_);refine S.appB (a:=a8) (X:=W) (Y:=numI u.id) rfl rfl (qW.own ha4 (by rw[jf,jX])) zo (λw5 cw5=> ?_);refine Q.r ?_;refine Q.rd ?_;have q4:(W++numI u.id).length≤8000:=by rw[jc];omega
     refine D.e rfl rfl rfl ?_;refine S.cr rfl (Wm u.a u.c u.vec M _ (hn.o.2 u hum) hw8 hqb.2.2) ?_;rintro _ _ ⟨y5,cy5,rfl,rfl⟩;refine Q.r ?_;refine Q.rd ?_;refine D.e rfl rfl rfl ?_;refine qX y5 (λha5=> ?_);refine S.appB (a:=w5) (X:=(W++numI u.id)) (Y:=vW u.vec) rfl rfl (qW.own ha5 (by rw[jf,jX])) zo (λw6 cw6=> ?_);refine Q.r ?_;refine Q.rd ?_;rw[←hnx2];refine Q.r ?_;refine ⟨(m+1,w6,cw6),⟨rfl,rfl,rfl,by rw[←hia6];rfl,rfl,rfl,rfl,trivial⟩,by exact eG,hmt,jr n.ops.length m hmt⟩
    ·have hme:m=n.ops.length:=by omega
     subst hme;rw[jI,←hnx];refine Q.r ?_;exact ⟨(k+1,a8,c8),zt,by exact eG,hlt,jr lt.length k hlt⟩
   ·have h0:=hZ.vec
    have hv8:n.vec.length≤8:=h0.1;have hnx:xE n.abs (k+1)=X++vW n.vec:=hnx;have m0:(vW n.vec).length≤90:=wV h0;refine Q.r ?_;refine S.cr rfl (Wm n.va n.vc n.vec M _ hn.v hv8 h0.2) ?_;rintro _ _ ⟨y1,cy1,rfl,rfl⟩;refine Q.r ?_;refine qX y1 (λha=> ?_);refine S.appB (a:=a2) (X:=X) (Y:=vW n.vec) rfl rfl (qW.own ha (by rw[jf,jX])) zo (λy2 cy2=> ?_);rw[←hnx];refine Q.r ?_;exact ⟨(k+1,y2,cy2),zt,by exact eG,hlt,jr lt.length k hlt⟩
   ·have h0:=hZ.hits
    have hll:n.hits.length≤16:=by have:(n.hits.map HV.abs).length≤16:=h0.1;rw[jf] at this;exact this
    have hnx:xE n.abs (k+1)=X++(numI ((n.hits.map HV.abs).length:Int)++(n.hits.map HV.abs).flatMap xq):=hnx;rw[jf,List.flatMap_map] at hnx;have m0:=qp (z:=(n.hits.length:Int)) zo;refine Q.r ?_;refine S.y (Y.cvi rfl) ?_;rw[wrap_u64 zo zo];refine S.cr rfl (zP (n.hits.length:Int) _ zo zo) ?_;rintro _ _ ⟨y1,cy1,rfl,rfl⟩;refine Q.r ?_;refine qX y1 (λha=> ?_);refine S.appB (a:=a2) (X:=X) (Y:=numI (n.hits.length:Int)) rfl rfl (qW.own ha (by rw[jf,jX])) zo (λy2 cy2=> ?_);have q0:(X++numI (n.hits.length:Int)).length≤5000:=by rw[jc];omega
    rw[←ju] at hnx;generalize X++numI (n.hits.length:Int)=Z at q0 hnx ⊢;refine Q.r ?_;refine ql (σ:=Nat×OA×Nat) (λs=> [(1,.pointer (some ⟨bn,0,none⟩)),(6,str lt),(7,.int .i64 k),(44,.slice n.ha n.hits.length n.hc),(45,.int .i64 n.hits.length),(4,.slice s.2.1 (Z++(n.hits.take s.1).flatMap λv=>xq v.abs).length s.2.2),(46,.int .i64 s.1)])
     (λs=>slB s.2.1 s.2.2 (Z++(n.hits.take s.1).flatMap λv=>xq v.abs)::pt bn (nC n)::qo M::L0) (λs=>s.1≤n.hits.length) (λs=>n.hits.length - s.1) (0,y2,cy2) ⟨rfl,rfl,rfl,rfl,rfl,by simp only[kB,j3,jG];rfl,rfl,trivial⟩ (by simp only[kB,j3,jG];exact eG) (jw _) ?_
    rintro ⟨m,a8,c8⟩ hm;dsimp only at hm ⊢
    by_cases hmt:m<n.hits.length
    ·obtain ⟨u,hq⟩:=qw hmt
     have hum:=jn hq;have hqb:KR u.abs:=h0.2 u.abs (jA (f:=HV.abs) hum);obtain ⟨b6,o6,hia6,cr6⟩:=qH.cm (g:=HV.cells) (λ_=>rfl) hn.h hq rfl;have hZl:((n.hits.take m).flatMap λv=>xq v.abs).length≤n.hits.length*110:=yG m λz hz=>by
      have h1:KR z.abs:=h0.2 z.abs (jA (f:=HV.abs) hz);have h2:=qp (z:=z.id) (by have:z.id≤(1099511627776:Nat):=h1.1.2;omega);have h4:=qp (z:=z.dist) (by have:z.dist≤(18446744073709551615:Nat):=h1.2.1.2;omega);have h3:(vW z.vec).length≤90:=wV h1.2.2
      show (numI z.id++(numI z.dist++vW z.vec)).length≤110
      rw[jc,jc];omega
     have hnx2:Z++((n.hits.take (m+1)).flatMap λv=>xq v.abs)=(Z++(n.hits.take m).flatMap λv=>xq v.abs)++numI u.id++numI u.dist++vW u.vec:=by
      rw[QN hq];simp only[ju]
     have hl:(Z++(n.hits.take m).flatMap λv=>xq v.abs).length≤7000:=by rw[jc];omega
     generalize (Z++(n.hits.take m).flatMap λv=>xq v.abs)=W at hnx2 hl ⊢;have hu0:0≤u.id:=hqb.1.1;have hu1:u.id≤18446744073709551615:=by have:u.id≤(1099511627776:Nat):=hqb.1.2;omega
     have hd0:0≤u.dist:=hqb.2.1.1;have hd1:u.dist≤18446744073709551615:=by have:u.dist≤(18446744073709551615:Nat):=hqb.2.1.2;omega
     have hw8:u.vec.length≤8:=hqb.2.2.1;have hwv:(vW u.vec).length≤90:=wV hqb.2.2;rw[hia6];refine Q.r ?_;(repeat (intro b1;refine Q.r ?_));revert b1;intro b7;refine vf (L':=pt b7 (cl [.int .u64 u.id,.int .u64 u.dist,.slice u.a u.vec.length u.c] 113)::slB a8 c8 W::pt bn (nC n)::qo M::L0) eG ?_;refine Q.dgo [true] [3,4,7,8,11,12] [] [0,1,2,5,6,9,10,3,4,7,8,11,12,13] ?_;refine Q.rd ?_;refine D.e rfl rfl rfl ?_;refine S.cr rfl (zP u.id _ zo zo) ?_;rintro _ _ ⟨y4,cy4,rfl,rfl⟩;have m4:=qp (z:=u.id) zo;refine Q.r ?_;refine Q.rd ?_;refine D.e rfl rfl rfl ?_;refine qX y4 (λha4=> ?_);refine S.appB (a:=a8) (X:=W) (Y:=numI u.id) rfl rfl (qW.own ha4 (by rw[jf,jX])) zo (λw5 cw5=> ?_);refine Q.r ?_;refine Q.rd ?_;have q4:(W++numI u.id).length≤8000:=by rw[jc];omega
     refine D.e rfl rfl rfl ?_;refine S.cr rfl (zP u.dist _ zo zo) ?_;rintro _ _ ⟨y6,cy6,rfl,rfl⟩;have m6:=qp (z:=u.dist) zo;refine Q.r ?_;refine Q.rd ?_;refine D.e rfl rfl rfl ?_;refine qX y6 (λha6=> ?_);refine S.appB (a:=w5) (X:=(W++numI u.id)) (Y:=numI u.dist) rfl rfl (qW.own ha6 (by rw[jf,jX])) zo (λw7 cw7=> ?_);refine Q.r ?_;refine Q.rd ?_;have q6:(W++numI u.id++numI u.dist).length≤9000:=by rw[jc];omega
     refine D.e rfl rfl rfl ?_;refine S.cr rfl (Wm u.a u.c u.vec M _ (hn.hv u hum) hw8 hqb.2.2.2) ?_;rintro _ _ ⟨y5,cy5,rfl,rfl⟩;refine Q.r ?_;refine Q.rd ?_;refine D.e rfl rfl rfl ?_;refine qX y5 (λha5=> ?_);refine S.appB (a:=w7) (X:=(W++numI u.id++numI u.dist)) (Y:=vW u.vec) rfl rfl (qW.own ha5 (by rw[jf,jX])) zo (λw6 cw6=> ?_);refine Q.r ?_;refine Q.rd ?_;rw[←hnx2];refine Q.r ?_;refine ⟨(m+1,w6,cw6),⟨rfl,rfl,rfl,by rw[←hia6];rfl,rfl,rfl,rfl,trivial⟩,by exact eG,hmt,jr n.hits.length m hmt⟩
    ·have hme:m=n.hits.length:=by omega
     subst hme;rw[jI,←hnx];refine Q.r ?_;exact ⟨(k+1,a8,c8),zt,by exact eG,hlt,jr lt.length k hlt⟩
  ·have hke:k=lt.length:=by omega
   subst hke;rw[hpa];refine Q.r ?_;refine S.y (Y.slen rfl) ?_;refine Q.r ?_;exact ⟨(a2,c2),zt,by exact eG,trivial⟩
 rintro ⟨a2,c2⟩ _;dsimp only;refine Q.r ?_;refine yJ a2 (λhc2=> ?_);refine qQ a2 (λM1 hl1 hs1=> ?_);have h4:=zG hO hu;refine S.cr rfl (gE ⟨a2,c2,xF n.abs⟩ M1 _ hs1 h4) ?_;rintro _ _ ⟨u,M2,rfl,hub,huo,huc,hl2,rfl⟩;refine Q.r ?_;refine N.u rfl rfl (L':=qo M2::L0) eG ⟨u,M2,by rw[hR];rfl,by rw[hR,jb rfl];exact hub,huo,huc,hl1.trans hl2,rfl⟩
abbrev zrP (r:Nat)(a:OA)(m c:Nat)(ok:Bool):HP:=pt r (cl [.slice a m c,.bool ok] 106)
abbrev JW (r:Nat)(a:OA)(c:Nat)(s:RZ):HP:=zrP r a s.bs.length c s.ok
structure ZK (M:OM)(a:OA)(c:Nat)(s:RZ):Prop where
 sl:qH M a s.bs.length 1 (s.bs.map B)
 c:s.bs.length≤c
 b:s.bs.length≤10000000
theorem ZK.mono {M M':OM}{a:OA}{c:Nat}{s:RZ}(h:ZK M a c s)(hl:qU M M'):ZK M' a c s:=⟨h.sl.mono hl,h.c,h.b⟩
theorem J3 (s:RZ):0≤(xD s).1∧(xD s).1≤18446744073709551615:=by
 unfold xD
 split
 ·next h=>
  have:=(yt h.1).2;dsimp only;omega
 ·dsimp only;omega
theorem J5 (m:Nat)(s:RZ):0≤(zj m s).1∧(zj m s).1≤m:=by
 have:=J3 s;unfold zj
 split
 ·dsimp only;omega
 ·omega
theorem lw (s:RZ):(WU s).1.length≤8:=by
 unfold WU
 split
 ·next h=>
  unfold Kw at h ⊢
  split
  ·exact jw _
  ·next h2=>
   have h8:=(yt (Decidable.not_not.1 h2)).2;have:=dR (qA s.bs 8).1 (s.bs.drop (qA s.bs 8).2.1) [];exact ke this (by rw[j7];omega)
 ·exact jw _
set_option maxRecDepth 100000 in
theorem wi (r:Nat)(a:OA)(c:Nat)(s:RZ)(M:OM)(L:HL)[hM:wY M L](h:ZK M a c s):
  qh kY 44 [.pointer (some ⟨r,0,none⟩)] (JW r a c s::L)
   (λv L'=>v=.int .u64 (xD s).1∧∃a' c',ZK M a' c' (xD s).2∧L'=JW r a' c' (xD s).2::L):=by
 have hT:=Vl a c s.bs 18446744073709551615 (JW r a c s::L) (h.sl.rd (hm:=wY.there)) (by have:=h.b;omega);have hsz:=xJ s.bs 18446744073709551615;unfold xD;generalize qA s.bs 18446744073709551615=q at*;obtain ⟨v,sz,e⟩:=q;obtain ⟨bs,ok⟩:=s;dsimp only at*;refine qg Tryz.func44 rfl rfl rfl ?_;refine Q.r ?_;refine S.cr rfl hT ?_;rintro _ _ ⟨rfl,rfl⟩;refine Q.r ?_;clear hT
 by_cases he:e=0
 ·cases ok with
  |true=>
   rw[jb ⟨he,rfl⟩];unfold QK;rw[ja (by show ¬e≠0;omega)];refine Q.r ?_;have hs:=h.sl.fromA (l:=sz) hsz h.c;rw[jX,←List.map_drop] at hs;refine N.t rfl (kZ _) ⟨rfl,Qw a c sz 1,c - sz,⟨?_,?_,?_⟩,?_⟩
   ·dsimp only
    rw[jE];exact hs
   ·dsimp only
    rw[jE];have:=h.c;dsimp only at this;omega
   ·dsimp only
    rw[jE];have:=h.b;dsimp only at this;omega
   ·show _=zrP r _ (List.drop sz bs).length _ true::L
    rw[jE]
  |false=>
   rw[ja (by simp)];refine Q.r ?_;exact N.t rfl (kZ _) ⟨rfl,a,c,⟨h.sl,h.c,h.b⟩,rfl⟩
 ·rw[ja (λhh=>he hh.1)]
  refine Q.r ?_;exact N.t rfl (kZ _) ⟨rfl,a,c,⟨h.sl,h.c,h.b⟩,rfl⟩
theorem wt (r:Nat)(a:OA)(c:Nat)(s:RZ)(m:Nat)(hm:m≤1000000)(M:OM)(L:HL)[hM:wY M L](h:ZK M a c s):
  qh kY 42 [.pointer (some ⟨r,0,none⟩),.int .u64 m] (JW r a c s::L)
   (λv L'=>v=.int .i64 (zj m s).1∧∃a' c',ZK M a' c' (zj m s).2∧L'=JW r a' c' (zj m s).2::L):=by
 have hin:=J3 s;refine qg Tryz.func42 rfl rfl rfl ?_;refine Q.r ?_;refine S.cr rfl (wi r a c s M _ h) ?_;rintro _ _ ⟨rfl,a1,c1,hk,rfl⟩;unfold zj
 by_cases hlt:(m:Int)<(xD s).1
 ·rw[jb hlt]
  generalize xD s=x at*;obtain ⟨v,z⟩:=x;dsimp only at*;refine Q.r ?_;exact N.t rfl (kZ _) ⟨rfl,a1,c1,⟨hk.sl,hk.c,hk.b⟩,rfl⟩
 ·rw[ja hlt]
  generalize xD s=x at*;obtain ⟨v,z⟩:=x;dsimp only at*;refine Q.r ?_;refine S.y (Y.cvi rfl) ?_;rw[vl (a:=v) zo zo];refine Q.r ?_;exact N.t rfl (kZ _) ⟨rfl,a1,c1,hk,rfl⟩
theorem Wl (r:Nat)(a:OA)(c:Nat)(s:RZ)(M:OM)(L:HL)[hM:wY M L](h:ZK M a c s):
  qh kY 45 [.pointer (some ⟨r,0,none⟩)] (JW r a c s::L)
   (λv L'=>∃va vc a' c',v=.slice va (WU s).1.length vc∧ZK M a' c' (WU s).2∧L'=slO 21 1 va (WU s).1.length vc ((WU s).1.map yT)::JW r a' c' (WU s).2::L):=by
 have hT:=dt a c s.bs M (JW r a c s::L) (hM:=wY.there) h.sl h.c h.b;have hsz:(Kw s.bs).2.1.length≤s.bs.length:=by
  unfold Kw
  split
  ·exact jw _
  ·refine ke (jAp _ _ _) ?_
   rw[jE];omega
 unfold WU;generalize Kw s.bs=q at*;obtain ⟨v,rs,e⟩:=q;obtain ⟨bs,ok⟩:=s;dsimp only at*;refine qg Tryz.func45 rfl rfl rfl ?_;refine Q.r ?_;refine S.cr rfl hT ?_;rintro _ _ ⟨va,vc,ra,rc,rfl,hrs,hrc,rfl⟩;refine Q.r ?_;clear hT
 by_cases he:e=0
 ·cases ok with
  |true=>
   rw[jb ⟨he,rfl⟩];refine Q.r ?_;exact N.t rfl (kZ _) ⟨va,vc,ra,rc,rfl,⟨hrs,hrc,by have:=h.b;dsimp only at this ⊢;omega⟩,rfl⟩
  |false=>
   rw[ja (by simp)];refine Q.r ?_;refine N.t rfl (L':=slO 21 1 none 0 0 []::JW r a c ⟨bs,false⟩::L) ?_ ⟨none,0,a,c,rfl,⟨h.sl,h.c,h.b⟩,rfl⟩;refine qi.trans (M:=JW r a c ⟨bs,false⟩::L) eG vh
 ·rw[ja (λhh=>he hh.1)]
  refine Q.r ?_;refine N.t rfl (L':=slO 21 1 none 0 0 []::JW r a c ⟨bs,false⟩::L) ?_ ⟨none,0,a,c,rfl,⟨h.sl,h.c,h.b⟩,rfl⟩;refine qi.trans (M:=JW r a c ⟨bs,false⟩::L) eG vh
theorem pg {α:Type}(d:RZ→α×RZ):∀(k:Nat) (s:RZ×List α),(fG d k s).2.length=s.2.length+k
 |0,s=>rfl
 |k+1,s=>by rw[KM,pg d k];simp;omega
structure QI (M0 M:OM)(lt:List UInt8)(k:Nat)(nv:NV)(ra:OA)(rc:Nat)(z:RZ)(R:NA×RZ):Prop where
 kl:k≤lt.length
 l:qU M0 M
 ok:xt M nv
 bd:OkN nv
 nu:yF nv.abs
 rd:ZK M ra rc z
 fin:(lt.drop k).foldl XL (nv.abs,z)=R
 ep:112∈lt.drop k→nv.pa=none∧nv.pc=0∧nv.parts=[]
 eo:111∈lt.drop k→nv.oa=none∧nv.oc=0∧nv.ops=[]
 eh:104∈lt.drop k→nv.ha=none∧nv.hc=0∧nv.hits=[]
theorem QI.step {M0 M M':OM}{lt:List UInt8}{k:Nat}{nv nv':NV}{ra ra':OA}{rc rc':Nat}{z z':RZ}{R:NA×RZ}{f:UInt8}(h:QI M0 M lt k nv ra rc z R)(hf:lt[k]? =some f)(hnd:lt.Nodup)
  (hl:qU M M') (hok:xt M' nv') (hbd:OkN nv') (hnu:yF nv'.abs) (hrd:ZK M' ra' rc' z') (hst:XL (nv.abs,z) f=(nv'.abs,z'))
  (hp:f=112∨(nv'.pa=nv.pa∧nv'.pc=nv.pc∧nv'.parts=nv.parts)) (ho:f=111∨(nv'.oa=nv.oa∧nv'.oc=nv.oc∧nv'.ops=nv.ops)) (hh:f=104∨(nv'.ha=nv.ha∧nv'.hc=nv.hc∧nv'.hits=nv.hits)):QI M0 M' lt (k+1) nv' ra' rc' z' R:=by
 have hlt:k<lt.length:=(jm.1 hf).1;have hd:lt.drop k=f::lt.drop (k+1):=by
  rw[List.drop_eq_getElem_cons hlt]
  congr 1
  exact (jm.1 hf).2
 have hnm:f∉lt.drop (k+1):=by
  have:(lt.drop k).Nodup:=(List.drop_sublist k lt).nodup hnd;rw[hd] at this;exact (List.nodup_cons.1 this).1
 have hfin:=h.fin;rw[hd,List.foldl_cons,hst] at hfin;have hm:∀g,g∈lt.drop (k+1)→g∈lt.drop k:=λg hg=>by rw[hd];exact jV _ hg
 refine ⟨hlt,h.l.trans hl,hok,hbd,hnu,hrd,hfin,λhg=> ?_,λhg=> ?_,λhg=> ?_⟩
 ·rcases hp with rfl|⟨e1,e2,e3⟩
  ·exact absurd hg hnm
  ·rw[e1,e2,e3];exact h.ep (hm _ hg)
 ·rcases ho with rfl|⟨e1,e2,e3⟩
  ·exact absurd hg hnm
  ·rw[e1,e2,e3];exact h.eo (hm _ hg)
 ·rcases hh with rfl|⟨e1,e2,e3⟩
  ·exact absurd hg hnm
  ·rw[e1,e2,e3];exact h.eh (hm _ hg)
theorem QI.at {M0 M:OM}{lt:List UInt8}{k:Nat}{nv:NV}{ra:OA}{rc:Nat}{z:RZ}{R:NA×RZ}{f:UInt8}(h:QI M0 M lt k nv ra rc z R)(hf:lt[k]? =some f):f∈lt.drop k:=by
 have hlt:k<lt.length:=(jm.1 hf).1;rw[List.drop_eq_getElem_cons hlt,(jm.1 hf).2];exact kg
theorem mg (k:Nat):(wN k).Nodup:=by
 rw[VG];exact List.filter_sublist.nodup zd
abbrev nC0 (nv:NV)(pa:OA)(pc pl:Nat)(oa:OA)(oc ol:Nat)(ha:OA)(hc hl:Nat):Obj:=cl [.int .u8 nv.kind,.int .u64 nv.txn,.int .u64 nv.batch,.int .u64 nv.stamp,.int .u64 nv.after,.int .u64 nv.mark,.int .u64 nv.query,.int .u64 nv.id,.int .i64 nv.k,.int .i64 nv.ef,.int .i64 nv.code,.int .i64 nv.who,.slice pa pl pc,.slice oa ol oc,.slice nv.va nv.vec.length nv.vc,.slice ha hl hc] 43
def jGa (M:OM)(L0:HL)(bs:List UInt8)(v:Value)(L':HL):Prop:=∃n:NV,∃M',v=.tuple #[n.val,.int .i64 (J7 bs)]∧n.abs=jAT bs∧xt M' n∧OkN n∧qU M M'∧L'=qo M'::L0
theorem yF.zero :yF NA.zero:=⟨by decide,by decide,by decide,by decide,by decide,by decide,by decide,by decide,by decide,by decide,by decide,by decide⟩
set_option maxRecDepth 100000 in
theorem YD (a:OA)(c:Nat)(bs:List UInt8)(M:OM)(L0:HL)(h:qH M a bs.length 1 (bs.map B))(hc:bs.length≤c)(hb:bs.length≤1000000):
  qh kY 10 [.slice a bs.length c] (qo M::L0) (jGa M L0 bs):=by
 refine qg Tryz.func10 rfl rfl rfl ?_;refine Q.r ?_;(repeat (intro b1;refine Q.r ?_));revert b1;intro b2;refine S.cq (A:=qo M) rfl (mV a c bs M _ h hc hb) ?_;rintro _ _ ⟨v,w,M1,rfl,hv,hw,hvo,hwo,hvc,hwc,hl1,rfl⟩;have nul:∀(M':OM),qU M M'→J7 bs≠0→∀L',L'=qo M'::L0→jGa M L0 bs (.tuple #[NA.zero.nv.val,.int .i64 (J7 bs)]) L':=λM' hl hC _ e=>⟨NA.zero.nv,M',rfl,by unfold jAT;rw[ja hC];rfl,xt.nv _,OkN.nv _,hl,e⟩
 by_cases h0:zZ bs=0
 case neg=>
  have hC:J7 bs=zZ bs:=jb h0;have hC0:J7 bs≠0:=by rw[hC];exact h0
  rw[←hC];have hD:decide (¬J7 bs=0)=true:=jo hC0;have nul:=nul M1 hl1 hC0 _ rfl;generalize J7 bs=E at*;refine Q.r ?_;exact N.r2 (by apply RV.cellN;rfl;exact vg.row;rfl;exact RV.tmp rfl RV.nil) (L':=qo M1::L0) eG nul
 rw[jb h0] at hv hw;rw[h0]
 by_cases hr:Y4 bs=[]
 case neg=>
  have hC:J7 bs=4:=by unfold J7;rw[ja (by simp[h0]),jb hr]
  have nul:=nul M1 hl1 (by rw[hC];decide) _ rfl;rw[hC] at nul;have hw0:0<w.bs.length:=by rw[hw];exact kA.2 hr
  refine Q.r ?_;exact N.r2 (by apply RV.cellN;rfl;exact vg.row;rfl;exact RV.tmp rfl RV.nil) (L':=qo M1::L0) eG nul
 have hw0:w.bs.length=0:=by rw[hw,hr];rfl
 have hCC:J7 bs=if (W4 bs).2.ok=true∧(W4 bs).2.bs=[]∧qu (W4 bs).1=true then 0 else 4:=by
  unfold J7;rw[ja (by simp[h0]),ja (by simp[hr])]
 have hvl:v.bs.length≤bs.length:=hv▸jBd bs;have hZ0:W4 bs=(wN (zj 255 ⟨v.bs,true⟩).1.toNat).foldl XL ({NA.zero with kind:=(zj 255 ⟨v.bs,true⟩).1},(zj 255 ⟨v.bs,true⟩).2):=by rw[hv];rfl
 refine Q.r ?_;(repeat (intro b1;refine Q.r ?_));revert b1;intro br;have hk0:ZK M1 v.a v.c ⟨v.bs,true⟩:=⟨hvo,hvc,by show v.bs.length≤_;omega⟩;refine S.c1 (A:=JW br v.a v.c ⟨v.bs,true⟩) rfl (wt br v.a v.c ⟨v.bs,true⟩ 255 zd M1 _ hk0) ?_;rintro _ _ ⟨rfl,a1,c1,hk1,rfl⟩;have hkin:=J5 255 ⟨v.bs,true⟩;generalize zj 255 ⟨v.bs,true⟩=x at*;obtain ⟨kd,z1⟩:=x;dsimp only at*;obtain ⟨kn,hkn⟩:∃kn:Nat,kd=(kn:Int):=⟨kd.toNat,by omega⟩;subst hkn;rw[kz] at hZ0;refine Q.r ?_;refine S.y (Y.cvi rfl) ?_;have hw8:IntKind.u8.wrap (kn:Int)=kn:=by rw[IntKind.wrap_u8];omega
 rw[hw8];refine Q.r ?_;(repeat (intro b1;refine Q.r ?_));revert b1;intro b8;refine S.cr rfl (Qs kn _ zo) ?_;rintro _ _ ⟨rfl,he⟩;rw[he];clear he;have hnd:=mg kn;have hle:=cJ kn;have hab:∀i f,(wN kn)[i]? =some f→f∈abc:=λi f h=>jCn h
 generalize wN kn=lt at*;have h00:QI M1 M1 lt 0 {NA.zero.nv with kind:=(kn:Int)} a1 c1 z1 (W4 bs):=⟨jw _,qU.refl _,xt.nv {NA.zero with kind:=(kn:Int)},OkN.nv {NA.zero with kind:=(kn:Int)},{yF.zero with kind:=⟨hkin.1,hkin.2⟩},hk1,hZ0.symm,λ_=>⟨rfl,rfl,rfl⟩,λ_=>⟨rfl,rfl,rfl⟩,λ_=>⟨rfl,rfl,rfl⟩⟩;generalize hRN:W4 bs=RR at*;refine Q.r ?_;refine qx (σ:=NV×OA×Nat×RZ×(OM)) (λ_=> [(2,.pointer (some ⟨b2,0,none⟩)),(7,.pointer (some ⟨br,0,none⟩)),(8,.pointer (some ⟨b8,0,none⟩))]) (λs=>pt b8 (nC s.1)::JW br s.2.1 s.2.2.1 s.2.2.2.1::pt b2 (nC NA.zero.nv)::qo s.2.2.2.2::L0) (λs=>QI M1 s.2.2.2.2 lt lt.length s.1 s.2.1 s.2.2.1 s.2.2.2.1 RR) ?_ ?_
 ·refine ql (σ:=Nat×NV×OA×Nat×RZ×(OM)) (λs=> [(2,.pointer (some ⟨b2,0,none⟩)),(7,.pointer (some ⟨br,0,none⟩)),(8,.pointer (some ⟨b8,0,none⟩)),(10,str lt),(11,.int .i64 s.1)])
   (λs=>pt b8 (nC s.2.1)::JW br s.2.2.1 s.2.2.2.1 s.2.2.2.2.1::pt b2 (nC NA.zero.nv)::qo s.2.2.2.2.2::L0) (λs=>QI M1 s.2.2.2.2.2 lt s.1 s.2.1 s.2.2.1 s.2.2.2.1 s.2.2.2.2.1 RR) (λs=>lt.length - s.1) (0,{NA.zero.nv with kind:=(kn:Int)},a1,c1,z1,M1) zt eG h00 ?_
  rintro ⟨k,nv,ra,rc,z,M2⟩ hI;dsimp only at hI ⊢;have hik:=hI.kl;have hik2:k≤15:=by omega
  by_cases hlt:k<lt.length
  ·obtain ⟨f,hf⟩:=qw hlt
   have hfa:=hab k f hf;have hlt':(k:Int)<lt.length:=by omega
   refine Q.r ?_;refine S.y (Y.slen rfl) ?_;refine Q.r ?_;refine S.y (Y.idx rfl rfl (jFs hf)) ?_;unfold abc at hfa;simp only[j9,List.not_mem_nil,or_false] at hfa
   rcases hfa with rfl|rfl|rfl|rfl|rfl|rfl|rfl|rfl|rfl|rfl|rfl|rfl|rfl|rfl|rfl
   ·refine Q.r ?_
    refine S.c1 (A:=JW br ra rc z) rfl (wi br ra rc z M2 _ hI.rd) ?_;rintro _ _ ⟨rfl,a3,c3,hk3,rfl⟩;have hb:=J3 z;refine Q.r ?_;exact ⟨(k+1,{nv with txn:=(xD z).1},a3,c3,(xD z).2,M2),zt,by exact eG,hI.step hf hnd (qU.refl _) ⟨hI.ok.p,hI.ok.o,hI.ok.v,hI.ok.h,hI.ok.hv⟩ ⟨hI.bd.p,hI.bd.o,hI.bd.ov,hI.bd.v,hI.bd.h,hI.bd.hv⟩ {hI.nu with txn:=hb} hk3 rfl (.inr ⟨rfl,rfl,rfl⟩) (.inr ⟨rfl,rfl,rfl⟩) (.inr ⟨rfl,rfl,rfl⟩),jr lt.length k hlt⟩
   ·refine Q.r ?_
    refine S.c1 (A:=JW br ra rc z) rfl (wi br ra rc z M2 _ hI.rd) ?_;rintro _ _ ⟨rfl,a3,c3,hk3,rfl⟩;have hb:=J3 z;refine Q.r ?_;exact ⟨(k+1,{nv with batch:=(xD z).1},a3,c3,(xD z).2,M2),zt,by exact eG,hI.step hf hnd (qU.refl _) ⟨hI.ok.p,hI.ok.o,hI.ok.v,hI.ok.h,hI.ok.hv⟩ ⟨hI.bd.p,hI.bd.o,hI.bd.ov,hI.bd.v,hI.bd.h,hI.bd.hv⟩ {hI.nu with batch:=hb} hk3 rfl (.inr ⟨rfl,rfl,rfl⟩) (.inr ⟨rfl,rfl,rfl⟩) (.inr ⟨rfl,rfl,rfl⟩),jr lt.length k hlt⟩
   ·refine Q.r ?_
    refine S.c1 (A:=JW br ra rc z) rfl (wi br ra rc z M2 _ hI.rd) ?_;rintro _ _ ⟨rfl,a3,c3,hk3,rfl⟩;have hb:=J3 z;refine Q.r ?_;exact ⟨(k+1,{nv with stamp:=(xD z).1},a3,c3,(xD z).2,M2),zt,by exact eG,hI.step hf hnd (qU.refl _) ⟨hI.ok.p,hI.ok.o,hI.ok.v,hI.ok.h,hI.ok.hv⟩ ⟨hI.bd.p,hI.bd.o,hI.bd.ov,hI.bd.v,hI.bd.h,hI.bd.hv⟩ {hI.nu with stamp:=hb} hk3 rfl (.inr ⟨rfl,rfl,rfl⟩) (.inr ⟨rfl,rfl,rfl⟩) (.inr ⟨rfl,rfl,rfl⟩),jr lt.length k hlt⟩
   ·refine Q.r ?_
    refine S.c1 (A:=JW br ra rc z) rfl (wi br ra rc z M2 _ hI.rd) ?_;rintro _ _ ⟨rfl,a3,c3,hk3,rfl⟩;have hb:=J3 z;refine Q.r ?_;exact ⟨(k+1,{nv with after:=(xD z).1},a3,c3,(xD z).2,M2),zt,by exact eG,hI.step hf hnd (qU.refl _) ⟨hI.ok.p,hI.ok.o,hI.ok.v,hI.ok.h,hI.ok.hv⟩ ⟨hI.bd.p,hI.bd.o,hI.bd.ov,hI.bd.v,hI.bd.h,hI.bd.hv⟩ {hI.nu with after:=hb} hk3 rfl (.inr ⟨rfl,rfl,rfl⟩) (.inr ⟨rfl,rfl,rfl⟩) (.inr ⟨rfl,rfl,rfl⟩),jr lt.length k hlt⟩
   ·refine Q.r ?_
    refine S.c1 (A:=JW br ra rc z) rfl (wi br ra rc z M2 _ hI.rd) ?_;rintro _ _ ⟨rfl,a3,c3,hk3,rfl⟩;have hb:=J3 z;refine Q.r ?_;exact ⟨(k+1,{nv with mark:=(xD z).1},a3,c3,(xD z).2,M2),zt,by exact eG,hI.step hf hnd (qU.refl _) ⟨hI.ok.p,hI.ok.o,hI.ok.v,hI.ok.h,hI.ok.hv⟩ ⟨hI.bd.p,hI.bd.o,hI.bd.ov,hI.bd.v,hI.bd.h,hI.bd.hv⟩ {hI.nu with mark:=hb} hk3 rfl (.inr ⟨rfl,rfl,rfl⟩) (.inr ⟨rfl,rfl,rfl⟩) (.inr ⟨rfl,rfl,rfl⟩),jr lt.length k hlt⟩
   ·refine Q.r ?_
    refine S.c1 (A:=JW br ra rc z) rfl (wi br ra rc z M2 _ hI.rd) ?_;rintro _ _ ⟨rfl,a3,c3,hk3,rfl⟩;have hb:=J3 z;refine Q.r ?_;exact ⟨(k+1,{nv with query:=(xD z).1},a3,c3,(xD z).2,M2),zt,by exact eG,hI.step hf hnd (qU.refl _) ⟨hI.ok.p,hI.ok.o,hI.ok.v,hI.ok.h,hI.ok.hv⟩ ⟨hI.bd.p,hI.bd.o,hI.bd.ov,hI.bd.v,hI.bd.h,hI.bd.hv⟩ {hI.nu with query:=hb} hk3 rfl (.inr ⟨rfl,rfl,rfl⟩) (.inr ⟨rfl,rfl,rfl⟩) (.inr ⟨rfl,rfl,rfl⟩),jr lt.length k hlt⟩
   ·refine Q.r ?_
    refine S.c1 (A:=JW br ra rc z) rfl (wi br ra rc z M2 _ hI.rd) ?_;rintro _ _ ⟨rfl,a3,c3,hk3,rfl⟩;have hb:=J3 z;refine Q.r ?_;exact ⟨(k+1,{nv with id:=(xD z).1},a3,c3,(xD z).2,M2),zt,by exact eG,hI.step hf hnd (qU.refl _) ⟨hI.ok.p,hI.ok.o,hI.ok.v,hI.ok.h,hI.ok.hv⟩ ⟨hI.bd.p,hI.bd.o,hI.bd.ov,hI.bd.v,hI.bd.h,hI.bd.hv⟩ {hI.nu with id:=hb} hk3 rfl (.inr ⟨rfl,rfl,rfl⟩) (.inr ⟨rfl,rfl,rfl⟩) (.inr ⟨rfl,rfl,rfl⟩),jr lt.length k hlt⟩
   ·refine Q.r ?_
    refine S.c1 (A:=JW br ra rc z) rfl (wt br ra rc z 16 zd M2 _ hI.rd) ?_;rintro _ _ ⟨rfl,a3,c3,hk3,rfl⟩;have hb:=J5 16 z;refine Q.r ?_;exact ⟨(k+1,{nv with k:=(zj 16 z).1},a3,c3,(zj 16 z).2,M2),zt,by exact eG,hI.step hf hnd (qU.refl _) ⟨hI.ok.p,hI.ok.o,hI.ok.v,hI.ok.h,hI.ok.hv⟩ ⟨hI.bd.p,hI.bd.o,hI.bd.ov,hI.bd.v,hI.bd.h,hI.bd.hv⟩ {hI.nu with k:=Int.le_trans hb.2 zd} hk3 rfl (.inr ⟨rfl,rfl,rfl⟩) (.inr ⟨rfl,rfl,rfl⟩) (.inr ⟨rfl,rfl,rfl⟩),jr lt.length k hlt⟩
   ·refine Q.r ?_
    refine S.c1 (A:=JW br ra rc z) rfl (wt br ra rc z 256 zd M2 _ hI.rd) ?_;rintro _ _ ⟨rfl,a3,c3,hk3,rfl⟩;have hb:=J5 256 z;refine Q.r ?_;exact ⟨(k+1,{nv with ef:=(zj 256 z).1},a3,c3,(zj 256 z).2,M2),zt,by exact eG,hI.step hf hnd (qU.refl _) ⟨hI.ok.p,hI.ok.o,hI.ok.v,hI.ok.h,hI.ok.hv⟩ ⟨hI.bd.p,hI.bd.o,hI.bd.ov,hI.bd.v,hI.bd.h,hI.bd.hv⟩ {hI.nu with ef:=Int.le_trans hb.2 zd} hk3 rfl (.inr ⟨rfl,rfl,rfl⟩) (.inr ⟨rfl,rfl,rfl⟩) (.inr ⟨rfl,rfl,rfl⟩),jr lt.length k hlt⟩
   ·refine Q.r ?_
    refine S.c1 (A:=JW br ra rc z) rfl (wt br ra rc z 13 zd M2 _ hI.rd) ?_;rintro _ _ ⟨rfl,a3,c3,hk3,rfl⟩;have hb:=J5 13 z;refine Q.r ?_;exact ⟨(k+1,{nv with code:=(zj 13 z).1},a3,c3,(zj 13 z).2,M2),zt,by exact eG,hI.step hf hnd (qU.refl _) ⟨hI.ok.p,hI.ok.o,hI.ok.v,hI.ok.h,hI.ok.hv⟩ ⟨hI.bd.p,hI.bd.o,hI.bd.ov,hI.bd.v,hI.bd.h,hI.bd.hv⟩ {hI.nu with code:=Int.le_trans hb.2 zd} hk3 rfl (.inr ⟨rfl,rfl,rfl⟩) (.inr ⟨rfl,rfl,rfl⟩) (.inr ⟨rfl,rfl,rfl⟩),jr lt.length k hlt⟩
   ·refine Q.r ?_
    refine S.c1 (A:=JW br ra rc z) rfl (wt br ra rc z 15 zd M2 _ hI.rd) ?_;rintro _ _ ⟨rfl,a3,c3,hk3,rfl⟩;have hb:=J5 15 z;refine Q.r ?_;exact ⟨(k+1,{nv with who:=(zj 15 z).1},a3,c3,(zj 15 z).2,M2),zt,by exact eG,hI.step hf hnd (qU.refl _) ⟨hI.ok.p,hI.ok.o,hI.ok.v,hI.ok.h,hI.ok.hv⟩ ⟨hI.bd.p,hI.bd.o,hI.bd.ov,hI.bd.v,hI.bd.h,hI.bd.hv⟩ {hI.nu with who:=Int.le_trans hb.2 zd} hk3 rfl (.inr ⟨rfl,rfl,rfl⟩) (.inr ⟨rfl,rfl,rfl⟩) (.inr ⟨rfl,rfl,rfl⟩),jr lt.length k hlt⟩
   ·obtain ⟨ep1,ep2,ep3⟩:=hI.ep (hI.at hf)
    have hq:nC nv=nC0 nv none 0 0 nv.oa nv.oc nv.ops.length nv.ha nv.hc nv.hits.length:=by
     unfold nC nC0 NV.cells;rw[ep1,ep2,ep3];rfl
    rw[hq];refine Q.r ?_;refine S.c1 (A:=JW br ra rc z) rfl (wt br ra rc z 4 zd M2 _ hI.rd) ?_;rintro _ _ ⟨rfl,a3,c3,hk3,rfl⟩;have hb:=J5 4 z;obtain ⟨T,hT⟩:∃T,VE 4 (zj 15) z=T:=⟨_,rfl⟩;have hst:XL (nv.abs,z) 112=({nv.abs with parts:=T.1},T.2):=by rw[←hT];rfl
    unfold VE at hT;generalize zj 4 z=y at*;obtain ⟨m0,z3⟩:=y;dsimp only at*;obtain ⟨np,hnp⟩:∃np:Nat,m0=(np:Int):=⟨m0.toNat,by omega⟩;subst hnp;rw[kz] at hT;generalize hF:fG (zj 15) np (z3,[])=F at hT;have hFl:F.2.length=np:=by rw[←hF,pg];simp
    subst hT;refine Q.r ?_;refine ql (σ:=OA×Nat×OA×Nat×Nat×(RZ×List Int)) (λs=> [(2,.pointer (some ⟨b2,0,none⟩)),(7,.pointer (some ⟨br,0,none⟩)),(8,.pointer (some ⟨b8,0,none⟩)),(10,str lt),(11,.int .i64 k),(123,.int .i64 np),(124,.int .i64 s.2.2.2.2.1)])
     (λs=>pt b8 (nC0 nv s.1 s.2.1 s.2.2.2.2.2.2.length nv.oa nv.oc nv.ops.length nv.ha nv.hc nv.hits.length)::slO 3 1 s.1 s.2.2.2.2.2.2.length s.2.1 (s.2.2.2.2.2.2.map I64)::JW br s.2.2.1 s.2.2.2.1 s.2.2.2.2.2.1::pt b2 (nC NA.zero.nv)::qo M2::L0)
     (λs=>s.2.2.2.2.1≤np∧s.2.2.2.2.2.2.length=s.2.2.2.2.1∧ZK M2 s.2.2.1 s.2.2.2.1 s.2.2.2.2.2.1∧fG (zj 15) (np - s.2.2.2.2.1) s.2.2.2.2.2=F) (λs=>np - s.2.2.2.2.1) (none,0,a3,c3,0,(z3,[])) zt eG ⟨jw _,rfl,hk3,hF⟩ ?_
    rintro ⟨pa,pc,ra2,rc2,i,z4,l⟩ ⟨hi,hl,hkz,hz⟩;dsimp only at hi hl hkz hz ⊢
    by_cases hlp:i<np
    ·have hlp':(i:Int)<np:=by omega
     refine Q.r ?_;have en2:np - i=(np - (i+1))+1:=by omega
     rw[en2,KM] at hz;refine Q.dgo [true,false,false,false,false] [3,4,5,7] [7] [0,1,2,3,4,5,6,7] ?_;refine Q.rd2 ?_;refine D.e rfl rfl rfl ?_;refine S.c1 (A:=JW br ra2 rc2 z4) rfl (wt br ra2 rc2 z4 15 zd M2 _ hkz) ?_;rintro _ _ ⟨rfl,a14,c14,hk14,rfl⟩;have hv4:=J5 15 z4;have hz:fG (zj 15) (np - (i+1)) ((zj 15 z4).2,l++[(zj 15 z4).1])=F:=hz;generalize zj 15 z4=x14 at*;obtain ⟨q,z14⟩:=x14;dsimp only at*;refine Q.r ?_;refine Q.rd2 ?_;refine D.e rfl rfl rfl ?_;refine Q.r ?_;(repeat (intro b1;refine Q.r ?_));refine Q.rd2 ?_;refine D.e rfl rfl rfl ?_;refine S.app rfl rfl (vA.sl vg.row zr zr) zr zo zo (λa7 c7=> ?_);refine Q.r ?_;refine Q.rd2 ?_;refine Q.dc rfl rfl rfl rfl ?_;refine Q.r ?_;refine Q.rd2 ?_;refine Q.r ?_;refine ⟨(a7,c7,a14,c14,i+1,z14,l++[q]),⟨rfl,rfl,rfl,rfl,rfl,rfl,jj some (by simp[jU]),trivial⟩,?_,⟨hlp,by dsimp only;rw[qF,hl],hk14,hz⟩,jr np i hlp⟩;dsimp only;rw[qF,jq,jL,kC];exact eG
    ·have hie:i=np:=by omega
     rw[hie,Nat.sub_self] at hz;have hz:(z4,l)=F:=hz;subst hz;dsimp only at hst hFl;refine wm pa (λM3 hl3 hs3=> ?_);refine Q.r ?_;exact ⟨(k+1,{nv with pa:=pa,pc:=pc,parts:=l},ra2,rc2,z4,M3),zt,by exact eG,hI.step hf hnd hl3 ⟨hs3,(hI.ok.mono hl3).o,(hI.ok.mono hl3).v,(hI.ok.mono hl3).h,(hI.ok.mono hl3).hv⟩ ⟨by show l.length≤_;omega,hI.bd.o,hI.bd.ov,hI.bd.v,hI.bd.h,hI.bd.hv⟩ ⟨hI.nu.kind,hI.nu.txn,hI.nu.batch,hI.nu.stamp,hI.nu.after,hI.nu.mark,hI.nu.query,hI.nu.id,hI.nu.k,hI.nu.ef,hI.nu.code,hI.nu.who⟩ (hkz.mono hl3) hst (.inl rfl) (.inr ⟨rfl,rfl,rfl⟩) (.inr ⟨rfl,rfl,rfl⟩),jr lt.length k hlt⟩
   ·obtain ⟨ep1,ep2,ep3⟩:=hI.eo (hI.at hf)
    have hq:nC nv=nC0 nv nv.pa nv.pc nv.parts.length none 0 0 nv.ha nv.hc nv.hits.length:=by
     unfold nC nC0 NV.cells;rw[ep1,ep2,ep3];rfl
    rw[hq];refine Q.r ?_;refine S.c1 (A:=JW br ra rc z) rfl (wt br ra rc z 16 zd M2 _ hI.rd) ?_;rintro _ _ ⟨rfl,a3,c3,hk3,rfl⟩;have hb:=J5 16 z;obtain ⟨T,hT⟩:∃T,VE 16 opF z=T:=⟨_,rfl⟩;have hst:XL (nv.abs,z) 111=({nv.abs with ops:=T.1},T.2):=by rw[←hT];rfl
    unfold VE at hT;generalize zj 16 z=y at*;obtain ⟨m0,z3⟩:=y;dsimp only at*;obtain ⟨np,hnp⟩:∃np:Nat,m0=(np:Int):=⟨m0.toNat,by omega⟩;subst hnp;rw[kz] at hT;generalize hF:fG opF np (z3,[])=F at hT;subst hT;refine Q.r ?_;refine ql (σ:=OA×Nat×OA×Nat×(OM)×List OV×Nat×RZ) (λs=> [(2,.pointer (some ⟨b2,0,none⟩)),(7,.pointer (some ⟨br,0,none⟩)),(8,.pointer (some ⟨b8,0,none⟩)),(10,str lt),(11,.int .i64 k),(137,.int .i64 np),(138,.int .i64 s.2.2.2.2.2.2.1)])
     (λs=>pt b8 (nC0 nv nv.pa nv.pc nv.parts.length s.1 s.2.1 s.2.2.2.2.2.1.length nv.ha nv.hc nv.hits.length)::slO 38 2 s.1 s.2.2.2.2.2.1.length s.2.1 (s.2.2.2.2.2.1.flatMap OV.cells)::JW br s.2.2.1 s.2.2.2.1 s.2.2.2.2.2.2.2::pt b2 (nC NA.zero.nv)::qo s.2.2.2.2.1::L0)
     (λs=>s.2.2.2.2.2.2.1≤np∧s.2.2.2.2.2.1.length=s.2.2.2.2.2.2.1∧ZK s.2.2.2.2.1 s.2.2.1 s.2.2.2.1 s.2.2.2.2.2.2.2∧qU M2 s.2.2.2.2.1∧okR s.2.2.2.2.1 s.2.2.2.2.2.1∧(∀o∈s.2.2.2.2.2.1,o.vec.length≤8)∧fG opF (np - s.2.2.2.2.2.2.1) (s.2.2.2.2.2.2.2,s.2.2.2.2.2.1.map OV.abs)=F) (λs=>np - s.2.2.2.2.2.2.1) (none,0,a3,c3,M2,[],0,z3) zt eG ⟨jw _,rfl,hk3,qU.refl _,(λ_ h=>by cases h),(λ_ h=>by cases h),hF⟩ ?_
    rintro ⟨oa,oc,ra2,rc2,M3,os,i,z4⟩ ⟨hi,hl,hkz,hl2,hos,hov,hz⟩;dsimp only at hi hl hkz hl2 hos hov hz ⊢
    by_cases hlp:i<np
    ·have hlp':(i:Int)<np:=by omega
     refine Q.r ?_;have en2:np - i=(np - (i+1))+1:=by omega
     rw[en2,KM] at hz;refine Q.dgo [true,false,false,false,false] [3,5,7,8,10] [10] [0,1,2,4,3,5,6,7,8,9,10] ?_;refine Q.rd2 ?_;refine D.e rfl rfl rfl ?_;refine S.c1 (A:=JW br ra2 rc2 z4) rfl (wi br ra2 rc2 z4 M3 _ hkz) ?_;rintro _ _ ⟨rfl,a16,c16,hk16,rfl⟩;have hz:fG opF (np - (i+1)) ((WU (xD z4).2).2,os.map OV.abs++[((xD z4).1,(WU (xD z4).2).1)])=F:=hz;generalize xD z4=x16 at*;obtain ⟨q,z16⟩:=x16;dsimp only at*;refine Q.r ?_;refine Q.rd2 ?_;refine D.e rfl rfl rfl ?_;refine S.c1 (A:=JW br a16 c16 z16) rfl (Wl br a16 c16 z16 M3 _ hk16) ?_;rintro _ _ ⟨va,vc,a17,c17,rfl,hk17,rfl⟩;have hv8:=lw z16;generalize WU z16=y16 at*;obtain ⟨vv,z17⟩:=y16;dsimp only at*;refine qQ va (λM4 hl4 hsv=> ?_);refine Q.r ?_;refine Q.rd2 ?_;refine D.e rfl rfl rfl ?_;refine Q.r ?_;(repeat (intro b1;refine Q.r ?_));refine Q.rd2 ?_;refine D.e rfl rfl rfl ?_;refine S.app rfl rfl (vA.sl vg.row zr zr) zr zo zo (λa7 c7=> ?_);refine Q.r ?_;refine Q.rd2 ?_;refine Q.dc rfl rfl rfl rfl ?_;refine Q.r ?_;refine Q.rd2 ?_;refine Q.r ?_;refine ⟨(a7,c7,a17,c17,M4,os++[⟨q,va,vc,vv⟩],i+1,z17),⟨rfl,rfl,rfl,rfl,rfl,rfl,jj some (by simp[jU]),trivial⟩,?_,⟨hlp,by dsimp only;rw[qF,hl],hk17.mono hl4,hl2.trans hl4,λo ho=> ?_,λo ho=> ?_,by dsimp only;rw[jq];exact hz⟩,jr np i hlp⟩
     ·dsimp only
      rw[qF,vE];exact eG
     ·rcases jy.1 ho with ho|ho
      ·exact (hos o ho).mono hl4
      ·rw[ji.1 ho];exact hsv
     ·rcases jy.1 ho with ho|ho
      ·exact hov o ho
      ·rw[ji.1 ho];exact hv8
    ·have hie:i=np:=by omega
     rw[hie,Nat.sub_self] at hz;have hz:(z4,os.map OV.abs)=F:=hz;subst hz;dsimp only at hst;refine wm oa (λM4 hl4 hs4=> ?_);refine Q.r ?_;have hl24:=hl2.trans hl4;exact ⟨(k+1,{nv with oa:=oa,oc:=oc,ops:=os},ra2,rc2,z4,M4),zt,by exact eG,hI.step hf hnd hl24 ⟨(hI.ok.mono hl24).p,⟨hs4,λo ho=>(hos o ho).mono hl4⟩,(hI.ok.mono hl24).v,(hI.ok.mono hl24).h,(hI.ok.mono hl24).hv⟩ ⟨hI.bd.p,by show os.length≤_;omega,λo ho=>by have:=hov o ho;omega,hI.bd.v,hI.bd.h,hI.bd.hv⟩ ⟨hI.nu.kind,hI.nu.txn,hI.nu.batch,hI.nu.stamp,hI.nu.after,hI.nu.mark,hI.nu.query,hI.nu.id,hI.nu.k,hI.nu.ef,hI.nu.code,hI.nu.who⟩ (hkz.mono hl4) hst (.inr ⟨rfl,rfl,rfl⟩) (.inl rfl) (.inr ⟨rfl,rfl,rfl⟩),jr lt.length k hlt⟩
   ·refine Q.r ?_
    refine S.c1 (A:=JW br ra rc z) rfl (Wl br ra rc z M2 _ hI.rd) ?_;rintro _ _ ⟨va,vc,a3,c3,rfl,hk3,rfl⟩;have hb:=lw z;have hst:XL (nv.abs,z) 118=({nv.abs with vec:=(WU z).1},(WU z).2):=rfl;generalize WU z=y at*;obtain ⟨vv,z3⟩:=y;dsimp only at*;refine qQ va (λM3 hl3 hsv=> ?_);refine Q.r ?_;exact ⟨(k+1,{nv with va:=va,vc:=vc,vec:=vv},a3,c3,z3,M3),zt,by exact eG,hI.step hf hnd hl3 ⟨(hI.ok.mono hl3).p,(hI.ok.mono hl3).o,hsv,(hI.ok.mono hl3).h,(hI.ok.mono hl3).hv⟩ ⟨hI.bd.p,hI.bd.o,hI.bd.ov,by show vv.length≤_;omega,hI.bd.h,hI.bd.hv⟩ ⟨hI.nu.kind,hI.nu.txn,hI.nu.batch,hI.nu.stamp,hI.nu.after,hI.nu.mark,hI.nu.query,hI.nu.id,hI.nu.k,hI.nu.ef,hI.nu.code,hI.nu.who⟩ (hk3.mono hl3) hst (.inr ⟨rfl,rfl,rfl⟩) (.inr ⟨rfl,rfl,rfl⟩) (.inr ⟨rfl,rfl,rfl⟩),jr lt.length k hlt⟩
   ·obtain ⟨ep1,ep2,ep3⟩:=hI.eh (hI.at hf)
    have hq:nC nv=nC0 nv nv.pa nv.pc nv.parts.length nv.oa nv.oc nv.ops.length none 0 0:=by
     unfold nC nC0 NV.cells;rw[ep1,ep2,ep3];rfl
    rw[hq];refine Q.r ?_;refine S.c1 (A:=JW br ra rc z) rfl (wt br ra rc z 16 zd M2 _ hI.rd) ?_;rintro _ _ ⟨rfl,a3,c3,hk3,rfl⟩;have hb:=J5 16 z;obtain ⟨T,hT⟩:∃T,VE 16 htF z=T:=⟨_,rfl⟩;have hst:XL (nv.abs,z) 104=({nv.abs with hits:=T.1},T.2):=by rw[←hT];rfl
    unfold VE at hT;generalize zj 16 z=y at*;obtain ⟨m0,z3⟩:=y;dsimp only at*;obtain ⟨np,hnp⟩:∃np:Nat,m0=(np:Int):=⟨m0.toNat,by omega⟩;subst hnp;rw[kz] at hT;generalize hF:fG htF np (z3,[])=F at hT;subst hT;refine Q.r ?_;refine ql (σ:=OA×Nat×OA×Nat×(OM)×List HV×Nat×RZ) (λs=> [(2,.pointer (some ⟨b2,0,none⟩)),(7,.pointer (some ⟨br,0,none⟩)),(8,.pointer (some ⟨b8,0,none⟩)),(10,str lt),(11,.int .i64 k),(49,.int .i64 np),(50,.int .i64 s.2.2.2.2.2.2.1)])
     (λs=>pt b8 (nC0 nv nv.pa nv.pc nv.parts.length nv.oa nv.oc nv.ops.length s.1 s.2.1 s.2.2.2.2.2.1.length)::slO 113 3 s.1 s.2.2.2.2.2.1.length s.2.1 (s.2.2.2.2.2.1.flatMap HV.cells)::JW br s.2.2.1 s.2.2.2.1 s.2.2.2.2.2.2.2::pt b2 (nC NA.zero.nv)::qo s.2.2.2.2.1::L0)
     (λs=>s.2.2.2.2.2.2.1≤np∧s.2.2.2.2.2.1.length=s.2.2.2.2.2.2.1∧ZK s.2.2.2.2.1 s.2.2.1 s.2.2.2.1 s.2.2.2.2.2.2.2∧qU M2 s.2.2.2.2.1∧(∀h∈s.2.2.2.2.2.1,qH s.2.2.2.2.1 h.a h.vec.length 1 (h.vec.map yT))∧(∀o∈s.2.2.2.2.2.1,o.vec.length≤8)∧fG htF (np - s.2.2.2.2.2.2.1) (s.2.2.2.2.2.2.2,s.2.2.2.2.2.1.map HV.abs)=F) (λs=>np - s.2.2.2.2.2.2.1) (none,0,a3,c3,M2,[],0,z3) zt eG ⟨jw _,rfl,hk3,qU.refl _,(λ_ h=>by cases h),(λ_ h=>by cases h),hF⟩ ?_
    rintro ⟨oa,oc,ra2,rc2,M3,os,i,z4⟩ ⟨hi,hl,hkz,hl2,hos,hov,hz⟩;dsimp only at hi hl hkz hl2 hos hov hz ⊢
    by_cases hlp:i<np
    ·have hlp':(i:Int)<np:=by omega
     refine Q.r ?_;have en2:np - i=(np - (i+1))+1:=by omega
     rw[en2,KM] at hz;refine Q.dgo [true,false,false,false,false] [3,5,7,9,10,12] [12] [0,1,2,4,6,3,5,7,8,9,10,11,12] ?_;refine Q.rd2 ?_;refine D.e rfl rfl rfl ?_;refine S.c1 (A:=JW br ra2 rc2 z4) rfl (wi br ra2 rc2 z4 M3 _ hkz) ?_;rintro _ _ ⟨rfl,a16,c16,hk16,rfl⟩;have hz:fG htF (np - (i+1)) ((WU (xD (xD z4).2).2).2,os.map HV.abs++[((xD z4).1,(xD (xD z4).2).1,(WU (xD (xD z4).2).2).1)])=F:=hz;generalize xD z4=x16 at*;obtain ⟨q,z16⟩:=x16;dsimp only at*;refine Q.r ?_;refine Q.rd2 ?_;refine D.e rfl rfl rfl ?_;refine S.c1 (A:=JW br a16 c16 z16) rfl (wi br a16 c16 z16 M3 _ hk16) ?_;rintro _ _ ⟨rfl,a18,c18,hk18,rfl⟩;generalize xD z16=x18 at*;obtain ⟨ds,z18⟩:=x18;dsimp only at*;refine Q.r ?_;refine Q.rd2 ?_;refine D.e rfl rfl rfl ?_;refine S.c1 (A:=JW br a18 c18 z18) rfl (Wl br a18 c18 z18 M3 _ hk18) ?_;rintro _ _ ⟨va,vc,a17,c17,rfl,hk17,rfl⟩;have hv8:=lw z18;generalize WU z18=y16 at*;obtain ⟨vv,z17⟩:=y16;dsimp only at*;refine qQ va (λM4 hl4 hsv=> ?_);refine Q.r ?_;refine Q.rd2 ?_;refine D.e rfl rfl rfl ?_;refine Q.r ?_;(repeat (intro b1;refine Q.r ?_));refine Q.rd2 ?_;refine D.e rfl rfl rfl ?_;refine S.app rfl rfl (vA.sl vg.row zr zr) zr zo zo (λa7 c7=> ?_);refine Q.r ?_;refine Q.rd2 ?_;refine Q.dc rfl rfl rfl rfl ?_;refine Q.r ?_;refine Q.rd2 ?_;refine Q.r ?_;refine ⟨(a7,c7,a17,c17,M4,os++[⟨q,ds,va,vc,vv⟩],i+1,z17),⟨rfl,rfl,rfl,rfl,rfl,rfl,jj some (by simp[jU]),trivial⟩,?_,⟨hlp,by dsimp only;rw[qF,hl],hk17.mono hl4,hl2.trans hl4,λo ho=> ?_,λo ho=> ?_,by dsimp only;rw[jq];exact hz⟩,jr np i hlp⟩
     ·dsimp only
      rw[qF,vE];exact eG
     ·rcases jy.1 ho with ho|ho
      ·exact (hos o ho).mono hl4
      ·rw[ji.1 ho];exact hsv
     ·rcases jy.1 ho with ho|ho
      ·exact hov o ho
      ·rw[ji.1 ho];exact hv8
    ·have hie:i=np:=by omega
     rw[hie,Nat.sub_self] at hz;have hz:(z4,os.map HV.abs)=F:=hz;subst hz;dsimp only at hst;refine wm oa (λM4 hl4 hs4=> ?_);refine Q.r ?_;have hl24:=hl2.trans hl4;exact ⟨(k+1,{nv with ha:=oa,hc:=oc,hits:=os},ra2,rc2,z4,M4),zt,by exact eG,hI.step hf hnd hl24 ⟨(hI.ok.mono hl24).p,(hI.ok.mono hl24).o,(hI.ok.mono hl24).v,hs4,λo ho=>(hos o ho).mono hl4⟩ ⟨hI.bd.p,hI.bd.o,hI.bd.ov,hI.bd.v,by show os.length≤_;omega,λo ho=>by have:=hov o ho;omega⟩ ⟨hI.nu.kind,hI.nu.txn,hI.nu.batch,hI.nu.stamp,hI.nu.after,hI.nu.mark,hI.nu.query,hI.nu.id,hI.nu.k,hI.nu.ef,hI.nu.code,hI.nu.who⟩ (hkz.mono hl4) hst (.inr ⟨rfl,rfl,rfl⟩) (.inr ⟨rfl,rfl,rfl⟩) (.inl rfl),jr lt.length k hlt⟩
  ·have hke:k=lt.length:=by omega
   subst hke;refine Q.r ?_;refine S.y (Y.slen rfl) ?_;refine Q.r ?_;exact ⟨(nv,ra,rc,z,M2),zt,by exact eG,hI⟩
 rintro ⟨nv,ra,rc,z,M2⟩ hI;dsimp only at hI ⊢;have hfin:(nv.abs,z)=RR:=by
  have:=hI.fin;rw[kM] at this;exact this
 subst hfin;dsimp only at hCC;have hl12:=hl1.trans hI.l;have hno:=hI.ok;have hON:=hI.bd;have hnu:=hI.nu;obtain ⟨zb,zq⟩:=z
 cases zq with
 |false=>
  have hC:J7 bs=4:=by rw[hCC,ja (by simp)]
  have nul:=nul M2 hl12 (by rw[hC];decide) _ rfl;rw[hC] at nul;refine Q.r ?_;exact N.r2 (by apply RV.cellN;rfl;exact vg.row;rfl;exact RV.tmp rfl RV.nil) (L':=qo M2::L0) eG nul
 |true=>
  by_cases hz0:zb=[]
  ·subst hz0
   refine Q.r ?_;refine S.cr rfl (VU nv _ hno.rd hON hnu) ?_;rintro _ _ ⟨rfl,rfl⟩
   cases hR:qu nv.abs with
   |true=>
    have hC:J7 bs=0:=by rw[hCC,jb ⟨rfl,rfl,hR⟩]
    refine Q.r ?_;refine N.r2 (by apply RV.cellN;rfl;exact vg.row;rfl;exact RV.tmp rfl RV.nil) (L':=qo M2::L0) eG ⟨nv,M2,by rw[hC],?_,hno,hON,hl12,rfl⟩;unfold jAT;rw[jb hC,hRN]
   |false=>
    have hC:J7 bs=4:=by rw[hCC,ja (by simp[hR])]
    have nul:=nul M2 hl12 (by rw[hC];decide) _ rfl;rw[hC] at nul;refine Q.r ?_;exact N.r2 (by apply RV.cellN;rfl;exact vg.row;rfl;exact RV.tmp rfl RV.nil) (L':=qo M2::L0) eG nul
  ·have hC:J7 bs=4:=by rw[hCC,ja (by simp[hz0])]
   have hz1:0<zb.length:=kA.2 hz0;have nul:=nul M2 hl12 (by rw[hC];decide) _ rfl;rw[hC] at nul;refine Q.r ?_;exact N.r2 (by apply RV.cellN;rfl;exact vg.row;rfl;exact RV.tmp rfl RV.nil) (L':=qo M2::L0) eG nul
theorem nF.OkN {n:NV}(h:OkA n.abs):OkN n:=OkN.of h
def jFr (n:NA):List UInt8:=if qu n=true then qC n else []
theorem bu (n:NV)(M:OM)(L:HL)(hn:xt M n)(hc:nF n)(hA:OkA n.abs.few)(hu:xf n.abs.few):
  qh kY 9 [n.val] (qo M::L) (λr L'=>∃(v:YB) (M':OM),r=v.val∧v.bs=jFr n.abs.few∧wc M' v∧v.bs.length≤v.c∧qU M M'∧L'=qo M'::L):=by
 refine qg Tryz.func9 rfl rfl rfl ?_;refine Q.r ?_;(repeat (intro b1;refine Q.r ?_));refine S.cq (A:=qo M) (args:=[n.val]) rfl (tA n M _ hn hc) ?_;rintro _ _ ⟨n',M1,rfl,hl1,hn',hc',hoc',hab,rfl⟩;rw[←hab] at hA hu;refine S.cq (A:=qo M1) (args:=[n'.val]) rfl (dv n' M1 _ hn' (OkN.of hA) hu) ?_;rintro _ _ ⟨v,M2,rfl,hv,hvo,hvc,hl2,rfl⟩;refine Q.r ?_;exact N.t rfl (L':=qo M2::L) eG ⟨v,M2,rfl,by rw[hv,hab];rfl,hvo,hvc,hl1.trans hl2,rfl⟩
theorem nG (c pj g:Nat)(q:Nat)(s dim x:Int)(j:JG)(M:OM)(L:HL)(hT:yE M)(hB:xg M)(hw:WG j)(hn:j.tr.length≤100000)(hu:∀m∈XF j,OkA m.2∧xf m.2)(hl:(XF j).length≤1000000):
  qh kY 14 [Ks c] (wR c pj (wG g) q false::qE M pj j::Xq g s dim x::qo M::L)
   (λr L'=>∃(a:OA) (cc:Nat) (ls:List tB) (M':OM),r=.slice a ls.length cc∧ls.map jBv=Qz (XF j)∧jEX M' a ls∧qU M M'∧L'=wR c pj (wG g) q false::qE M' pj j::Xq g s dim x::qo M'::L):=by
 refine qg Tryz.func14 rfl rfl rfl ?_;refine Q.r ?_;refine S.c1 (A:=wR c pj (wG g) q false) rfl (dq c pj (wG g) q false _) ?_;rintro _ _ ⟨rfl,rfl⟩;refine Q.r ?_;refine vf (L':=wR c pj (wG g) q false::qE M pj j::Xq g s dim x::qo M::L) eG ?_;refine Q.dgo [true,false,false,false] [5,10,11,12] [] [0,1,2,3,4,6,7,8,9,5,10,11,12,13] ?_;refine Q.rd ?_;refine D.e rfl rfl rfl ?_;refine S.cg pj rfl (nf M pj j _ hw hn) ?_;rintro _ _ ⟨a1,c1,ms,M1,rfl,hl1,hmo,hma,rfl⟩;refine Q.r ?_;refine Q.rd ?_;refine D.e rfl rfl rfl ?_;refine S.c1 (A:=Xq g s dim x) rfl (gK g s dim x _) ?_;rintro _ _ ⟨rfl,rfl⟩;refine Q.r ?_;refine Q.rd ?_;refine D.e rfl rfl rfl ?_;have hml:ms.length≤1000000:=by rw[Wc hma];exact hl
 refine S.app (cs:=ms.flatMap vx) rfl rfl vA.nil zr zo zo (λa2 c2=> ?_);rw[jG,Nat.add_zero];refine qQ a2 (λM2 hl2 hs2=> ?_);have hl02:=hl1.trans hl2;refine vP pj hl2 ?_;refine Q.r ?_;refine Q.rd ?_;refine D.ea rfl rfl rfl ?_;refine qm (L':=wR c pj (wG g) q false::qo M2::qE M2 pj j::Xq g s dim x::L) eG ?_;have hu6:∀m∈ms,OkN m.2∧xf m.2.abs:=λm hm=>by
  have:=hu (Km m) (by rw[←hma];exact jA (f:=jDg) hm);exact ⟨OkN.of this.1,this.2⟩
 refine S.cr rfl (QS c pj (wG g) q false a2 c2 ms M2 _ ⟨hs2,λm hm=>(hmo m hm).mono hl2⟩ hu6 (hT.mono hl02) (hB.mono hl02) hml) ?_;rintro _ _ ⟨a7,c7,ls,M4,rfl,hls,hlo,hl4,rfl⟩;refine vP pj hl4 ?_;rw[show ms.map Km=XF j from hma] at hls;refine qm (L':=wR c pj (wG g) q false::qE M4 pj j::Xq g s dim x::qo M4::L) eG ?_;refine qO ?_;refine N.tn ?_;refine D.back ?_;refine Q.rd ?_;refine Q.r ?_;exact N.t rfl (L':=wR c pj (wG g) q false::qE M4 pj j::Xq g s dim x::qo M4::L) eG ⟨a7,c7,ls,M4,rfl,hls,hlo,hl02.trans hl4,rfl⟩
end Go.Proofs.YtlnfjhiphlfkjaaGreatDoor
namespace Go.Proofs.YtlnfjhiphlfkjaaGreatDoor
open Go Go.SX
def ldN :JG→List NA→Option JG
 |j,[]=>some j
 |j,n::ns=>if (n.kind=16∨n.kind=17∨n.kind=18)∧vm j n=0 then ldN (vC j n) ns else none
theorem jEl :∀(ns:List NA) (j:JG),(∀n∈ns,qu n=true∧xf n)→Vq j (vU ns)=ldN j ns
 | [],j,_=>rfl
 |n::ns,j,h=>by
  have h1:=h n kg;have h2:=XG h1.1 h1.2
  show (match YY (qC n) with
   |none=>none
   |some n=>if (n.kind=16∨n.kind=17∨n.kind=18)∧vm j n=0 then Vq (vC j n) (vU ns) else none)=_
  rw[h2];dsimp only;rw[jEl ns (vC j n) λm hm=>h m (jV _ hm)];rfl
theorem UO0 {s d:Int}(s1:1≤s)(s2:s≤4)(h1:1≤d)(h2:d≤8):UO (ww s d):=
 ⟨(WN0 h1 h2).pb,s1,s2,by show (xr (ww s d)).length≤8;rw[show xr (ww s d)=[] by kernel_rfl];decide,jw _,(λ_ h=>by cases h),λt ht=>by rw[show xr (ww s d)=[] by kernel_rfl] at ht;cases ht⟩
theorem pQ (s d:Int):JP (ww s d)=ww s d:=by kernel_rfl
theorem jFS {j0:JG}{s d:Int}(h:UO j0)(e1:j0.shards=s)(e2:j0.dim=d):Zq (ww s d) (qt j0)=0∧WX (ww s d) (qt j0)=JP j0:=by
 obtain ⟨a,b⟩:=jCL h;rw[e1,e2] at a b;obtain ⟨c,e⟩:=jAy (j:=ww s d) b (by rintro (h|h|h)<;>first|exact absurd h (Int.lt_irrefl _)|exact absurd h (Nat.lt_irrefl _));exact ⟨c,e.trans a⟩
theorem jHf (l:LJ)(hn:l.n<100)(hR:jBb l.R):xU l.d=0∧WJ l.d=l.s∧Vo l.d=l.R∧Vc l.d=l.z∧yj l.d=l.d:=by
 obtain ⟨o1,o2,o3,o4,o5⟩:=jGg l hn hR;refine ⟨o1,by unfold WJ;rw[o4];rfl,o5,?_,o2⟩
 show (⟨yj l.d,fw l.d,(Vo l.d).length,false⟩:JZ)=_
 rw[o2,o3,o5]
theorem LJ.fs (l:LJ):l.d.fs.length≠0:=by
 unfold LJ.d dJ;dsimp only
 split<;>simp
theorem jHz (s dim:Int)(l:LJ):JN s dim l.d=0∧mK s dim l.d=l.d:=⟨ja l.fs,ja l.fs⟩
structure LdK (s dim:Int)(l:LJ)(j0:JG)(ns:List NA)(jl:JG):Prop where
 n:l.n+2<100
 st:l.s=qt j0
 u:UO j0
 es:j0.shards=s
 ed:j0.dim=dim
 w:WN (JP j0)
 R:l.R=vU ns
 nk:∀n∈ns,qu n=true∧xf n
 nl:ns.length≤1000
 ld:ldN (JP j0) ns=some jl
 je:jl.epoch+1≤1099511627776
 jt:jl.tr.length≤1000
 jd:jl.done.length≤50000
 jp:(qt jl).length≤1048575
 sp:(qt j0).length≤100000
 okR:jBb l.R
theorem my {m:Int}(h0:0≤m)(h1:m≤1099511627776):(qC (qv m)).length≤26∧(qC (qv m)).length≠0:=by
 have e:xF (qv m)=numI 16++(numI m++[]):=by rw[KU];rfl
 have h2:(numI 16).length≤10:=qp zd;have h3:=qp (z:=m) zo;have h4:(frB (xF (qv m))).length=6+(xF (qv m)).length:=yf _;have h5:(xF (qv m)).length=(numI 16).length+(numI m).length:=by rw[e,jG,jc]
 unfold qC;omega
theorem Qg {p:List UInt8}(h:p.length≤4096)(h0:p.length≠0):n3 [p]=0:=by
 unfold n3 sN;rw[ja (by simpa using h0),ja (by simpa using h)]
theorem LdK.op {s dim:Int}{l:LJ}{j0:JG}{ns:List NA}{jl:JG}(h:LdK s dim l j0 ns jl)(h0:0≤jl.epoch):OpH s dim l.d∧VX (ww s dim) (WJ l.d) (Vo l.d)=0∧coJ s dim l.d=some jl∧xU l.d=0∧Vc l.d=l.z:=by
 have hn:=h.n;obtain ⟨o1,o2,o3,o4,o5⟩:=jHf l zo h.okR;obtain ⟨u1,u2⟩:=jFS h.u h.es h.ed;have hl:=jEl ns (JP j0) h.nk;have hj:coJ s dim l.d=some jl:=by unfold coJ;rw[o2,o3,h.st,h.R,u2,hl,h.ld]
 have he:=my (m:=jl.epoch+1) zo h.je;have hlo:VX (ww s dim) (WJ l.d) (Vo l.d)=0:=by
  unfold coJ at hj;unfold VX;rw[hj,o2,h.st,u1,ja zd,ja (by simp)]
 refine ⟨⟨jGu zo,λ_=>⟨by rw[o2,h.st];exact h.sp,?_,by rw[o3,h.R];unfold vU;rw[jf];have:=h.nl;omega,λ_=>by rw[o2,h.st,u2];exact h.w,λj _ hjj=> ?_⟩⟩,hlo,hj,o1,o4⟩
 ·rw[o3,h.R]
  intro r hr;obtain ⟨n,hn,rfl⟩:=jM.1 hr;have:=(Ju (h.nk n hn).1 (h.nk n hn).2).2;omega
 ·rw[hj] at hjj
  obtain rfl:=Option.some.inj hjj;refine ⟨h.je,h.jt,h.jd,h.jp,?_⟩;rw[o4];exact l.wr _ (Qg zo he.2) (by simp) zo (by rw[h.R];unfold vU;rw[jf];have:=h.nl;omega)
theorem jGx {room:Int}{s dim:Int}(hf:¬room<(wE (qt (ww s dim))).length):JN s dim (D0 room)=0∧mK s dim (D0 room)=(⟨room,0,qt (ww s dim),[]⟩:LJ).d:=by
 obtain ⟨a,b⟩:=jHs room (qt (ww s dim));refine ⟨by unfold JN;rw[jb (show (D0 room).fs.length=0 from rfl),a,ja hf],by unfold mK;rw[jb (show (D0 room).fs.length=0 from rfl),b hf];rfl⟩
theorem LdK.zero {room s dim:Int}(s1:1≤s)(s2:s≤4)(h1:1≤dim)(h2:dim≤8):LdK s dim ⟨room,0,qt (ww s dim),[]⟩ (ww s dim) [] (ww s dim):=by
 have hp:=VB s dim;refine ⟨by show 0+2<100;decide,rfl,UO0 s1 s2 h1 h2,rfl,rfl,by rw[pQ];exact WN0 h1 h2,rfl,(λ_ h=>by cases h),jw _,by rw[pQ];rfl,by show (0:Int)+1≤_;decide,jw _,jw _,by rw[hp];decide,by rw[hp];decide,λ_ h=>by cases h⟩
theorem V7 {j:JG}(hw:WN j)(htl:j.tr.length≤100000)(hdl:j.done.length≤100000):(qt j).length≤40+j.done.length*20+j.tr.length*80:=by
 have e1:=hw.g.b.e1;have l1:=hw.g.b.l1;have hdnl:(Jk j).length=j.done.length:=by unfold Jk;rw[jf,wW,jf]
 have h1:=qp (z:=j.epoch) zo;have h2:=qp (z:=j.last) zo;have h3:=qp (z:=(j.done.length:Int)) zo;have hcl:(xr j).length≤j.tr.length:=by
  unfold xr;refine ke (kw _ _) ?_;rw[(Zr hw.g.kt).length_eq,jf];exact jz _
 have h4:=qp (z:=((xr j).length:Int)) zo;have h5:((Jk j).flatMap packD).length≤(Jk j).length*20:=yg λd hd=>by
  obtain ⟨b,hb,rfl⟩:=jM.1 hd;obtain ⟨s,hs⟩:=pC hb hw.g.kd;have hm:=hw.d _ (Jb hs);refine ZC hm.2.1 ?_;dsimp only;rw[hs]
  show s≤_
  have:=hm.2.2;dsimp only at this;omega
 have h6:((xr j).flatMap wI).length≤(xr j).length*80:=yg λt ht=>rS hw (jCO hw (jB.1 ht).1)
 unfold qt QM;simp only[jc];omega
theorem bD (l:LJ)(s:List UInt8){ps:List (List UInt8)}(h1:n3 ps=0)(h2:ps≠[])(hf:¬l.room<l.used+(wO ps).length):VP l.z s ps=0∧Kd l.z s ps=({l with R:=l.R++ps}:LJ).z:=by
 obtain ⟨e1,e2⟩:=(jEp l h1 h2).2 hf;obtain ⟨w1,w2⟩:=jEt (s:=s) (by rw[e1];decide);rw[w1,w2,e1,e2];exact ⟨rfl,rfl⟩
theorem Qo (p:List UInt8):(wO [p]).length=6+p.length:=by
 unfold wO;rw[jL,kC,List.flatten_cons,List.flatten_nil,jG];exact yf p
theorem jBL (R:List (List UInt8))(p:List UInt8):(wO (R++[p])).length=(wO R).length+(6+p.length):=by
 rw[pw,jc,Qo]
abbrev aA :NA:={NA.zero with kind:=1,batch:=5,ops:=[(3,[9])]}
abbrev aT :TR:=⟨1048577,5,0,0,2,[1],[],[],[(3,[9])]⟩
abbrev aP :NA:={NA.zero with kind:=3,txn:=1048577,parts:=[1],ops:=[(3,[9])]}
abbrev aV :NA:={NA.zero with kind:=4,txn:=1048577}
abbrev aC :NA:={NA.zero with kind:=17,txn:=1048577,batch:=5,stamp:=1,parts:=[1]}
abbrev aD :NA:={NA.zero with kind:=5,txn:=1048577,stamp:=1}
abbrev aR :NA:={NA.zero with kind:=2,batch:=5,stamp:=1}
abbrev aG :NA:={NA.zero with kind:=22,txn:=1048577}
abbrev aX :NA:={NA.zero with kind:=5,txn:=1048577,code:=8}
abbrev aY :NA:={NA.zero with kind:=2,batch:=5,code:=8}
abbrev dK :JG:=⟨1,1,1,0,0,[],[]⟩
abbrev lj :JG:=⟨1,1,1,1,0,[(1048577,aT)],[]⟩
abbrev aJ5 :JG:=⟨1,1,1,0,1,[(1048577,⟨1048577,5,1,0,0,[1],[],[],[]⟩)],[(5,1)]⟩
abbrev aJ6 :JG:=⟨1,1,2,0,1,[(1048577,⟨1048577,5,1,0,0,[1],[],[],[]⟩)],[(5,1)]⟩
theorem aw1 :vC (ww 1 1) (qv 1)=dK:=by kernel_rfl
theorem aw2 :xW dK 2 aA=⟨[],[yD aT],[(1,aP)],[],[]⟩:=by kernel_rfl
theorem aw3 :xB dK [yD aT]=lj:=by kernel_rfl
theorem aw4 :xW lj 1 aV=⟨[aC],[],[(1,aD),(2,aR)],[aG],[(1,aX),(2,aY)]⟩:=by kernel_rfl
theorem aw6 :ldN (ww 1 1) [qv 1,aC]=some aJ5:=by kernel_rfl
theorem aw7 :vC aJ5 (qv 2)=aJ6:=by kernel_rfl
theorem aw8 :Qz (XF aJ6)=[(1,qC aD)]:=by kernel_rfl
theorem yL {n:NA}(h:n.ops=[]∨n.ops=[(3,[9])])(hh:n.hits=[])(a:yF n):xf n:=⟨a,λo ho=>by
 rcases h with h|h
 ·rw[h] at ho;cases ho
 ·rw[h] at ho;rw[ji.1 ho];decide,λo ho=>by rw[hh] at ho;cases ho⟩
theorem yM {n:NA}(h:decide (0≤n.kind∧n.kind≤255)&&decide (0≤n.txn∧n.txn≤18446744073709551615)&&decide (0≤n.batch∧n.batch≤18446744073709551615)&&decide (0≤n.stamp∧n.stamp≤18446744073709551615)&&decide (0≤n.after∧n.after≤18446744073709551615)&&decide (0≤n.mark∧n.mark≤18446744073709551615)&&decide (0≤n.query∧n.query≤18446744073709551615)&&decide (0≤n.id∧n.id≤18446744073709551615)&&decide (n.k≤9223372036854775807)&&decide (n.ef≤9223372036854775807)&&decide (n.code≤9223372036854775807)&&decide (n.who≤9223372036854775807)=true):yF n:=by
 simp only[jF,jS] at h;obtain ⟨⟨⟨⟨⟨⟨⟨⟨⟨⟨⟨h1,h2⟩,h3⟩,h4⟩,h5⟩,h6⟩,h7⟩,h8⟩,h9⟩,h10⟩,h11⟩,h12⟩:=h;exact ⟨h1,h2,h3,h4,h5,h6,h7,h8,h9,h10,h11,h12⟩
theorem awA :qu aA=true∧xf aA:=⟨by kernel_rfl,yL (.inr rfl) rfl (yM zk)⟩
theorem awB :qu (yD aT)=true∧xf (yD aT):=⟨by kernel_rfl,yL (.inr rfl) rfl (yM zk)⟩
theorem awP :qu aP=true∧xf aP:=⟨by kernel_rfl,yL (.inr rfl) rfl (yM zk)⟩
theorem awV :qu aV=true∧xf aV:=⟨by kernel_rfl,yL (.inl rfl) rfl (yM zk)⟩
theorem awC :qu aC=true∧xf aC:=⟨by kernel_rfl,yL (.inl rfl) rfl (yM zk)⟩
theorem awD :qu aD=true∧xf aD:=⟨by kernel_rfl,yL (.inl rfl) rfl (yM zk)⟩
theorem awR :qu aR=true∧xf aR:=⟨by kernel_rfl,yL (.inl rfl) rfl (yM zk)⟩
theorem awG :qu aG=true∧xf aG:=⟨by kernel_rfl,yL (.inl rfl) rfl (yM zk)⟩
theorem wn1 :WN dK:=by rw[←aw1];exact (WN0 zd zd).app (yQ (m:=1) zd zd).2.a
theorem wn2 :WN lj:=by
 have:=wn1.app awB.2.a;rw[show vC dK (yD aT)=lj from aw3] at this;exact this
theorem wn5 :WN aJ5:=by
 have:=wn1.app awC.2.a;rw[show vC dK aC=aJ5 by kernel_rfl] at this;exact this
theorem wn6 :WN aJ6:=by
 have:=wn5.app (yQ (m:=2) zd zd).2.a;rw[aw7] at this;exact this
attribute [local irreducible] swp qq qM qL vX qh St qi qk vu qG
abbrev epL (j:JG):List (List UInt8):=[qC (qv (j.epoch+1))]
def jHy (p:Nat)(s dim:Int)(l:LJ)(jl:JG)(M:OM)(L:HL)(r:Value)(L':HL):Prop:=
 ∃ M',qU M M' ∧ ((VP l.z (qt jl) (epL jl) ≠ 0 ∧ r = .tuple #[wD,.int .i64 (VP l.z (qt jl) (epL jl))] ∧ L' = qr p (Kd l.z (qt jl) (epL jl)).d :: qo M' :: L) ∨
  (VP l.z (qt jl) (epL jl) = 0 ∧ WN jl ∧ ∃ c pj q g x,r = .tuple #[Ks c,.int .i64 0] ∧
   L'=yW p q (Kd l.z (qt jl) (epL jl)) M' (wR c pj (wG g) q (Kd l.z (qt jl) (epL jl)).br::qE M' pj (vC jl (qv (jl.epoch+1)))::Xq g s dim x::L)))
theorem Qb (p:Nat)(s dim:Int)(d:DK)(l:LJ)(j0:JG)(ns:List NA)(jl:JG)(M:OM)(L:HL)(s1:1≤s)(s2:s≤4)(h1:1≤dim)(h2:dim≤8)(hT:yE M)(hB:xg M)(hE:Vm M)
  (hd:JN s dim d=0∧mK s dim d=l.d) (h:LdK s dim l j0 ns jl) (h0:0≤jl.epoch):
  qh kY 7 [qK p,.int .i64 s,.int .i64 dim] (qr p d::qo M::L) (jHy p s dim l jl M L):=by
 obtain ⟨o1,o2,o3,o4,o5⟩:=h.op h0;have hS:=YR p s dim d M L s1 s2 h1 h2 hT hB hE (λ_=>by rw[hd.2];exact o1);rw[hd.2] at hS;refine qh.mono hS ?_;rintro r L' ⟨M',hl,⟨e,d',he,hno,hr,hL⟩|⟨j,c,pj,q,g,x,_,_,_,hj,hw,_,_,hcw,hr,hL⟩⟩
 ·rcases hno with ⟨a,_⟩|⟨_,a,_⟩|⟨_,_,a,_⟩|⟨_,_,_,j,hj,hcw,e1,e2⟩
  ·exact absurd hd.1 a
  ·exact absurd o4 a
  ·exact absurd o2 a
  ·rw[o3] at hj
   obtain rfl:=Option.some.inj hj;rw[o5] at hcw e1 e2;subst e1 e2;exact ⟨M',hl,.inl ⟨hcw,hr,hL⟩⟩
 ·rw[o3] at hj
  obtain rfl:=Option.some.inj hj;rw[o5] at hcw hL;exact ⟨M',hl,.inr ⟨hcw,hw,c,pj,q,g,x,hr,hL⟩⟩
theorem jDY (s dim:Int)(L:HL)(h:¬(1≤s∧s≤4∧1≤dim∧dim≤8)):
  qh kY 23 [.int .i64 s,.int .i64 dim] L (λr L'=>r=.tuple #[wD,.int .i64 1]∧L'=L):=by
 refine qg Tryz.func23 rfl rfl rfl ?_
 by_cases a:s<1
 ·refine Q.r ?_
  exact N.u rfl rfl (kZ _) ⟨rfl,rfl⟩
 by_cases b:4<s
 ·refine Q.r ?_
  exact N.u rfl rfl (kZ _) ⟨rfl,rfl⟩
 by_cases c:dim<1
 ·refine Q.r ?_
  exact N.u rfl rfl (kZ _) ⟨rfl,rfl⟩
 have d:8<dim:=by omega
 refine Q.r ?_;exact N.u rfl rfl (kZ _) ⟨rfl,rfl⟩
theorem nH (s dim:Int)(M:OM)(L:HL)(s1:1≤s)(s2:s≤4)(h1:1≤dim)(h2:dim≤8):
  qh kY 7 [wD,.int .i64 s,.int .i64 dim] L (λr L'=>r=.tuple #[wD,.int .i64 6]∧L'=L):=by
 refine qg Tryz.func7 rfl rfl rfl ?_;refine Q.r ?_;refine S.cr rfl (Qt M s dim _ s1 s2 h1 h2) ?_;rintro _ _ ⟨pj,rfl,rfl⟩;refine Q.r ?_;exact N.u rfl rfl (L':=L) eG ⟨rfl,rfl⟩
theorem tW (v:Value)(s dim:Int)(L:HL)(h:¬(1≤s∧s≤4∧1≤dim∧dim≤8)):
  qh kY 7 [v,.int .i64 s,.int .i64 dim] L (λr L'=>r=.tuple #[wD,.int .i64 1]∧L'=L):=by
 refine qg Tryz.func7 rfl rfl rfl ?_;refine Q.r ?_;refine S.cr rfl (jDY s dim _ h) ?_;rintro _ _ ⟨rfl,rfl⟩;refine Q.r ?_;exact N.u rfl rfl (kZ _) ⟨rfl,rfl⟩
abbrev aL0 :LJ:=⟨10000,0,qt (ww 1 1),[]⟩
abbrev aL1 :LJ:=⟨10000,0,qt (ww 1 1),[qC (qv 1)]⟩
abbrev aL2 :LJ:=⟨10000,0,qt (ww 1 1),[qC (qv 1),qC aC]⟩
abbrev aL3 :LJ:=⟨10000,0,qt (ww 1 1),[qC (qv 1),qC aC,qC (qv 2)]⟩
theorem jFq (t b z:Int)(ps:List Int):xF {NA.zero with kind:=17,txn:=t,batch:=b,stamp:=z,parts:=ps}=numI 17++(numI t++(numI b++(numI z++((numI (ps.length:Int)++ps.flatMap numI)++[])))):=by rw[KU];rfl
theorem jFp {t b z:Int}{ps:List Int}(h1:t≤18446744073709551615)(h2:b≤18446744073709551615)(h3:z≤1099511627776)(h4:ps.length≤4)(h5:∀q∈ps,q≤18446744073709551615):(qC {NA.zero with kind:=17,txn:=t,batch:=b,stamp:=z,parts:=ps}).length≤100∧(qC {NA.zero with kind:=17,txn:=t,batch:=b,stamp:=z,parts:=ps}).length≠0:=by
 have e:=jFq t b z ps;have k1:(numI 17).length≤10:=qp zd;have k2:=qp h1;have k3:=qp h2;have k4:=qp (z:=z) zo;have k5:=qp (z:=(ps.length:Int)) zo;have k6:(ps.flatMap numI).length≤ps.length*10:=yg λq hq=>qp (h5 q hq)
 have h7:=yf (xF {NA.zero with kind:=17,txn:=t,batch:=b,stamp:=z,parts:=ps});rw[e] at h7;simp only[jc,j7] at h7;unfold qC;rw[e];omega
theorem dk :(qC aC).length≤100∧(qC aC).length≠0:=jFp zd zd zd zd (λq hq=>by rw[ji.1 hq];decide)
theorem jAw (R:List (List UInt8)):(⟨10000,0,qt (ww 1 1),R⟩:LJ).used≤34+(wO R).length:=by
 have h:=Vt (qt (ww 1 1));rw[VB] at h
 show (wE (qt (ww 1 1))).length+(wO R).length≤_
 rw[VB];have:([0,0,0,0]:List UInt8).length=4:=rfl;omega
theorem Xw :(qC (qv 1)).length≤26∧(qC (qv 1)).length≠0:=my zd zd
theorem jDx :(qC (qv 2)).length≤26∧(qC (qv 2)).length≠0:=my zd zd
theorem jBM :(wO []).length=0:=rfl
theorem fU :(wO [qC (qv 1)]).length≤32:=by rw[Qo];have:=Xw.1;omega
theorem jDt :(wO [qC (qv 1),qC aC]).length≤138:=by
 have:=jBL [qC (qv 1)] (qC aC);have h2:=fU;have h3:=dk.1;rw[show [qC (qv 1),qC aC]=[qC (qv 1)]++[qC aC] from rfl];omega
theorem jEw :VP aL0.z (qt (ww 1 1)) (epL (ww 1 1))=0∧Kd aL0.z (qt (ww 1 1)) (epL (ww 1 1))=aL1.z:=by
 have h:=Xw;have hu:aL0.used≤34+(wO []).length:=jAw [];have h1:=Qo (qC (qv 1));have hz:=jBM;exact bD aL0 _ (ps:=[qC (qv 1)]) (Qg zo h.2) (List.cons_ne_nil _ _) (by show ¬(10000:Int)<((aL0.used+(wO [qC (qv 1)]).length:Nat):Int);omega)
theorem jCj :VP aL1.z (qt lj) [qC aC]=0∧Kd aL1.z (qt lj) [qC aC]=aL2.z:=by
 have h:=dk;have hu:aL1.used≤34+(wO [qC (qv 1)]).length:=jAw [qC (qv 1)];have h1:=Qo (qC aC);have h2:=fU;exact bD aL1 _ (ps:=[qC aC]) (Qg zo h.2) (List.cons_ne_nil _ _) (by show ¬(10000:Int)<((aL1.used+(wO [qC aC]).length:Nat):Int);omega)
theorem jEv :VP aL2.z (qt aJ5) (epL aJ5)=0∧Kd aL2.z (qt aJ5) (epL aJ5)=aL3.z:=by
 have h:=jDx;have hu:aL2.used≤34+(wO [qC (qv 1),qC aC]).length:=jAw [qC (qv 1),qC aC];have h1:=Qo (qC (qv 2));have h2:=jDt;exact bD aL2 _ (ps:=[qC (qv 2)]) (Qg zo h.2) (List.cons_ne_nil _ _) (by show ¬(10000:Int)<((aL2.used+(wO [qC (qv 2)]).length:Nat):Int);omega)
theorem jGI :JN 1 1 (D0 10000)=0∧mK 1 1 (D0 10000)=aL0.d:=jGx (by
 have h:=Vt (qt (ww 1 1));rw[VB] at h ⊢;have:([0,0,0,0]:List UInt8).length=4:=rfl;omega)
theorem jGF :LdK 1 1 aL2 (ww 1 1) [qv 1,aC] aJ5:=by
 have hp:=VB 1 1;have h1:=Xw;have h2:=dk;have hg:=V7 wn5 zd zd;refine ⟨by show 0+2<100;decide,rfl,UO0 zd zd zd zd,rfl,rfl,by rw[pQ];exact WN0 zd zd,rfl,λn hn=> ?_,by decide,by rw[pQ];exact aw6,by decide,by decide,by decide,ke hg zd,by rw[hp];decide,λx hx=> ?_⟩
 ·rcases j9.1 hn with rfl|hn
  ·exact yQ zd zd
  ·rw[ji.1 hn];exact awC
 ·rcases j9.1 hx with rfl|hx
  ·exact ⟨by omega,h1.2⟩
  ·rw[ji.1 hx];exact ⟨by omega,h2.2⟩
theorem yy {α:Type}{p:α→Prop}{x:α}(h:p x):∀y∈[x],p y:=λy hy=>by rw[ji.1 hy];exact h
theorem cx {α:Type}{p:α→Prop}:∀y∈([]:List α),p y:=λy hy=>by cases hy
theorem jGH :DoK aL1.z dK ⟨[],[yD aT],[(1,aP)],[],[]⟩:=by
 have hg:=V7 wn1 zd zd;exact ⟨wn1,by decide,by decide,cx,yy awB,cx,by decide,by show 1≤1000;decide,by decide,λh=>absurd rfl h,ke hg zd,λ_ h=>absurd h (by show ¬24≤1;decide)⟩
theorem jGG :DoK aL1.z lj ⟨[aC],[],[(1,aD),(2,aR)],[aG],[(1,aX),(2,aY)]⟩:=by
 have hg:=V7 wn2 zd zd;have h2:=dk;refine ⟨wn2,by decide,by decide,yy awC,cx,yy awG,by decide,by decide,by decide,λh=>aL1.wr _ (ps:=[qC aC]) (Qg zo h2.2) (List.cons_ne_nil _ _) (by show 0+1<100;decide) (by show 1≤1000000;decide),ke hg zd,λhF h=>absurd h ?_⟩;unfold JK;rw[ja (by simp),show vU [aC]=[qC aC] from rfl,jCj.2]
 show ¬24≤2
 decide
theorem pR :¬doF aL1.z dK ⟨[],[yD aT],[(1,aP)],[],[]⟩:=λh=>h.1 rfl
theorem Z1 :lh aL1.z dK ⟨[],[yD aT],[(1,aP)],[],[]⟩=aL1.z∧doJ aL1.z dK ⟨[],[yD aT],[(1,aP)],[],[]⟩=lj∧mA aL1.z dK false ⟨[],[yD aT],[(1,aP)],[],[]⟩=false∧doM aL1.z dK ⟨[],[yD aT],[(1,aP)],[],[]⟩=[(1,aP)]:=by
 have ht:JK aL1.z dK ⟨[],[yD aT],[(1,aP)],[],[]⟩=aL1.z:=jb rfl;have hk:¬24≤aL1.z.k:=by show ¬24≤1;decide
 refine ⟨?_,?_,?_,ja pR⟩
 ·unfold lh;rw[ja pR,ht,ja hk]
 ·unfold doJ Y7;rw[ja pR];exact aw3
 ·unfold mA;rw[ja pR,ht,ja hk];exact jb rfl
theorem jEx :¬doF aL1.z lj ⟨[aC],[],[(1,aD),(2,aR)],[aG],[(1,aX),(2,aY)]⟩:=λh=>h.2 jCj.1
theorem pT :lh aL1.z lj ⟨[aC],[],[(1,aD),(2,aR)],[aG],[(1,aX),(2,aY)]⟩=aL2.z∧doM aL1.z lj ⟨[aC],[],[(1,aD),(2,aR)],[aG],[(1,aX),(2,aY)]⟩=[(1,aD),(2,aR)]:=by
 have ht:JK aL1.z lj ⟨[aC],[],[(1,aD),(2,aR)],[aG],[(1,aX),(2,aY)]⟩=aL2.z:=by unfold JK;rw[ja (by simp)];exact jCj.2
 have hk:¬24≤aL2.z.k:=by show ¬24≤2;decide
 refine ⟨?_,ja jEx⟩;unfold lh;rw[ja jEx,ht,ja hk]
end Go.Proofs.YtlnfjhiphlfkjaaGreatDoor
