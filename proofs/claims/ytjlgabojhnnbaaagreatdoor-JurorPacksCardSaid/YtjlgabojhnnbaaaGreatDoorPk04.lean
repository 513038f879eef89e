/- The scroll's writer: numbers, vectors, bytes. The vault: its state; holder, Blocked, open. The vault: copyOf, New, Lock. The vault: Apply, Free. maps.Keys at maps with keys of type uint64, walked. slices.Sort's parts at numbers of type uint64, walked: cmp.Less, insertionSort. slices.Sort's parts at numbers of type uint64, walked: siftDown, heapSort. slices.Sort's parts at numbers of type uint64, walked: heapSort, reverseRange. slices.Sort's parts at numbers of type uint64, walked: partition.  By a program (wip/gen/srt.py). slices.Sort's parts at numbers of type uint64, walked: partitionEqual.  By a program (wip/gen/srt.py). slices.Sort's parts at numbers of type uint64, walked: partialInsertionSort. slices.Sort's parts at numbers of type uint64, walked: the pivot. slices.Sort's parts at numbers of type uint64, walked: bits.Len, breakPatterns. slices.Sort's parts at numbers of type uint64, walked: breakPatterns. slices.Sort's parts at numbers of type uint64, walked: pdqsort. No condition. -/
import Derived.Sort.LotD1
import Derived.Sort.AssemblyPlain
import Derived.Test.YtjlgabojhnnbaaaGreatDoorPk03
set_option linter.unusedVariables false
set_option linter.unusedSimpArgs false
set_option linter.unusedSectionVars false
set_option maxHeartbeats 20000000
namespace Go.SX
open Go
section
variable {P : Program} {n : Nat} {ops rest : List Oper} {Q : Post} {f : Env} {A L : HL} {d : Tmp} {ty : TypeId} {pos : String} {af : Array Edge}
theorem Y.or {x y:Operand}{t t':TypeId}{k:IntKind}{a b:Int}(hx:ev f x=some (.int k a))(hy:ev f y=some (.int k b)):YieldS P n ops ⟨some d,.binOp .or t x y t',ty,pos,af,none⟩ f A ((.int k (k.wrap ((BitVec.ofInt k.bits a)|||(BitVec.ofInt k.bits b)).toNat))):=Y.of (λ_ w s=>by simp[execOp,s.eval hx,s.eval hy,eqGuard,binOp,Op.intBits])
theorem Y.shrI {x y:Operand}{t t':TypeId}{k k':IntKind}{a:Int}{b:Nat}(hx:ev f x=some (.int k a))(hy:ev f y=some (.int k' (b:Int)))(hb:b≤k.bits):YieldS P n ops ⟨some d,.binOp .shr t x y t',ty,pos,af,none⟩ f A (.int k (a.fdiv (2^b))):=
 Y.of (fun _ w s => by
  have e1:¬((b:Int)<0):=by omega
  have e2:Min.min b k.bits=b:=Nat.min_eq_left hb
  simp[execOp,s.eval hx,s.eval hy,eqGuard,binOp,Op.shift,e1,e2])
theorem Y.shlI {x y:Operand}{t t':TypeId}{k k':IntKind}{a:Int}{b:Nat}(hx:ev f x=some (.int k a))(hy:ev f y=some (.int k' (b:Int)))(hb:b≤k.bits):YieldS P n ops ⟨some d,.binOp .shl t x y t',ty,pos,af,none⟩ f A (.int k (k.wrap (a*2^b))):=
 Y.of (fun _ w s => by
  have e1:¬((b:Int)<0):=by omega
  have e2:Min.min b k.bits=b:=Nat.min_eq_left hb;have e4:(Op.shift .shl k a k' (b:Int)).run P w=.ok (.int k (k.wrap (a*2^b))) w:=by
   unfold Op.shift;rw[if_neg e1];simp only[Int.toNat_natCast,e2,Sem.run_pure]
  simp[execOp,s.eval hx,s.eval hy,eqGuard,binOp,e4])
end
end Go.SX
namespace Go.Proofs.YtjlgabojhnnbaaaGreatDoor
open Go Go.SX
attribute [local irreducible] swp opsS thenS blockS retS CallsS St Ent YieldS anyS drawS
def numB (n:Nat):List UInt8:=if h:n<128 then [UInt8.ofNat n] else UInt8.ofNat (n % 128+128)::numB (n / 128)
termination_by n
theorem numB_lo {n:Nat}(h:n<128):numB n=[UInt8.ofNat n]:=by rw[numB,dif_pos h]
theorem numB_hi {n:Nat}(h:¬n<128):numB n=UInt8.ofNat (n % 128+128)::numB (n / 128):=by rw[numB,dif_neg h]
def numI (z:Int):List UInt8:=if z<0 then [UInt8.ofNat (z % 256).toNat] else numB z.toNat
abbrev wP (w:Nat)(a:OA)(n c:Nat):HP:=pt w (cl [.slice a n c] 113)
def wH (w:Nat)(bs:List UInt8):HP:=exH λx:OA×Nat=>allH [wP w x.1 bs.length x.2,slO 5 1 x.1 bs.length x.2 (bs.map B)]
theorem wH_shut {w:Nat}{a:OA}{c:Nat}{bs:List UInt8}{L:HL}:Ent (wP w a bs.length c::slO 5 1 a bs.length c (bs.map B)::L) (wH w bs::L):=
 Ent.trans (Ent.shut_all (L:=[_,_])) (Ent.shut_ex (P:=λx:OA×Nat=>allH [wP w x.1 bs.length x.2,slO 5 1 x.1 bs.length x.2 (bs.map B)]) (a,c))
theorem calls_w {g:FuncId}{args:List Value}{R:Value→HL→Prop}{w:Nat}{bs:List UInt8}{L:HL}(h:∀a c,CallsS Tryz.prog g args (wP w a bs.length c::slO 5 1 a bs.length c (bs.map B)::L) R):CallsS Tryz.prog g args (wH w bs::L) R:=
 CallsS.ex λx=>CallsS.all (h x.1 x.2)
theorem u8w (z:Int):IntKind.u8.wrap z=z % 256:=by simp[IntKind.wrap,IntKind.bits,IntKind.signed]
set_option maxRecDepth 100000 in
theorem u8or (m:Nat):IntKind.u8.wrap (((BitVec.ofInt IntKind.u8.bits (IntKind.u8.wrap (m:Int)))|||(BitVec.ofInt IntKind.u8.bits 128)).toNat:Int)=((UInt8.ofNat (m % 128+128)).toNat:Int):=by
 have e1:IntKind.u8.wrap (m:Int)=((m % 256:Nat):Int):=by
  rw[u8w];norm_cast
 have e2:m % 128=m % 256 % 128:=by omega
 rw[e1,e2];have hlt:m % 256<256:=Nat.mod_lt _ zd;generalize m % 256=x at hlt
 show IntKind.u8.wrap (((BitVec.ofInt 8 (x:Int))|||(BitVec.ofInt 8 128)).toNat:Int)=_
 rw[BitVec.toNat_or,show (BitVec.ofInt 8 (x:Int)).toNat=x by simp;omega,show (BitVec.ofInt 8 128).toNat=128 by decide];have e3:x|||128=x % 128+128:=(by decide:∀x,x<256→x|||128=x % 128+128) x hlt
 rw[e3,wrap_u8 zo zo,UInt8.toNat_ofNat'];omega
theorem u8lo (z:Int):IntKind.u8.wrap z=((UInt8.ofNat (z % 256).toNat).toNat:Int):=by
 rw[u8w,UInt8.toNat_ofNat'];omega
theorem numI_lo {z:Int}(h:z<128):numI z=[UInt8.ofNat (z % 256).toNat]:=by
 unfold numI
 split
 ·rfl
 ·rw[numB_lo zo]
  have:(z % 256).toNat=z.toNat:=by omega
  rw[this]
theorem numI_hi {m:Nat}(h:128≤m):numI (m:Int)=UInt8.ofNat (m % 128+128)::numI ((m / 2^7:Nat):Int):=by
 unfold numI;rw[if_neg zo,if_neg zo,Int.toNat_natCast,Int.toNat_natCast,numB_hi zo]
theorem numB_len :∀(k n:Nat),n<128^(k+1)→(numB n).length≤k+1
 |0,n,h=>by rw[numB_lo (by simpa using h)];simp
 |k+1,n,h=>by
  by_cases hl:n<128
  ·rw[numB_lo hl];simp
  ·rw[numB_hi hl,List.length_cons]
   have h2:n / 128<128^(k+1):=by
    rw[Nat.div_lt_iff_lt_mul zd];rw[Nat.pow_succ] at h;exact h
   have:=numB_len k (n / 128) h2;omega
theorem numI_len {z:Int}(h:z≤18446744073709551615):(numI z).length≤10:=by
  unfold numI
  split
  · simp
  · exact numB_len 9 _ (by have : (128 : Nat) ^ (9 + 1) = 1180591620717411303424 := by decide
                           rw[this];omega)
theorem B_one (xs:List UInt8):(xs.map B).all (·.oneCell')=true:=by simp[B,Value.oneCell']
theorem wnum_spec (w:Nat)(bs:List UInt8)(z:Int)(L:HL)(hb:bs.length≤100000000000000)(hz:z≤18446744073709551615):
  CallsS Tryz.prog 107 [.pointer (some ⟨w,0,none⟩),.int .u64 z] (wH w bs::L) (λr L'=>r=.tuple #[]∧L'=wH w (bs++numI z)::L):=by
 refine calls_w λa c=> ?_
 have hnl:=numI_len hz;refine CallsS.of_body Tryz.func107 rfl rfl rfl ?_;refine Q.r ?_;refine swp_cutB (σ:=Int×List UInt8×OA×Nat) (λs=> [(0,.pointer (some ⟨w,0,none⟩)),(1,.int .u64 s.1)]) (λs=>wP w s.2.2.1 s.2.1.length s.2.2.2::slO 5 1 s.2.2.1 s.2.1.length s.2.2.2 (s.2.1.map B)::L)
  (λs=>s.2.1++numI s.1=bs++numI z∧s.1<128∧s.2.1.length≤100000000000010) ?_ ?_
 ·refine swp_loop (σ:=Int×List UInt8×OA×Nat) (λs=> [(0,.pointer (some ⟨w,0,none⟩)),(1,.int .u64 s.1)]) (λs=>wP w s.2.2.1 s.2.1.length s.2.2.2::slO 5 1 s.2.2.1 s.2.1.length s.2.2.2 (s.2.1.map B)::L)
   (λs=>s.2.1++numI s.1=bs++numI z) (λs=>s.1.toNat) (z,bs,a,c) zt (Ent.refl _) rfl ?_
  rintro ⟨y,us,a2,c2⟩ he;dsimp only at he ⊢;have hul:us.length≤100000000000010:=by
   have:=congrArg List.length he;rw[List.length_append,List.length_append] at this;omega
  by_cases h:128≤y
  ·obtain ⟨m,rfl⟩:∃m:Nat,y=(m:Int):=⟨y.toNat,by omega⟩
   refine Q.r ?_;refine S.y (Y.cvi rfl) ?_;refine S.y (Y.or rfl rfl) ?_;rw[u8or];refine Q.r ?_;(repeat (intro b1;refine Q.r ?_));refine S.app rfl rfl (SrcS.sl RdC.row zr zr) zr zo zo (λa7 c7=> ?_);refine Q.r ?_;refine S.y (Y.shr rfl rfl zd) ?_;refine Q.r ?_;refine ⟨(((m / 2^7:Nat):Int),us++[UInt8.ofNat (m % 128+128)],a7,c7),zt,?_,?_,?_⟩
   ·dsimp only
    rw[len_snoc,List.map_append];exact eG
   ·dsimp only
    rw[←he,numI_hi (m:=m) zo,List.append_assoc];rfl
   ·dsimp only
    have:m / 2^7<m:=Nat.div_lt_self zo zd;omega
  ·refine Q.r ?_
   exact ⟨(y,us,a2,c2),zt,Ent.refl _,he,by dsimp only;omega,hul⟩
 ·rintro ⟨y,us,a2,c2⟩ ⟨he,hy,hul⟩
  dsimp only at he hy hul ⊢;refine Q.r ?_;refine S.y (Y.cvi rfl) ?_;rw[u8lo];refine Q.r ?_;(repeat (intro b1;refine Q.r ?_));refine S.app rfl rfl (SrcS.sl RdC.row zr zr) zr zo zo (λa7 c7=> ?_);refine Q.r ?_;refine N.n0 RV.nil ?_ ⟨rfl,rfl⟩;rw[←he,numI_lo hy];refine Ent.trans ?_ (wH_shut (a:=a7) (c:=c7));rw[len_snoc,List.map_append];exact eG
theorem wNums_spec (w:Nat)(bs:List UInt8)(a:OA)(c:Nat)(xs:List Int)(L:HL)(h:RdS L a xs.length 1 (xs.map U64))(hz:∀z∈xs,z≤18446744073709551615)(hb:bs.length+10*xs.length≤100000000000000):
  CallsS Tryz.prog 40 [.pointer (some ⟨w,0,none⟩),.slice a xs.length c] (wH w bs::L) (λr L'=>r=.pointer (some ⟨w,0,none⟩)∧L'=wH w (bs++xs.flatMap numI)::L):=by
 refine CallsS.of_body Tryz.func40 rfl rfl rfl ?_;refine Q.r ?_;refine swp_cutB (σ:=Unit) (λ_=> [(0,.pointer (some ⟨w,0,none⟩))]) (λ_=>wH w (bs++xs.flatMap numI)::L) (λ_=>True) ?_ ?_
 ·refine swp_loop (σ:=Nat) (λk=> [(0,.pointer (some ⟨w,0,none⟩)),(9,.slice a xs.length c),(10,.int .i64 xs.length),(11,.int .i64 k)]) (λk=>wH w (bs++(xs.take k).flatMap numI)::L)
   (λk=>k≤xs.length) (λk=>xs.length - k) 0 zt (by simp only[List.take_zero,List.flatMap_nil,List.append_nil];exact Ent.refl _) zo ?_
  intro k hk;have hll:∀k,k≤xs.length→((xs.take k).flatMap numI).length≤10*k:=λk=>by
   induction k with
   |zero=>intro _;simp
   |succ k ih=>
    intro hk;obtain ⟨z,hz1⟩:=mem_get (l:=xs) (k:=k) zo;rw[take_snoc hz1,List.flatMap_append,List.length_append];have:=ih zo;have:=numI_len (hz z (List.mem_of_getElem? hz1));simp only[List.flatMap_cons,List.flatMap_nil,List.append_nil];omega
  by_cases hlt:k<xs.length
  ·obtain ⟨z,hz1⟩:=mem_get hlt
   have hzl:=hz z (List.mem_of_getElem? hz1);have hrs:RdS (wH w (bs++(xs.take k).flatMap numI)::L) a xs.length 1 (xs.flatMap cU):=by rw[flat_U];exact h.sub
   obtain ⟨b,o,hia,hr⟩:=RdS.elem (g:=cU) (λ_=>rfl) hrs hz1 rfl;clear hrs;rw[hia];have:=hll k hk;refine Q.r ?_;refine S.cr rfl (wnum_spec w _ z _ (by rw[List.length_append];omega) hzl) ?_;rintro _ _ ⟨rfl,rfl⟩;refine Q.r ?_;refine ⟨k+1,zt,?_,by omega,by omega⟩;rw[take_snoc hz1,List.flatMap_append,List.append_assoc];simp only[List.flatMap_cons,List.flatMap_nil,List.append_nil];exact Ent.refl _
  ·have hke:k=xs.length:=by omega
   subst hke;rw[List.take_length];refine Q.r ?_;exact ⟨(),zt,Ent.refl _,trivial⟩
 ·rintro _ _
  refine Q.r ?_;exact N.t rfl (Ent.refl _) ⟨rfl,rfl⟩
def zzI (n:Int):Int:=IntKind.u64.wrap (IntKind.u32.wrap (((BitVec.ofInt IntKind.u32.bits (IntKind.u32.wrap (IntKind.i32.wrap (n*2^1))))^^^(BitVec.ofInt IntKind.u32.bits (IntKind.u32.wrap (n.fdiv (2^31))))).toNat:Int))
theorem u64_le (z:Int):IntKind.u64.wrap z≤18446744073709551615:=by rw[IntKind.wrap_u64];omega
def vecI (v:List Int):List UInt8:=numI (v.length:Int)++v.flatMap λn=>numI (zzI n)
theorem wVec_spec (w:Nat)(bs:List UInt8)(b o:Nat)(va:OA)(vc c:Nat)(v:List Int)(L:HL)(h:RdC L b o [.slice va v.length vc])(hv:RdS L va v.length 1 (v.map I32))(hb:bs.length+10+10*v.length≤100000000000000):
  CallsS Tryz.prog 41 [.pointer (some ⟨w,0,none⟩),.slice (some ⟨b,o,none⟩) 1 c] (wH w bs::L) (λr L'=>r=.pointer (some ⟨w,0,none⟩)∧L'=wH w (bs++vecI v)::L):=by
 have hll:∀k,k≤v.length→((v.take k).flatMap λn=>numI (zzI n)).length≤10*k:=λk=>by
  induction k with
  |zero=>intro _;simp
  |succ k ih=>
   intro hk;obtain ⟨z,hz1⟩:=mem_get (l:=v) (k:=k) zo;rw[take_snoc hz1,List.flatMap_append,List.length_append];have:=ih zo;have:(numI (zzI z)).length≤10:=numI_len (u64_le _);simp only[List.flatMap_cons,List.flatMap_nil,List.append_nil];omega
 have hl1:=numI_len (z:=(v.length:Int)) zo;refine CallsS.of_body Tryz.func41 rfl rfl rfl ?_;refine Q.r ?_;refine swp_cutB (σ:=Unit) (λ_=> [(0,.pointer (some ⟨w,0,none⟩))]) (λ_=>wH w (bs++vecI v)::L) (λ_=>True) ?_ ?_
 ·refine swp_loop (σ:=Nat) (λk=> [(0,.pointer (some ⟨w,0,none⟩)),(11,.slice (some ⟨b,o,none⟩) 1 c),(12,.int .i64 1),(13,.int .i64 k)]) (λk=>wH w (if k=0 then bs else bs++vecI v)::L)
   (λk=>k≤1) (λk=>1 - k) 0 zt (Ent.refl _) zo ?_
  intro k hk
  by_cases hk0:k=0
  ·subst hk0
   rw[if_pos rfl];have hr:RdC (wH w bs::L) b (o+0*1) [.slice va v.length vc]:=by
    rw[Nat.zero_mul,Nat.add_zero];exact h.sub
   refine Q.r ?_;refine S.y (Y.cvi rfl) ?_;rw[wrap_u64 zo zo];refine S.cr rfl (wnum_spec w _ (v.length:Int) _ zo zo) ?_;rintro _ _ ⟨rfl,rfl⟩;refine Q.r ?_;refine swp_loop (σ:=Nat) (λm=> [(0,.pointer (some ⟨w,0,none⟩)),(11,.slice (some ⟨b,o,none⟩) 1 c),(12,.int .i64 1),(13,.int .i64 0),(22,.slice va v.length vc),(23,.int .i64 v.length),(24,.int .i64 m)]) (λm=>wH w (bs++numI v.length++(v.take m).flatMap λn=>numI (zzI n))::L)
    (λm=>m≤v.length) (λm=>v.length - m) 0 zt (by simp only[List.take_zero,List.flatMap_nil,List.append_nil];exact Ent.refl _) zo ?_
   intro m hm
   by_cases hmt:m<v.length
   ·obtain ⟨z,hz1⟩:=mem_get hmt
    have hrs:RdS (wH w (bs++numI v.length++(v.take m).flatMap λn=>numI (zzI n))::L) va v.length 1 (v.flatMap cI):=by rw[flat_I];exact hv.sub
    obtain ⟨b2,o2,hia,hr2⟩:=RdS.elem (g:=cI) (λ_=>rfl) hrs hz1 rfl;clear hrs;rw[hia];have:=hll m hm;refine Q.r ?_;refine S.y (Y.shlI (b:=1) rfl rfl zd) ?_;refine S.y (Y.cvi rfl) ?_;refine Q.r ?_;refine S.y (Y.shrI (b:=31) rfl rfl zd) ?_;refine S.y (Y.cvi rfl) ?_;refine S.y (Y.xor rfl rfl) ?_;refine S.y (Y.cvi rfl) ?_;refine S.cr (args:=[.pointer (some ⟨w,0,none⟩),.int .u64 (zzI z)]) rfl (wnum_spec w _ (zzI z) _ (by rw[List.length_append,List.length_append];omega) (u64_le _)) ?_;rintro _ _ ⟨rfl,rfl⟩;refine Q.r ?_;refine ⟨m+1,⟨rfl,rfl,rfl,rfl,by first|rfl|(rw[←hia];rfl),rfl,rfl,trivial⟩,?_,by omega,by omega⟩;rw[take_snoc hz1,List.flatMap_append,List.append_assoc (bs++numI v.length)];simp only[List.flatMap_cons,List.flatMap_nil,List.append_nil];exact Ent.refl _
   ·have hme:m=v.length:=by omega
    subst hme;rw[List.take_length];refine Q.r ?_;refine ⟨1,zt,?_,by omega,by omega⟩;rw[if_neg zd];unfold vecI;rw[←List.append_assoc];exact Ent.refl _
  ·have hk1:k=1:=by omega
   subst hk1;rw[if_neg zd];refine Q.r ?_;exact ⟨(),zt,Ent.refl _,trivial⟩
 ·rintro _ _
  refine Q.r ?_;exact N.t rfl (Ent.refl _) ⟨rfl,rfl⟩
theorem CloneB_spec (a:OA)(c:Nat)(bs:List UInt8)(A:HL)(h:RdS A a bs.length 1 (bs.map B))(hn:bs.length≤140737488355328):
  CallsS Tryz.prog 110 [.slice a bs.length c] A (λv L'=>∃a' c',v=.slice a' bs.length c'∧L'=slO 5 1 a' bs.length c' (bs.map B)::A):=by
 refine CallsS.of_body Tryz.func110 rfl rfl rfl ?_
 cases a with
 |none=>
  have hx:bs=[]:=by
   rcases h.2 with h0|⟨_,_,h0,_⟩
   ·exact List.eq_nil_of_length_eq_zero h0
   ·cases h0
  subst hx;refine Q.r ?_;exact N.t rfl slO_nil ⟨none,0,rfl,rfl⟩
 |some ad=>
  refine Q.r ?_;(repeat (intro b1;refine Q.r ?_));refine opsS_ent (slO_fold (sz:=1) (m:=0) rfl) ?_;refine S.app0 rfl rfl rfl (SrcS.rd h.sub (B_one _)) zr zo zo (λa5 c5=> ?_);refine Q.r ?_;exact N.t rfl (Ent.refl _) ⟨a5,c5,rfl,rfl⟩
theorem wBytes_spec (w:Nat)(bs:List UInt8)(L:HL)(hb:bs.length≤140737488355328):
  CallsS Tryz.prog 43 [.pointer (some ⟨w,0,none⟩)] (wH w bs::L) (λr L'=>∃a c,r=.slice a bs.length c∧L'=slO 5 1 a bs.length c (bs.map B)::wH w bs::L):=by
 refine calls_w λa c=> ?_
 refine CallsS.of_body Tryz.func43 rfl rfl rfl ?_;refine Q.r ?_;refine opsS_addr a (λha=> ?_);refine S.cr rfl (CloneB_spec a c bs _ (RdS.slO (t:=5) (c:=c) (L1:=wP w a bs.length c::L) (Ent.perm (.swap _ _ _)) (by simp) ha) hb) ?_;rintro _ _ ⟨a',c',rfl,rfl⟩;refine Q.r ?_;refine N.t rfl (Ent.cons wH_shut) ⟨a',c',rfl,rfl⟩
end Go.Proofs.YtjlgabojhnnbaaaGreatDoor
namespace Go.Proofs.YtjlgabojhnnbaaaGreatDoor
open Go Go.SX
attribute [local irreducible] swp opsS thenS blockS retS CallsS St Ent YieldS anyS drawS
structure VS where
 dim:Int
 ch:List (Int×VL)
 its:List (Int×Int×VL)
 mark:Int
abbrev ptrV (p:Nat):Value:=.pointer (some ⟨p,0,none⟩)
abbrev CR :=Int×Nat×VL
def chsH (M:OM)(cs:List CR):HP:=allH (cs.map λc=>chainH M c.2.1 c.2.2)
abbrev vP (v mc mi:Nat)(dim mark:Int):HP:=pt v (cl [.int .i64 dim,.map (some mc),.map (some mi),.int .u64 mark] 171)
abbrev vC (mc:Nat)(cs:List CR):HP:=mpO U64 ptrV mc (cs.map λc=>(c.1,c.2.1))
abbrev vI (mi:Nat)(is:List IV):HP:=mpO U64 IV.val mi (is.map λi=>(i.txn,i))
structure VOK (M:OM)(st:VS)(cs:List CR)(is:List IV):Prop where
 ch:cs.map (λc=>(c.1,c.2.2))=st.ch
 its:is.map IV.abs=st.its
 ok:∀i∈is,okI M i
 k1:keysOK st.ch
 k2:keysOK st.its
def vaultH (v:Nat)(st:VS):HP:=exH λx:(Nat×Nat×(OM))×List CR×List IV=>allH [pureH (VOK x.1.2.2 st x.2.1 x.2.2),vP v x.1.1 x.1.2.1 st.dim st.mark,vC x.1.1 x.2.1,vI x.1.2.1 x.2.2,chsH x.1.2.2 x.2.1,roM x.1.2.2]
theorem vault_shut {v mc mi:Nat}{M:OM}{st:VS}{cs:List CR}{is:List IV}{L:HL}(h:VOK M st cs is):Ent (vP v mc mi st.dim st.mark::vC mc cs::vI mi is::chsH M cs::roM M::L) (vaultH v st::L):=
 Ent.trans (Ent.shut_pure h) (Ent.trans (Ent.shut_all (L:=[_,_,_,_,_,_])) (Ent.shut_ex (P:=λx:(Nat×Nat×(OM))×List CR×List IV=>allH [pureH (VOK x.1.2.2 st x.2.1 x.2.2),vP v x.1.1 x.1.2.1 st.dim st.mark,vC x.1.1 x.2.1,vI x.1.2.1 x.2.2,chsH x.1.2.2 x.2.1,roM x.1.2.2]) ((mc,mi,M),cs,is)))
theorem calls_vault {g:FuncId}{args:List Value}{R:Value→HL→Prop}{v:Nat}{st:VS}{L:HL}
  (h:∀mc mi M cs is,VOK M st cs is→CallsS Tryz.prog g args (vP v mc mi st.dim st.mark::vC mc cs::vI mi is::chsH M cs::roM M::L) R):CallsS Tryz.prog g args (vaultH v st::L) R:=
 CallsS.ex λx=>CallsS.all (CallsS.pure λhx=>h x.1.1 x.1.2.1 x.1.2.2 x.2.1 x.2.2 hx)
class PickV (v:Nat)(L:HL)(st:outParam VS)(L0:outParam (HL)):Prop where
 ent:Ent L (vaultH v st::L0)
instance PickV.here {v:Nat}{L:HL}{st:VS}:PickV v (vaultH v st::L) st L:=⟨Ent.refl _⟩
instance (priority :=low) PickV.there {v:Nat} {A:HP} {L L0:HL} {st:VS} [h:PickV v L st L0]:PickV v (A::L) st (A::L0):=⟨(h.ent.cons).trans (Ent.perm (.swap _ _ _))⟩
section
variable {n : Nat} {ops rest : List Oper} {cd : Code} {Q : Post} {f : Env} {L L0 : HL} {st : VS}
theorem swp_vault (v:Nat)[hp:PickV v L st L0](h:∀mc mi M cs is,VOK M st cs is→swp Tryz.prog n cd Q f (vP v mc mi st.dim st.mark::vC mc cs::vI mi is::chsH M cs::roM M::L0)):swp Tryz.prog n cd Q f L:=
 swp_ent hp.ent (swp_ex λx=>swp_all (swp_pure λhx=>h x.1.1 x.1.2.1 x.1.2.2 x.2.1 x.2.2 hx))
theorem opsS_vault (v:Nat)[hp:PickV v L st L0](h:∀mc mi M cs is,VOK M st cs is→opsS Tryz.prog n ops rest Q f (vP v mc mi st.dim st.mark::vC mc cs::vI mi is::chsH M cs::roM M::L0)):opsS Tryz.prog n ops rest Q f L:=
 opsS_ent hp.ent (opsS_ex λx=>opsS_all (opsS_pure λhx=>h x.1.1 x.1.2.1 x.1.2.2 x.2.1 x.2.2 hx))
theorem S.cv {d:Tmp}{ty:TypeId}{pos:String}{af:Array Edge}{g:FuncId}{xs:Array Operand}{ats:Array TypeId}{args:List Value}{R:Value→HL→Prop}(v:Nat)[hp:PickV v L st L0][he:Enters Tryz.prog g](hx:argsL f xs.toList=some args)(hc:CallsS Tryz.prog g args (vaultH v st::L0) R)(hk:∀v L',R v L'→opsS Tryz.prog n ops rest Q (upd f d v) L'):
  opsS Tryz.prog n ops (⟨some d,.call ⟨.value (.func g),xs,ats⟩,ty,pos,af,none⟩::rest) Q f L:=opsS_ent hp.ent (S.cr hx hc hk)
end
def opsLe (st:VS):Prop:=∀i∈st.its,i.2.2.length≤1000000
theorem VOK.ops {M:OM}{st:VS}{cs:List CR}{is:List IV}(h:VOK M st cs is)(hl:opsLe st):∀i∈is,i.ops.length≤1000000:=λi hi=>by
 have:=hl i.abs (by rw[←h.its];exact List.mem_map_of_mem hi)
 simpa using this
theorem its_at {is:List IV}{i:Nat}{p:Int×IV}(h:(is.map λi=>(i.txn,i))[i]? =some p):∃x,is[i]? =some x∧x∈is∧p=(x.txn,x):=by
 rw[List.getElem?_map] at h
 cases hx:is[i]? with
 |none=>rw[hx] at h;cases h
 |some x=>rw[hx] at h;exact ⟨x,rfl,List.mem_of_getElem? hx,(Option.some.inj h).symm⟩
theorem any_none {α:Type}{l:List α}{p:α→Bool}{vis:List Nat}(h:∀i,i<l.length→i∈vis)(hv:∀i∈vis,∀x,l[i]? =some x→p x=false):l.any p=false:=by
 rw[List.any_eq_false];intro x hx;obtain ⟨i,hi⟩:=List.mem_iff_getElem?.1 hx;rw[hv i (h i (List.getElem?_eq_some_iff.1 hi).1) x hi];exact Bool.false_ne_true
theorem holder_spec (v:Nat)(st:VS)(id:Int)(L:HL)(hl:opsLe st):
  CallsS Tryz.prog 101 [ptrV v,.int .u64 id] (vaultH v st::L)
   (λr L'=>(∃x y a m c,r=.tuple #[.agg #[.int .u64 x,.int .u64 y,.slice a m c],.bool (st.its.any λi=>holdsV i.2.2 id)])∧L'=vaultH v st::L):=by
 refine calls_vault λmc mi M cs is hok=> ?_
 have hops:=hok.ops hl;have hany:(st.its.any λi=>holdsV i.2.2 id)=is.any λi=>holdsV (i.ops.map OV.abs) id:=by rw[←hok.its,List.any_map];rfl
 rw[hany];refine CallsS.of_body Tryz.func101 rfl rfl rfl ?_;refine Q.r ?_;(repeat (intro b1;refine Q.r ?_));refine S.rg rfl (λr=> ?_);refine Q.r ?_;refine swp_loop (σ:=List Nat) (λvis=> [(1,.int .u64 id),(4,.pointer (some ⟨b1,0,none⟩)),(12,.pointer (some ⟨r,0,none⟩))])
  (λvis=>pt b1 (cl [.int .u64 0,.int .u64 0,.slice none 0 0] 100)::vP v mc mi st.dim st.mark::vC mc cs::itO U64 IV.val mi r (is.map λi=>(i.txn,i)) vis::chsH M cs::roM M::L)
  (λvis=>vis.Nodup∧(∀i∈vis,i<is.length)∧∀i∈vis,∀x,is[i]? =some x→holdsV (x.ops.map OV.abs) id=false) (λvis=>is.length - vis.length) [] zt eG ⟨by simp,by simp,by simp⟩ ?_
 rintro vis ⟨hv1,hv2,hv3⟩;refine Q.r ?_;refine S.nx rfl (λhend=> ?_) (λi p hp hi=> ?_)
 ·rw[List.length_map] at hend
  rw[any_none hend hv3];refine Q.r ?_;exact N.r2 (by apply RV.cellN;rfl;exact RdC.row;rfl;exact RV.tmp rfl RV.nil) (Ent.drop (Ent.trans (Ent.cons (Ent.cons itO_map)) (vault_shut hok))) ⟨⟨0,0,none,0,0,rfl⟩,rfl⟩
 ·obtain ⟨x,hx,hmx,rfl⟩:=its_at hp
  obtain ⟨m1,m2,m3⟩:=vis_more hv1 hv2 (List.getElem?_eq_some_iff.1 hx).1 hi;refine Q.r ?_;refine S.y (Y.en rfl hp) ?_;refine Q.r ?_;(repeat (intro b1;refine Q.r ?_));refine S.cr rfl (holds_spec x id _ ((hok.ok x hmx).rd) (hops x hmx)) ?_;rintro _ _ ⟨rfl,rfl⟩
  cases hh:holdsV (x.ops.map OV.abs) id with
  |true=>
   rw[show (is.any λi=>holdsV (i.ops.map OV.abs) id)=true from List.any_eq_true.2 ⟨x,hmx,hh⟩];refine Q.r ?_;exact N.r2 (by apply RV.cellN;rfl;exact RdC.row;rfl;exact RV.tmp rfl RV.nil) (Ent.drop (Ent.drop (Ent.trans (Ent.cons (Ent.cons itO_map)) (vault_shut hok)))) ⟨⟨_,_,_,_,_,rfl⟩,rfl⟩
  |false=>
   refine Q.r ?_;refine ⟨vis++[i],zt,Ent.drop (Ent.refl _),⟨m1,m2,λj hj y hy=> ?_⟩,by simp;omega⟩
   rcases List.mem_append.1 hj with hj|hj
   ·exact hv3 j hj y hy
   ·obtain rfl:=List.mem_singleton.1 hj
    rw[hx] at hy;obtain rfl:=Option.some.inj hy;exact hh
def blockedV (st:VS)(s:Int)(ids:List Int):Bool:=st.its.any λi=>decide (i.2.1<s)&&(decide (ids.length=0)||ids.any λid=>holdsV i.2.2 id)
theorem Blocked_spec (v:Nat)(st:VS)(s:Int)(a:OA)(c:Nat)(ids:List Int)(L:HL)(hl:opsLe st)(h:RdS L a ids.length 1 (ids.map U64))(hn:ids.length≤1000000):
  CallsS Tryz.prog 115 [ptrV v,.int .u64 s,.slice a ids.length c] (vaultH v st::L) (λr L'=>r=.bool (blockedV st s ids)∧L'=vaultH v st::L):=by
 refine calls_vault λmc mi M cs is hok=> ?_
 have hops:=hok.ops hl;have hany:blockedV st s ids=is.any λi=>decide (i.after<s)&&(decide (ids.length=0)||ids.any λid=>holdsV (i.ops.map OV.abs) id):=by unfold blockedV;rw[←hok.its,List.any_map];rfl
 rw[hany];refine CallsS.of_body Tryz.func115 rfl rfl rfl ?_;refine Q.r ?_;refine S.rg rfl (λr=> ?_);refine Q.r ?_;refine swp_loop (σ:=List Nat) (λvis=> [(1,.int .u64 s),(2,.slice a ids.length c),(15,.pointer (some ⟨r,0,none⟩))])
  (λvis=>vP v mc mi st.dim st.mark::vC mc cs::itO U64 IV.val mi r (is.map λi=>(i.txn,i)) vis::chsH M cs::roM M::L)
  (λvis=>vis.Nodup∧(∀i∈vis,i<is.length)∧∀i∈vis,∀x,is[i]? =some x→(decide (x.after<s)&&(decide (ids.length=0)||ids.any λid=>holdsV (x.ops.map OV.abs) id))=false) (λvis=>is.length - vis.length) [] zt eG ⟨by simp,by simp,by simp⟩ ?_
 rintro vis ⟨hv1,hv2,hv3⟩;refine Q.r ?_;refine S.nx rfl (λhend=> ?_) (λi p hp hi=> ?_)
 ·rw[List.length_map] at hend
  rw[any_none hend hv3];refine Q.r ?_;exact N.t rfl (Ent.trans (Ent.cons (Ent.cons itO_map)) (vault_shut hok)) ⟨rfl,rfl⟩
 obtain ⟨x,hx,hmx,rfl⟩:=its_at hp;obtain ⟨m1,m2,m3⟩:=vis_more hv1 hv2 (List.getElem?_eq_some_iff.1 hx).1 hi
 repeat (first|(refine GQ.y ?_;refine Q.y ?_)|refine Q.go ?_|(refine GQ.g ?_;refine Q.gq ?_)|(refine GQ.s ?_;refine Q.st ?_)|(refine GQ.a ?_;refine Q.al (λb1=> ?_)))
 refine S.y (Y.en rfl hp) ?_
 repeat (first|(refine GQ.y ?_;refine Q.y ?_)|refine Q.go ?_|(refine GQ.g ?_;refine Q.gq ?_)|(refine GQ.s ?_;refine Q.st ?_)|(refine GQ.a ?_;refine Q.al (λb1=> ?_)))
 refine opsS_cutT (σ:=Bool) (λt=> [(1,.int .u64 s),(2,.slice a ids.length c),(15,.pointer (some ⟨r,0,none⟩)),(34,.bool t)])
  (λ_=>vP v mc mi st.dim st.mark::vC mc cs::itO U64 IV.val mi r (is.map λi=>(i.txn,i)) (vis++[i])::chsH M cs::roM M::L)
  (λt=>t=(decide (x.after<s)&&(decide (ids.length=0)||ids.any λid=>holdsV (x.ops.map OV.abs) id))) ?_ ?_
 ·by_cases c1:x.after<s
  ·by_cases c2:ids.length=0
   ·refine Q.r ?_
    exact ⟨_,zt,Ent.drop (Ent.refl _),by simp[c1,c2]⟩
   ·refine Q.r ?_
    refine S.y (Y.mf rfl rfl) ?_
    repeat (first|(refine GQ.y ?_;refine Q.y ?_)|refine Q.go ?_|(refine GQ.g ?_;refine Q.gq ?_)|(refine GQ.s ?_;refine Q.st ?_)|(refine GQ.a ?_;refine Q.al (λb1=> ?_)))
    refine S.cr rfl (HasU_spec 144 [x.val] [] (λid=>holdsV (x.ops.map OV.abs) id) a c ids _ ?_ zo (λid _=>holds_spec x id _ ((hok.ok x hmx).rd) (hops x hmx))) ?_
    ·rw[flat_U];exact h.sub
    rintro _ _ ⟨rfl,rfl⟩;refine Q.r ?_;exact ⟨_,zt,Ent.drop (Ent.refl _),by simp[c1,c2]⟩
  ·refine Q.r ?_
   exact ⟨_,zt,Ent.drop (Ent.refl _),by simp[c1]⟩
 intro t ht
 cases t with
 |true=>
  rw[show (is.any λi=>decide (i.after<s)&&(decide (ids.length=0)||ids.any λid=>holdsV (i.ops.map OV.abs) id))=true from List.any_eq_true.2 ⟨x,hmx,ht.symm⟩];refine Q.r ?_;exact N.t rfl (Ent.trans (Ent.cons (Ent.cons itO_map)) (vault_shut hok)) ⟨rfl,rfl⟩
 |false=>
  refine Q.r ?_;refine ⟨vis++[i],zt,Ent.refl _,⟨m1,m2,λj hj y hy=> ?_⟩,by simp;omega⟩
  rcases List.mem_append.1 hj with hj|hj
  ·exact hv3 j hj y hy
  ·obtain rfl:=List.mem_singleton.1 hj
   rw[hx] at hy;obtain rfl:=Option.some.inj hy;exact ht.symm
def openE (st:VS)(s:Int)(ids:List Int):Int:=if blockedV st s ids then 11 else if s<st.mark then 12 else 0
theorem open_spec (v:Nat)(st:VS)(s:Int)(a:OA)(c:Nat)(ids:List Int)(L:HL)(hl:opsLe st)(h:RdS L a ids.length 1 (ids.map U64))(hn:ids.length≤1000000):
  CallsS Tryz.prog 151 [ptrV v,.int .u64 s,.slice a ids.length c] (vaultH v st::L) (λr L'=>r=.int .i64 (openE st s ids)∧L'=vaultH v st::L):=by
 unfold openE;refine CallsS.of_body Tryz.func151 rfl rfl rfl ?_;refine Q.r ?_;refine S.cr rfl (Blocked_spec v st s a c ids L hl h hn) ?_;rintro _ _ ⟨rfl,rfl⟩
 cases hb:blockedV st s ids with
 |true=>
  refine Q.r ?_;exact N.t rfl (Ent.refl _) ⟨rfl,rfl⟩
 |false=>
  repeat (first|(refine GQ.y ?_;refine Q.y ?_)|refine Q.go ?_|(refine GQ.g ?_;refine Q.gq ?_)|(refine GQ.s ?_;refine Q.st ?_)|(refine GQ.a ?_;refine Q.al (λb1=> ?_)))
  refine opsS_vault v (λmc mi M cs is hok=> ?_)
  by_cases hm:s<st.mark
  ·refine Q.r ?_
   exact N.t rfl (vault_shut hok) ⟨by simp[hm],rfl⟩
  ·refine Q.r ?_
   exact N.t rfl (vault_shut hok) ⟨by simp[hm],rfl⟩
def vecsH (us:List OV):HP:=bodV 21 (us.map λo=>(o.a,o.c,o.vec.map I32))
theorem vecs_snoc {us:List OV}{o:OV}{m:Nat}{L:HL}(hm:m=o.vec.length):Ent (slO 21 1 o.a m o.c (o.vec.map I32)::vecsH us::L) (vecsH (us++[o])::L):=by
 unfold vecsH;rw[List.map_append,List.map_cons,List.map_nil];exact bodV_snoc (by simp[hm])
theorem vecs_abs {L L0:HL}{M:OM}[hp:PickM L M L0]:∀us:List OV,Ent (vecsH us::L) (exH (λM'=>allH [pureH (leM M M'∧okR M' us),roM M'])::L0):=by
 intro us
 induction us generalizing M L with
 |nil=>
  refine Ent.drop (hp.ent.trans ?_);refine Ent.trans ?_ (Ent.shut_ex M);refine Ent.trans ?_ Ent.shut_all;exact Ent.shut_pure ⟨leM.refl M,λo ho=>by cases ho⟩
 |cons o us ih=>
  have h1:Ent (vecsH (o::us)::L) (slO 21 1 o.a o.vec.length o.c (o.vec.map I32)::vecsH us::L):=by
   unfold vecsH;exact bodV_out' (p:=[]) (by simp)
  refine h1.trans ?_;have hp2:PickM (vecsH us::L) M (vecsH us::L0):=inferInstance;refine (Ent.absorb (h:=hp2)).trans ?_;refine Ent.ex λM1=>Ent.open_all.trans (Ent.pure λhs=> ?_)
  refine Ent.trans (Ent.perm (.swap _ _ _)) ?_;refine (ih (M:=M1) (L:=roM M1::L0) (hp:=inferInstance)).trans ?_;refine Ent.ex λM2=>Ent.open_all.trans (Ent.pure λhs2=> ?_)
  refine Ent.trans ?_ (Ent.shut_ex M2);refine Ent.trans ?_ Ent.shut_all;refine Ent.shut_pure ⟨hs.1.trans hs2.1,λu hu=> ?_⟩
  rcases List.mem_cons.1 hu with rfl|hu
  ·exact hs.2.mono hs2.1
  ·exact hs2.2 u hu
theorem swp_absV (us:List OV){n:Nat}{cd:Code}{Q:Post}{f:Env}{L L0 L1:HL}{M:OM}[h:Pick (vecsH us) L L0][h1:PickM L0 M L1](hk:∀M',leM M M'→okR M' us→swp Tryz.prog n cd Q f (roM M'::L1)):swp Tryz.prog n cd Q f L:=
 swp_ent (h.ent.trans (vecs_abs us)) (swp_ex λM'=>swp_all (swp_pure λhh=>hk M' hh.1 hh.2))
theorem chain_mono {M M':OM}(h:leM M M'){p:Nat}{vs:VL}{L:HL}:Ent (chainH M p vs::L) (chainH M' p vs::L):=
 Ent.ex fun x => Ent.open_all.trans (Ent.pure fun hx => by
  obtain ⟨⟨a,c⟩,ovs⟩:=x;obtain ⟨rfl,h2⟩:=hx;exact chain_shut λo ho=>(h2 o ho).mono h)
theorem chs_out {M:OM}{p q:List CR}{x:CR}{L:HL}:Ent (chsH M (p++x::q)::L) (chainH M x.2.1 x.2.2::chsH M (p++q)::L):=by
 refine Ent.open_all.trans ?_;rw[List.map_append,List.map_cons];refine (Ent.app (Ent.perm List.perm_middle)).trans ?_;rw[List.cons_append,←List.map_append];exact Ent.shut_all.cons
theorem chs_in {M:OM}{p q:List CR}{x:CR}{L:HL}:Ent (chainH M x.2.1 x.2.2::chsH M (p++q)::L) (chsH M (p++x::q)::L):=by
 refine (Ent.cons Ent.open_all).trans ?_;refine Ent.trans ?_ Ent.shut_all;rw[List.map_append,List.map_append,List.map_cons];exact Ent.app (Ent.perm List.perm_middle.symm) (L:=_::(_++_))
theorem chs_mono {M M':OM}(h:leM M M'):∀{cs:List CR} {L:HL},Ent (chsH M cs::L) (chsH M' cs::L)
 | [],L=>Ent.refl _
 |x::cs,L=>(chs_out (p:=[])).trans ((Ent.cons (chs_mono h (cs:=cs))).trans ((chain_mono h).trans (chs_in (p:=[]))))
theorem lk_none' {κ α:Type}[DecidableEq κ]{m:List (κ×α)}{x:κ}(h:lkL m x=none):∀u∈m,u.1≠x:=λu hu e=>by
 unfold lkL at h;rw[Option.map_eq_none_iff,List.find?_eq_none] at h;exact h u hu (by simpa using e)
theorem lkL_its_none {is:List IV}{st:VS}{M:OM}{cs:List CR}(h:VOK M st cs is){t:Int}(hx:lkL (is.map λi=>(i.txn,i)) t=none):keysOK (st.its++[(t,(0:Int),([]:VL))]):=by
 have hn:=lk_none' hx;unfold keysOK;rw[List.map_append,List.nodup_append];refine ⟨h.k2,by simp,λy hy z hz=> ?_⟩
 simp at hz
 subst hz;obtain ⟨u,hu,rfl⟩:=List.mem_map.1 hy;rw[←h.its] at hu;obtain ⟨i,hi,rfl⟩:=List.mem_map.1 hu;exact λe=>hn (i.txn,i) (List.mem_map_of_mem (f:=λi:IV=>(i.txn,i)) hi) e
theorem lk_its (is:List IV)(t:Int):lkL (is.map IV.abs) t=(lkL (is.map λi=>(i.txn,i)) t).map (λx=>(x.after,x.ops.map OV.abs)):=by
 induction is with
 |nil=>rfl
 |cons x is ih=>
  unfold lkL at ih ⊢;simp only[List.map_cons,List.find?_cons]
  by_cases h:x.txn=t
  ·simp[h]
  ·simp only[h,decide_false];exact ih
theorem lk_mem {is:List IV}{t:Int}{x:IV}(h:lkL (is.map λi=>(i.txn,i)) t=some x):x∈is∧x.txn=t:=by
 unfold lkL at h;obtain ⟨p,hp,hx⟩:=Option.map_eq_some_iff.1 h;have h1:=List.mem_of_find?_eq_some hp;have h2:=List.find?_some hp;obtain ⟨y,hy,rfl⟩:=List.mem_map.1 h1;dsimp only at hx h2;subst hx;exact ⟨hy,by simpa using h2⟩
theorem copyOf_spec (i:IV)(A:HL)(h:RdO A i.a i.ops)(hn:i.ops.length≤1000000)(hv:∀o∈i.ops,o.vec.length≤1000000):
  CallsS Tryz.prog 102 [i.val] A (λv L'=>∃(a:OA) (c:Nat) (us:List OV),us.map OV.abs=i.ops.map OV.abs∧v=IV.val ⟨i.txn,i.after,a,c,us⟩∧L'=slO 119 2 a us.length c (us.flatMap OV.cells)::vecsH us::A):=by
 refine CallsS.of_body Tryz.func102 rfl rfl rfl ?_;refine Q.r ?_;(repeat (intro b1;refine Q.r ?_));rename_i b2;refine swp_loop (σ:=Nat×OA×Nat×List OV) (λs=> [(1,.pointer (some ⟨b2,0,none⟩)),(2,.pointer (some ⟨b1,0,none⟩)),(7,.slice i.a i.ops.length i.c),(8,.int .i64 i.ops.length),(3,.slice s.2.1 s.2.2.2.length s.2.2.1),(9,.int .i64 s.1)])
  (λs=>slO 119 2 s.2.1 s.2.2.2.length s.2.2.1 (s.2.2.2.flatMap OV.cells)::vecsH s.2.2.2::pt b1 (cl [.int .u64 0,.int .u64 0,.slice none 0 0] 100)::pt b2 (cl i.cells 100)::A)
  (λs=>s.1≤i.ops.length∧s.2.2.2.map OV.abs=(i.ops.take s.1).map OV.abs) (λs=>i.ops.length - s.1) (0,none,0,[]) zt ?_ ⟨by omega,by simp⟩ ?_
 ·exact Ent.trans (Ent.trans bodV_nil slO_nil) (Ent.refl _)
 rintro ⟨k,a3,c3,us⟩ ⟨hk,hus⟩;dsimp only at hk hus ⊢;have hul:us.length=k:=by
  have:=congrArg List.length hus
  simp at this;omega
 by_cases hlt:k<i.ops.length
 ·obtain ⟨o,ho⟩:=mem_get hlt
  have hmo:o∈i.ops:=List.mem_of_getElem? ho;obtain ⟨b,oo,hia,hr⟩:=RdS.elem (g:=OV.cells) (λ_=>rfl) h.1 ho rfl;rw[hia];refine Q.r ?_;(repeat (intro b1;refine Q.r ?_));refine Q.dgo [true,false,false,false,false] [5,7,8] [] [0,1,2,3,4,5,6,7,8,9] ?_;refine Q.rd ?_;refine D.e rfl rfl rfl ?_;refine S.cr rfl (CloneI_spec o.a o.c o.vec _ ((h.2 o hmo).sub) (hv o hmo)) ?_;rintro _ _ ⟨a',c',rfl,rfl⟩;refine Q.r ?_;refine Q.rd ?_;(repeat (intro b1;refine Q.rd ?_));refine D.e rfl rfl rfl ?_;refine S.app rfl rfl (SrcS.sl RdC.row zr zr) zr zo zo (λa4 c4=> ?_);refine Q.r ?_;refine Q.rd ?_;refine Q.r ?_;refine ⟨(k+1,a4,c4,us++[⟨o.id,a',c',o.vec⟩]),⟨rfl,rfl,rfl,rfl,congrArg some (by simp),rfl,trivial⟩,?_,⟨by dsimp only;omega,by dsimp only;rw[List.map_append,hus,take_snoc ho,List.map_append];rfl⟩,by dsimp only;omega⟩;dsimp only;rw[len_snoc,flat_snoc];refine Ent.pick (Ent.trans ?_ (vecs_snoc (o:=⟨o.id,a',c',o.vec⟩) rfl));exact eG
 ·have hke:k=i.ops.length:=by omega
  subst hke;rw[List.take_length] at hus;refine Q.r ?_;refine N.r1 RV.c ?_ ⟨a3,c3,us,hus,rfl,rfl⟩;exact eG
theorem New_spec (dim:Int)(L:HL)(h1:1≤dim)(h2:dim≤8):CallsS Tryz.prog 17 [.int .i64 dim] L (λr L'=>∃v,r=.tuple #[ptrV v,.int .i64 0]∧L'=vaultH v ⟨dim,[],[],0⟩::L):=by
 refine CallsS.of_body Tryz.func17 rfl rfl rfl ?_;refine Q.r ?_;refine S.mkm U64 ptrV (λmc=> ?_);refine S.mkm U64 IV.val (λmi=> ?_);refine Q.r ?_;(repeat (intro b1;refine Q.r ?_));refine N.u rfl rfl (Ent.trans ?_ (vault_shut (v:=b1) (mc:=mc) (mi:=mi) (M:=λ_=>none) (st:=⟨dim,[],[],0⟩) (cs:=[]) (is:=[]) ⟨rfl,rfl,by simp,by simp[keysOK],by simp[keysOK]⟩)) ⟨b1,rfl,rfl⟩
 show Ent (pt b1 _::mpO U64 IV.val mi []::mpO U64 ptrV mc []::L) (pt b1 _::mpO U64 ptrV mc []::mpO U64 IV.val mi []::_)
 refine Ent.cons (Ent.trans (Ent.perm (.swap _ _ _)) (Ent.cons (Ent.cons ?_)));exact Ent.trans (Ent.shut_all (L:=[])) (Ent.cons (Ent.nilM (Ent.refl _)))
def lockE (st:VS)(txn after:Int)(ops:VL):Int:=
 if 1099511627776<after then 1 else if checkV st.dim ops≠0 then checkV st.dim ops else if (lkL st.its txn).isSome then 7 else if ops.any λo=>st.its.any λi=>holdsV i.2.2 o.1 then 11 else 0
def lockS (st:VS)(txn after:Int)(ops:VL):VS:=if lockE st txn after ops=0 then {st with its:=st.its++[(txn,after,ops)]} else st
theorem Lock_spec (v:Nat)(st:VS)(i:IV)(L:HL)(hl:opsLe st)(h:RdO L i.a i.ops)(hn:i.ops.length≤1000000)(hv:∀o∈i.ops,o.vec.length≤1000000)(hd: -9223372036854775808≤st.dim∧st.dim≤9223372036854775807):
  CallsS Tryz.prog 35 [ptrV v,i.val] (vaultH v st::L) (λr L'=>r=.int .i64 (lockE st i.txn i.after (i.ops.map OV.abs))∧L'=vaultH v (lockS st i.txn i.after (i.ops.map OV.abs))::L):=by
 unfold lockS lockE;refine calls_vault λmc mi M cs is hok=> ?_
 refine CallsS.of_body Tryz.func35 rfl rfl rfl ?_;refine Q.r ?_;(repeat (intro b1;refine Q.r ?_));refine Q.dgo [true,true,false,false,false,false] [6] [] [0,1,2,3,4,5,6,7] ?_;refine Q.rd ?_;refine D.e rfl rfl rfl ?_;refine S.cr rfl (Check_spec st.dim i.a i.c i.ops _ h.sub hn hv hd) ?_;rintro _ _ ⟨rfl,rfl⟩
 by_cases h1:1099511627776<i.after
 ·rw[if_pos h1]
  refine Q.r ?_;refine Q.rd ?_;refine Q.r ?_;refine N.t rfl ?_ ⟨rfl,rfl⟩;rw[if_neg zd];refine Ent.trans ?_ (vault_shut (mc:=mc) (mi:=mi) hok);exact eG
 rw[if_neg h1];generalize checkV st.dim (i.ops.map OV.abs)=ce
 by_cases h2:ce≠0
 ·rw[if_pos h2]
  refine Q.r ?_;refine Q.rd ?_;refine Q.r ?_;refine N.t rfl ?_ ⟨rfl,rfl⟩;rw[if_neg h2];refine Ent.trans ?_ (vault_shut (mc:=mc) (mi:=mi) hok);exact eG
 rw[if_neg h2];have h2':ce=0:=by omega
 subst h2';refine Q.r ?_;refine Q.rd ?_;refine Q.r ?_;refine Q.dgo [true,true,false,true,false,false] [10,11] [] [0,1,2,3,4,5,6,7,8,9,10,11,12] ?_;refine Q.rd ?_;refine D.y rfl rfl rfl zk (Y.lk true rfl rfl (λw=>Tryz.zeroValue100 w)) ?_;have hlk:=lk_its is i.txn;rw[hok.its] at hlk
 cases hx:lkL (is.map λi=>(i.txn,i)) i.txn with
 |some x=>
  rw[hx] at hlk;rw[hlk];dsimp only;refine Q.rd ?_;(repeat (intro b1;refine Q.rd ?_));refine Q.r ?_;refine N.t rfl ?_ ⟨rfl,rfl⟩;simp only[Option.map_some,Option.isSome_some,if_true];rw[if_neg zd];refine Ent.trans ?_ (vault_shut (mc:=mc) (mi:=mi) hok);exact eG
 |none=>
  rw[hx] at hlk;rw[hlk];dsimp only;refine Q.rd ?_;(repeat (intro b1;refine Q.rd ?_));refine Q.r ?_;simp only[Option.map_none,Option.isSome_none,Bool.false_eq_true,if_false] at hlk ⊢;rename_i bx;have hev:((i.ops.map OV.abs).any λo=>st.its.any λi=>holdsV i.2.2 o.1)=i.ops.any λo=>st.its.any λi=>holdsV i.2.2 o.id:=by rw[List.any_map];rfl
  rw[hev];refine swp_cutB (σ:=Unit) (λ_=> [(0,ptrV v),(3,.pointer (some ⟨bx,0,none⟩))]) (λ_=>vaultH v st::pt bx (cl i.cells 100)::L) (λ_=>(i.ops.any λo=>st.its.any λi=>holdsV i.2.2 o.id)=false) ?_ ?_
  ·refine swp_loop (σ:=Nat) (λk=> [(0,ptrV v),(3,.pointer (some ⟨bx,0,none⟩)),(39,.slice i.a i.ops.length i.c),(40,.int .i64 i.ops.length),(41,.int .i64 k)]) (λ_=>vaultH v st::pt bx (cl i.cells 100)::L)
    (λk=>k≤i.ops.length∧(i.ops.take k).any (λo=>st.its.any λi=>holdsV i.2.2 o.id)=false) (λk=>i.ops.length - k) 0 zt ?_ ⟨by omega,by simp⟩ ?_
   ·refine Ent.trans ?_ (Ent.trans (vault_shut (mc:=mc) (mi:=mi) (L:=pt bx (cl i.cells 100)::L) hok) (Ent.refl _))
    exact eG
   rintro k ⟨hk,hany⟩
   by_cases hlt:k<i.ops.length
   ·obtain ⟨o,ho⟩:=mem_get hlt
    have hmo:o∈i.ops:=List.mem_of_getElem? ho;obtain ⟨b,oo,hia,hr⟩:=RdS.elem (g:=OV.cells) (λ_=>rfl) h.1 ho rfl;rw[hia];refine Q.r ?_;(repeat (intro b1;refine Q.r ?_));refine S.cv v rfl (holder_spec v st o.id _ hl) ?_;rintro _ _ ⟨⟨x,y,a,m,c,rfl⟩,rfl⟩
    cases hh:st.its.any λi=>holdsV i.2.2 o.id with
    |true=>
     rw[show (i.ops.any λo=>st.its.any λi=>holdsV i.2.2 o.id)=true from List.any_eq_true.2 ⟨o,hmo,hh⟩];simp only[if_true];rw[if_neg (show ¬((11:Int)=0) by decide)];refine Q.r ?_;(repeat (intro b1;refine Q.r ?_));exact N.t rfl eG ⟨rfl,rfl⟩
    |false=>
     refine Q.r ?_;(repeat (intro b1;refine Q.r ?_));exact ⟨k+1,zt,by exact eG,⟨by omega,by rw[take_snoc ho,List.any_append,hany,List.any_cons,hh];rfl⟩,by omega⟩
   ·have hke:k=i.ops.length:=by omega
    subst hke;rw[List.take_length] at hany;refine Q.r ?_;exact ⟨(),zt,Ent.refl _,hany⟩
  intro _ hany;rw[hany];simp only[Bool.false_eq_true,if_false,if_true];clear hx hok mc mi M cs is;refine swp_vault v (λmc mi M cs is hok=> ?_);have hlk2:=lk_its is i.txn;rw[hok.its,hlk] at hlk2;have hx:lkL (is.map λi=>(i.txn,i)) i.txn=none:=by
   cases hx:lkL (is.map λi=>(i.txn,i)) i.txn with
   |none=>rfl
   |some x=>rw[hx] at hlk2;cases hlk2
  refine Q.r ?_;refine Q.dgo [true,false,false,false,false,true] [7,8] [] [0,1,2,3,4,5,6,7,8] ?_;refine Q.rd ?_;refine D.e rfl rfl rfl ?_;refine S.cr rfl (copyOf_spec i _ h.sub hn hv) ?_;rintro _ _ ⟨a',c',us,hus,rfl,rfl⟩;refine Q.r ?_;refine D.e rfl rfl rfl ?_;refine S.mu rfl rfl rfl ?_;refine Q.r ?_;refine Q.rd ?_;refine N.tn ?_;rw[putL_none (lk_none' hx)];refine swp_abs a' (λM1 hl1 hs1=> ?_);refine swp_absV us (λM2 hl2 hs2=> ?_);refine Q.r ?_;obtain ⟨nw,hnw⟩:∃nw:IV,nw=⟨i.txn,i.after,a',c',us⟩:=⟨_,rfl⟩;have hok2:VOK M2 {st with its:=st.its++[(i.txn,i.after,i.ops.map OV.abs)]} cs (is++[nw]):=by
   refine ⟨hok.ch,by rw[List.map_append,hok.its,hnw,←hus];rfl,λu hu=> ?_,hok.k1,by have:=lkL_its_none hok hx;unfold keysOK at*;simpa using this⟩
   rcases List.mem_append.1 hu with hu|hu
   ·exact (hok.ok u hu).mono (hl1.trans hl2)
   ·obtain rfl:=List.mem_singleton.1 hu
    rw[hnw];exact ⟨hs1.mono hl2,hs2⟩
  refine N.t rfl (Ent.trans ?_ (vault_shut (mc:=mc) (mi:=mi) hok2)) ⟨rfl,rfl⟩;have e:vI mi (is++[nw])=mpO U64 IV.val mi (is.map (λi=>(i.txn,i))++[(i.txn,nw)]):=by unfold vI;rw[List.map_append,hnw];rfl
  rw[e,←hnw];refine Ent.pick (Ent.pick (Ent.pick ?_));refine Ent.trans ?_ (chs_mono (hl1.trans hl2));exact eG
def chV (ch:List (Int×VL))(id:Int):VL:=(lkL ch id).getD []
def putC (s:Int)(ch:List (Int×VL))(o:Int×List Int):List (Int×VL):=putL ch o.1 (chV ch o.1++[(s,o.2)])
def applyC (s:Int)(ch:List (Int×VL))(ops:VL):List (Int×VL):=ops.foldl (putC s) ch
def applyE (st:VS)(txn s:Int):Int:=
 match lkL st.its txn with
 |none=>if s=0∨1099511627776<s then 1 else 6
 |some i=>if s=0∨1099511627776<s∨s≤i.1 then 1 else if i.2.any λo=>decide (s≤lastS (chV st.ch o.1)) then 7 else if s≤st.mark then 12 else 0
def applyS (st:VS)(txn s:Int):VS:=
 match lkL st.its txn with
 |none=>st
 |some i=>if applyE st txn s=0 then {st with ch:=applyC s st.ch i.2,its:=delL st.its txn} else st
structure WF (st:VS)(n:Nat):Prop where
 d1:1≤st.dim
 d2:st.dim≤8
 il:st.its.length≤n
 io:∀i∈st.its,i.2.2.length≤16∧(i.2.2.map (·.1)).Nodup∧∀o∈i.2.2,o.2.length≤8∧(0<o.2.length→rightV o.2=true)
 cl:st.ch.length≤16*n
 co:∀c∈st.ch,sortedV c.2∧c.2.length≤n∧∀v∈c.2,v.2.length≤8
theorem WF.ops {st:VS}{n:Nat}(h:WF st n):opsLe st:=λi hi=>by have:=(h.io i hi).1;omega
theorem lk_memL {κ α:Type}[DecidableEq κ]{m:List (κ×α)}{x:κ}{a:α}(h:lkL m x=some a):(x,a)∈m:=by
 unfold lkL at h;obtain ⟨p,hp,hx⟩:=Option.map_eq_some_iff.1 h;have h1:=List.mem_of_find?_eq_some hp;have h2:=List.find?_some hp;have h3:p.1=x:=by simpa using h2
 subst hx h3;exact h1
theorem cr_case (cs:List CR)(hk:keysOK (cs.map λc=>(c.1,c.2.2)))(id:Int):
  (∃p q b vs,cs=p++(id,b,vs)::q∧lkL (cs.map λc=>(c.1,c.2.1)) id=some b∧lkL (cs.map λc=>(c.1,c.2.2)) id=some vs∧(∀u∈p,u.1≠id)∧∀u∈q,u.1≠id)∨
  (lkL (cs.map λc=>(c.1,c.2.1)) id=none∧lkL (cs.map λc=>(c.1,c.2.2)) id=none∧∀u∈cs,u.1≠id):=by
 rcases keyCase cs (show keysOK cs by unfold keysOK at*;rw[List.map_map] at hk;exact hk) id with ⟨p,x,q,rfl,hp,hq⟩|hn
 ·obtain ⟨b,vs⟩:=x
  refine .inl ⟨p,q,b,vs,rfl,?_,?_,hp,hq⟩
  ·rw[List.map_append,List.map_cons]
   exact lkL_mid λu hu=>by obtain ⟨w,hw,rfl⟩:=List.mem_map.1 hu;exact hp w hw
  ·rw[List.map_append,List.map_cons]
   exact lkL_mid λu hu=>by obtain ⟨w,hw,rfl⟩:=List.mem_map.1 hu;exact hp w hw
 ·exact .inr ⟨lkL_none λu hu=>by obtain ⟨w,hw,rfl⟩:=List.mem_map.1 hu;exact hn w hw,lkL_none λu hu=>by obtain ⟨w,hw,rfl⟩:=List.mem_map.1 hu;exact hn w hw,hn⟩
theorem del_map (is:List IV)(t:Int):delL (is.map λi=>(i.txn,i)) t=(is.filter λi=> !decide (i.txn=t)).map λi=>(i.txn,i):=by
 unfold delL;rw[List.filter_map];rfl
theorem VOK.del {M:OM}{st:VS}{cs:List CR}{is:List IV}(h:VOK M st cs is)(t:Int):VOK M {st with its:=delL st.its t} cs (is.filter λi=> !decide (i.txn=t)):=
 ⟨h.ch,by rw[←h.its];unfold delL;rw[List.filter_map];rfl,λi hi=>h.ok i (List.mem_filter.1 hi).1,h.k1,delL_ok h.k2 t⟩
theorem Free_spec (v:Nat)(st:VS)(txn:Int)(L:HL):
  CallsS Tryz.prog 74 [ptrV v,.int .u64 txn] (vaultH v st::L) (λr L'=>r=.int .i64 (if (lkL st.its txn).isSome then 0 else 6)∧L'=vaultH v {st with its:=delL st.its txn}::L):=by
 refine calls_vault λmc mi M cs is hok=> ?_
 have hlk:=lk_its is txn;rw[hok.its] at hlk;refine CallsS.of_body Tryz.func74 rfl rfl rfl ?_;refine Q.r ?_;refine S.y (Y.lk true rfl rfl (λw=>Tryz.zeroValue100 w)) ?_
 cases hx:lkL (is.map λi=>(i.txn,i)) txn with
 |none=>
  rw[hx] at hlk;rw[hlk];dsimp only;refine Q.r ?_;(repeat (intro b1;refine Q.r ?_));have e:delL st.its txn=st.its:=delL_none (lk_none' hlk);rw[e];exact N.t rfl (by refine Ent.trans ?_ (vault_shut (mc:=mc) (mi:=mi) hok);exact eG) ⟨rfl,rfl⟩
 |some x=>
  rw[hx] at hlk;rw[hlk];dsimp only;refine Q.r ?_;(repeat (intro b1;refine Q.r ?_));refine S.dl rfl rfl ?_;rw[del_map];refine Q.r ?_;exact N.t rfl (by refine Ent.trans ?_ (vault_shut (mc:=mc) (mi:=mi) (hok.del txn));exact eG) ⟨rfl,rfl⟩
theorem applyS_ne {st:VS}{txn s:Int}(h:applyE st txn s≠0):applyS st txn s=st:=by
 unfold applyS
 split
 ·rfl
 ·rw[if_neg h]
theorem putL_ok' {ch:List (Int×VL)}(h:keysOK ch)(s:Int)(o:Int×List Int):keysOK (putC s ch o):=putL_ok h _ _
theorem applyC_ok {s:Int}:∀{ops:VL} {ch:List (Int×VL)},keysOK ch→keysOK (applyC s ch ops)
 | [],_,h=>h
 |o::ops,_,h=>applyC_ok (ops:=ops) (putL_ok' h s o)
theorem applyC_snoc (s:Int)(ch:List (Int×VL))(ops:VL)(o:Int×List Int):applyC s ch (ops++[o])=putC s (applyC s ch ops) o:=List.foldl_append ..
theorem lk_apply {s:Int}{id:Int}:∀{ops:VL} {ch:List (Int×VL)},keysOK ch→id∉ops.map (·.1)→lkL (applyC s ch ops) id=lkL ch id
 | [],_,_,_=>rfl
 |o::ops,ch,h,hn=>by
  simp only[List.map_cons,List.mem_cons,not_or] at hn;have:=lk_apply (s:=s) (ops:=ops) (putL_ok' h s o) hn.2
  show lkL (applyC s (putC s ch o) ops) id=_
  rw[this];unfold putC;rw[lkL_put h,if_neg hn.1]
theorem applyC_len {s:Int}:∀{ops:VL} {ch:List (Int×VL)},keysOK ch→(applyC s ch ops).length≤ch.length+ops.length
 | [],_,_=>Nat.le_refl _
 |o::ops,ch,h=>by
  have h1:=applyC_len (s:=s) (ops:=ops) (putL_ok' h s o);have h2:(putC s ch o).length≤ch.length+1:=by
   unfold putC
   rcases keyCase ch h o.1 with ⟨p,b,q,rfl,hp,hq⟩|hn
   ·rw[putL_mid hp hq];simp
   ·rw[putL_none hn];simp
  show (applyC s (putC s ch o) ops).length≤_
  simp only[List.length_cons];omega
structure AtC (ch:List (Int×VL))(id:Int)(p q:List CR)(b:Nat)(vs:VL):Prop where
 hv:vs=chV ch id
 hp:∀u∈p,u.1≠id
 hq:∀u∈q,u.1≠id
 put:∀w,(p++(id,b,w)::q).map (λc=>(c.1,c.2.2))=putL ch id w
theorem AtC.some {p q:List CR}{id:Int}{b:Nat}{vs:VL}(hp:∀u∈p,u.1≠id)(hq:∀u∈q,u.1≠id):AtC ((p++(id,b,vs)::q).map λc=>(c.1,c.2.2)) id p q b vs:=by
 have h1:∀u∈p.map (λc:CR=>(c.1,c.2.2)),u.1≠id:=λu hu=>by obtain ⟨w,hw,rfl⟩:=List.mem_map.1 hu;exact hp w hw
 have h2:∀u∈q.map (λc:CR=>(c.1,c.2.2)),u.1≠id:=λu hu=>by obtain ⟨w,hw,rfl⟩:=List.mem_map.1 hu;exact hq w hw
 refine ⟨?_,hp,hq,λw=> ?_⟩
 ·unfold chV
  rw[List.map_append,List.map_cons,lkL_mid h1];rfl
 ·rw[List.map_append,List.map_append,List.map_cons,List.map_cons,putL_mid h1 h2]
theorem AtC.none {cs:List CR}{id:Int}{b:Nat}(hn:∀u∈cs,u.1≠id):AtC (cs.map λc=>(c.1,c.2.2)) id cs [] b []:=by
 have h1:∀u∈cs.map (λc:CR=>(c.1,c.2.2)),u.1≠id:=λu hu=>by obtain ⟨w,hw,rfl⟩:=List.mem_map.1 hu;exact hn w hw
 refine ⟨?_,hn,by simp,λw=> ?_⟩
 ·unfold chV
  rw[lkL_none h1];rfl
 ·rw[List.map_append,putL_none h1];rfl
theorem Apply_spec (v:Nat)(st:VS)(n:Nat)(txn s:Int)(L:HL)(hw:WF st n)(hn:n≤10000)(hs0:0≤s):
  CallsS Tryz.prog 73 [ptrV v,.int .u64 txn,.int .u64 s] (vaultH v st::L) (λr L'=>r=.int .i64 (applyE st txn s)∧L'=vaultH v (applyS st txn s)::L):=by
 refine calls_vault λmc mi M cs is hok=> ?_
 have hlk:=lk_its is txn;rw[hok.its] at hlk;refine CallsS.of_body Tryz.func73 rfl rfl rfl ?_;refine Q.r ?_;refine S.y (Y.lk true rfl rfl (λw=>Tryz.zeroValue100 w)) ?_
 cases hx:lkL (is.map λi=>(i.txn,i)) txn with
 |none=>
  rw[hx,Option.map_none] at hlk;have hE:applyE st txn s=if s=0∨1099511627776<s then 1 else 6:=by unfold applyE;rw[hlk]
  have hS:applyS st txn s=st:=by unfold applyS;rw[hlk]
  rw[hE,hS];dsimp only
  by_cases h1:s=0∨1099511627776<s
  ·rw[if_pos h1]
   by_cases h1a:s=0
   ·refine Q.r ?_;(repeat (intro b1;refine Q.r ?_))
    exact N.t rfl (by refine Ent.trans ?_ (vault_shut (mc:=mc) (mi:=mi) hok);exact eG) ⟨rfl,rfl⟩
   ·refine Q.r ?_;(repeat (intro b1;refine Q.r ?_))
    exact N.t rfl (by refine Ent.trans ?_ (vault_shut (mc:=mc) (mi:=mi) hok);exact eG) ⟨rfl,rfl⟩
  ·rw[if_neg h1]
   refine Q.r ?_;(repeat (intro b1;refine Q.r ?_));exact N.t rfl (by refine Ent.trans ?_ (vault_shut (mc:=mc) (mi:=mi) hok);exact eG) ⟨rfl,rfl⟩
 |some x=>
  rw[hx,Option.map_some] at hlk;obtain ⟨hmx,hxt⟩:=lk_mem hx;have hox:=hok.ok x hmx;have hwx:=hw.io x.abs (by rw[←hok.its];exact List.mem_map_of_mem hmx);have hxl:x.ops.length≤16:=by simpa using hwx.1
  have hE:applyE st txn s=if s=0∨1099511627776<s∨s≤x.after then 1 else if (x.ops.any λo=>decide (s≤lastS (chV st.ch o.id))) then 7 else if s≤st.mark then 12 else 0:=by unfold applyE;rw[hlk];dsimp only;rw[List.any_map];rfl
  have hS:applyE st txn s=0→applyS st txn s={st with ch:=applyC s st.ch (x.ops.map OV.abs),its:=delL st.its txn}:=λh=>by unfold applyS;rw[hlk];dsimp only;rw[if_pos h]
  clear hlk;dsimp only
  by_cases h1:s=0∨1099511627776<s∨s≤x.after
  ·rw[if_pos h1] at hE
   have hS':=applyS_ne (st:=st) (txn:=txn) (s:=s) (by rw[hE];decide);rw[hE,hS']
   by_cases h1a:s=0
   ·refine Q.r ?_;(repeat (intro b1;refine Q.r ?_))
    exact N.t rfl (by refine Ent.trans ?_ (vault_shut (mc:=mc) (mi:=mi) hok);exact eG) ⟨rfl,rfl⟩
   by_cases h1b:1099511627776<s
   ·refine Q.r ?_;(repeat (intro b1;refine Q.r ?_))
    exact N.t rfl (by refine Ent.trans ?_ (vault_shut (mc:=mc) (mi:=mi) hok);exact eG) ⟨rfl,rfl⟩
   ·have h1c:s≤x.after:=by omega
    refine Q.r ?_;(repeat (intro b1;refine Q.r ?_));exact N.t rfl (by refine Ent.trans ?_ (vault_shut (mc:=mc) (mi:=mi) hok);exact eG) ⟨rfl,rfl⟩
  rw[if_neg h1] at hE;refine Q.r ?_;(repeat (intro b1;refine Q.r ?_));refine swp_cutB (σ:=Unit) (λ_=> [(0,ptrV v),(1,.int .u64 txn),(2,.int .u64 s),(7,.pointer (some ⟨b1,0,none⟩))]) (λ_=>vP v mc mi st.dim st.mark::vC mc cs::vI mi is::chsH M cs::roM M::pt b1 (cl x.cells 100)::L) (λ_=>(x.ops.any λo=>decide (s≤lastS (chV st.ch o.id)))=false) ?_ ?_
  ·refine swp_loop (σ:=Nat) (λk=> [(0,ptrV v),(1,.int .u64 txn),(2,.int .u64 s),(7,.pointer (some ⟨b1,0,none⟩)),(44,.slice x.a x.ops.length x.c),(45,.int .i64 x.ops.length),(46,.int .i64 k)]) (λ_=>vP v mc mi st.dim st.mark::vC mc cs::vI mi is::chsH M cs::roM M::pt b1 (cl x.cells 100)::L)
    (λk=>k≤x.ops.length∧(x.ops.take k).any (λo=>decide (s≤lastS (chV st.ch o.id)))=false) (λk=>x.ops.length - k) 0 zt eG ⟨by omega,by simp⟩ ?_
   rintro k ⟨hk,hany⟩
   by_cases hlt:k<x.ops.length
   ·obtain ⟨o,ho⟩:=mem_get hlt
    have hmo:o∈x.ops:=List.mem_of_getElem? ho;have hrx:RdO (vP v mc mi st.dim st.mark::vC mc cs::vI mi is::chsH M cs::roM M::pt b1 (cl x.cells 100)::L) x.a x.ops:=hox.rd;obtain ⟨b,oo,hia,hr⟩:=RdS.elem (g:=OV.cells) (λ_=>rfl) hrx.1 ho rfl;clear hrx;rw[hia];refine Q.r ?_;(repeat (intro b1;refine Q.r ?_));rename_i bx
    rcases cr_case cs (by rw[hok.ch];exact hok.k1) o.id with ⟨p,q,b2,vs,rfl,e1,e2,e3,e4⟩|⟨e1,e2,e3⟩
    ·refine swp_ent (L':=pt b1 (cl o.cells 119)::vP v mc mi st.dim st.mark::vC mc (p++(o.id,b2,vs)::q)::chainH M b2 vs::vI mi is::chsH M (p++q)::roM M::pt bx (cl x.cells 100)::L) ?_ ?_
     ·refine Ent.pick (Ent.pick (Ent.pick ?_))
      refine Ent.trans (Ent.perm (.swap _ _ _)) ?_;exact (chs_out (p:=p) (q:=q) (x:=(o.id,b2,vs)) (M:=M)).trans (Ent.cons (Ent.perm (.swap _ _ _)))
     refine Q.dgo [true,true,true,false,false,false,false,false] [7] [] [0,1,2,3,4,5,6,8,7,9] ?_;refine Q.rd ?_;refine D.y rfl rfl rfl zk (Y.lk false rfl rfl (λw=>Tryz.zeroValue197 w)) ?_;rw[e1];dsimp only;have hvl:vs.length≤n:=(hw.co (o.id,vs) (by rw[←hok.ch];exact List.mem_map_of_mem (f:=λc:CR=>(c.1,c.2.2)) (List.mem_append_right _ (List.mem_cons_self ..)))).2.1;refine Q.rd ?_;refine D.e rfl rfl rfl ?_;refine S.cr rfl (ChLast_spec M b2 vs _ zo) ?_;rintro _ _ ⟨rfl,rfl⟩;refine Q.r ?_;refine Q.rd ?_;have hcv:chV st.ch o.id=vs:=by unfold chV;rw[←hok.ch,e2];rfl
     have hb:Ent (pt b1 (cl o.cells 119)::vP v mc mi st.dim st.mark::vC mc (p++(o.id,b2,vs)::q)::chainH M b2 vs::vI mi is::chsH M (p++q)::roM M::pt bx (cl x.cells 100)::L) (vP v mc mi st.dim st.mark::vC mc (p++(o.id,b2,vs)::q)::vI mi is::chsH M (p++(o.id,b2,vs)::q)::roM M::pt bx (cl x.cells 100)::L):=
      Ent.drop (Ent.cons (Ent.cons ((Ent.perm (.swap _ _ _)).trans (Ent.cons (chs_in (x:=(o.id,b2,vs)))))))
     by_cases h7:s≤lastS vs
     ·rw[show (x.ops.any λo=>decide (s≤lastS (chV st.ch o.id)))=true from List.any_eq_true.2 ⟨o,hmo,by rw[hcv];exact decide_eq_true h7⟩,if_pos rfl] at hE
      have hS':=applyS_ne (st:=st) (txn:=txn) (s:=s) (by rw[hE];decide);rw[hE,hS'];refine Q.r ?_;refine N.t rfl ?_ ⟨rfl,rfl⟩;refine hb.trans ?_;refine Ent.trans ?_ (vault_shut (mc:=mc) (mi:=mi) hok);exact eG
     ·refine Q.r ?_
      refine ⟨k+1,zt,hb,⟨by omega,?_⟩,by omega⟩;rw[take_snoc ho,List.any_append,hany,List.any_cons,hcv];simp[h7]
    ·have hcv:chV st.ch o.id=[]:=by unfold chV;rw[←hok.ch,e2];rfl
     refine Q.dgo [true,true,true,false,false,false,false] [7] [] [0,1,2,3,4,5,6,8,7,9] ?_;refine Q.rd ?_;refine D.y rfl rfl rfl zk (Y.lk false rfl rfl (λw=>Tryz.zeroValue197 w)) ?_;rw[e1];dsimp only;refine Q.rd ?_;refine D.e rfl rfl rfl ?_;refine S.cr rfl (LastN_spec _) ?_;rintro _ _ ⟨rfl,rfl⟩;refine Q.r ?_;refine Q.rd ?_;refine Q.r ?_;refine ⟨k+1,zt,Ent.drop (Ent.refl _),⟨by omega,?_⟩,by omega⟩;rw[take_snoc ho,List.any_append,hany,List.any_cons,hcv,decide_eq_false (show ¬s≤lastS [] by show ¬s≤0;omega)];rfl
   ·have hke:k=x.ops.length:=by omega
    subst hke;rw[List.take_length] at hany;refine Q.r ?_;exact ⟨(),zt,Ent.refl _,hany⟩
  intro uu hany;rw[hany] at hE;simp only[Bool.false_eq_true,if_false] at hE
  by_cases h12:s≤st.mark
  ·rw[if_pos h12] at hE
   have hS':=applyS_ne (st:=st) (txn:=txn) (s:=s) (by rw[hE];decide);rw[hE,hS'];refine Q.r ?_;exact N.t rfl (by refine Ent.trans ?_ (vault_shut (mc:=mc) (mi:=mi) hok);exact eG) ⟨rfl,rfl⟩
  rw[if_neg h12] at hE;rw[hS hE,hE];refine Q.r ?_;refine swp_loop (σ:=Nat×(OM)×List CR) (λu=> [(0,ptrV v),(1,.int .u64 txn),(2,.int .u64 s),(68,.slice x.a x.ops.length x.c),(69,.int .i64 x.ops.length),(70,.int .i64 u.1)]) (λu=>vP v mc mi st.dim st.mark::vC mc u.2.2::vI mi is::chsH u.2.1 u.2.2::roM u.2.1::pt b1 (cl x.cells 100)::L)
   (λu=>u.1≤x.ops.length∧leM M u.2.1∧u.2.2.map (λc=>(c.1,c.2.2))=applyC s st.ch ((x.ops.take u.1).map OV.abs)) (λu=>x.ops.length - u.1) (0,M,cs) zt eG ⟨by omega,leM.refl M,by dsimp only;rw[hok.ch];rfl⟩ ?_
  rintro ⟨k,M1,cs1⟩ ⟨hk,hl1,hcs⟩;dsimp only at hk hl1 hcs ⊢
  by_cases hlt:k<x.ops.length
  ·obtain ⟨o,ho⟩:=mem_get hlt
   have hmo:o∈x.ops:=List.mem_of_getElem? ho;have hrx:RdO (vP v mc mi st.dim st.mark::vC mc cs1::vI mi is::chsH M1 cs1::roM M1::pt b1 (cl x.cells 100)::L) x.a x.ops:=(hox.mono hl1).rd;obtain ⟨b,oo,hia,hr⟩:=RdS.elem (g:=OV.cells) (λ_=>rfl) hrx.1 ho rfl;clear hrx;rw[hia];refine Q.r ?_;(repeat (intro b1;refine Q.r ?_));rename_i bx;have hkk:keysOK (cs1.map λc=>(c.1,c.2.2)):=by rw[hcs];exact applyC_ok hok.k1
   refine swp_cutT (σ:=Bool) (λt=> [(0,ptrV v),(1,.int .u64 txn),(2,.int .u64 s),(12,.pointer (some ⟨b1,0,none⟩)),(68,.slice (some ⟨b,oo,none⟩) x.ops.length x.c),(69,.int .i64 x.ops.length),(70,.int .i64 k),(81,.bool t)])
    (λ_=>pt b1 (cl o.cells 119)::vP v mc mi st.dim st.mark::vC mc cs1::vI mi is::chsH M1 cs1::roM M1::pt bx (cl x.cells 100)::L)
    (λt=>(t=true∧∀u∈cs1,u.1≠o.id)∨(t=false∧∃p q b vs,cs1=p++(o.id,b,vs)::q∧(∀u∈p,u.1≠o.id)∧∀u∈q,u.1≠o.id)) ?_ ?_
   ·refine Q.dgo [true,true,true,false,false,false,false] [] [] [0,1,2,3,4,5,6,7] ?_
    refine Q.rd ?_;refine D.y rfl rfl rfl zk (Y.lk false rfl rfl (λw=>Tryz.zeroValue197 w)) ?_
    rcases cr_case cs1 hkk o.id with ⟨p,q,b2,vs,e0,e1,e2,e3,e4⟩|⟨e1,e2,e3⟩
    ·rw[e1]
     dsimp only;refine Q.rd ?_;refine Q.r ?_;exact ⟨false,zt,Ent.refl _,.inr ⟨rfl,p,q,b2,vs,e0,e3,e4⟩⟩
    ·rw[e1]
     dsimp only;refine Q.rd ?_;refine Q.r ?_;exact ⟨true,zt,Ent.refl _,.inl ⟨rfl,e3⟩⟩
   intro t ht;refine swp_cutT (σ:=List CR×List CR×Nat×VL) (λu=> [(0,ptrV v),(1,.int .u64 txn),(2,.int .u64 s),(12,.pointer (some ⟨b1,0,none⟩)),(68,.slice (some ⟨b,oo,none⟩) x.ops.length x.c),(69,.int .i64 x.ops.length),(70,.int .i64 k)])
    (λu=>pt b1 (cl o.cells 119)::vP v mc mi st.dim st.mark::vC mc (u.1++(o.id,u.2.2.1,u.2.2.2)::u.2.1)::chainH M1 u.2.2.1 u.2.2.2::roM M1::vI mi is::chsH M1 (u.1++u.2.1)::pt bx (cl x.cells 100)::L)
    (λu=>AtC (cs1.map λc=>(c.1,c.2.2)) o.id u.1 u.2.1 u.2.2.1 u.2.2.2) ?_ ?_
   ·rcases ht with ⟨rfl,e3⟩|⟨rfl,p,q,b2,vs,rfl,e3,e4⟩
    ·refine Q.r ?_
     refine Q.dgo [true,true,false,false,false,false,false] [6,10] [] [0,1,2,3,4,5,6,7,8,9,10] ?_;refine Q.rd ?_;refine D.e rfl rfl rfl ?_;refine S.cr rfl (ChNew0_spec M1 _) ?_;rintro _ _ ⟨b2,rfl,rfl⟩;refine Q.r ?_;refine Q.rd ?_;refine D.e rfl rfl rfl ?_;refine S.mu (r:=ptrV) (u:=b2) rfl rfl rfl ?_;refine Q.r ?_;refine Q.rd ?_;refine N.tn ?_;rw[putL_none (λu hu=>by obtain ⟨w,hw,rfl⟩:=List.mem_map.1 hu;exact e3 w hw)];refine ⟨(cs1,[],b2,[]),zt,?_,AtC.none e3⟩;dsimp only;rw[List.append_nil,show vC mc (cs1++[(o.id,b2,[])])=mpO U64 ptrV mc (cs1.map (λc=>(c.1,c.2.1))++[(o.id,b2)]) by unfold vC;rw[List.map_append];rfl];exact eG
    ·refine Q.r ?_
     refine ⟨(p,q,b2,vs),zt,?_,AtC.some e3 e4⟩;refine Ent.cons (Ent.cons (Ent.cons ?_));refine (Ent.perm (.swap _ _ _)).trans ?_;refine (chs_out (p:=p) (q:=q) (x:=(o.id,b2,vs)) (M:=M1)).trans ?_;exact Ent.cons eG
   rintro ⟨p,q,b2,vs⟩ hat;dsimp only at hat ⊢;refine Q.r ?_;refine Q.dgo [true,true,true,false,false,false,false,false] [11] [] [0,1,2,3,4,5,6,7,8,9,10,11] ?_;refine Q.rd ?_;refine D.y rfl rfl rfl zk (Y.lk false rfl rfl (λw=>Tryz.zeroValue197 w)) ?_;rw[show lkL ((p++(o.id,b2,vs)::q).map λc=>(c.1,c.2.1)) o.id=some b2 by rw[List.map_append,List.map_cons];exact lkL_mid λu hu=>by obtain ⟨w,hw,rfl⟩:=List.mem_map.1 hu;exact hat.hp w hw];dsimp only;refine Q.rd ?_;refine D.e rfl rfl rfl ?_;have hcl:chV (cs1.map λc=>(c.1,c.2.2)) o.id=chV st.ch o.id:=by
    unfold chV;rw[hcs,lk_apply hok.k1];intro hm;obtain ⟨i1,hi1,hi2⟩:=List.mem_iff_getElem.1 hm;simp only[List.length_map,List.length_take] at hi1;have hnd:=hwx.2.1;have h2:(x.abs.2.2.map (·.1))[k]? =some o.id:=by simp[ho]
    have h1':(x.abs.2.2.map (·.1))[i1]? =some o.id:=by
     have:((x.ops.take k).map OV.abs).map (·.1)=(x.abs.2.2.map (·.1)).take k:=by simp[List.map_take]
     rw[List.getElem_of_eq this] at hi2;rw[List.getElem_take] at hi2;rw[←hi2];exact List.getElem?_eq_getElem _
    have e:=(List.getElem?_inj (by simp;omega) hnd).1 (h1'.trans h2.symm);omega
   have hvs:vs=chV st.ch o.id:=hat.hv.trans hcl;have hvl:vs.length≤n:=by
    rw[hvs];unfold chV
    cases hz:lkL st.ch o.id with
    |none=>simp
    |some w=>exact (hw.co _ (lk_memL hz)).2.1
   have hwo:=hwx.2.2 o.abs (List.mem_map_of_mem (f:=OV.abs) hmo);have hlo:o.vec.length≤8:=hwo.1;have hlast:¬s≤lastS vs:=by
    rw[hvs];intro hh;have:=List.any_eq_false.1 hany o hmo;exact this (decide_eq_true hh)
   have hput:putE vs s o.vec=0:=by
    unfold putE;rw[if_neg zo,if_neg (λhh=>by rw[show rightV o.vec=true from hwo.2 hh.1] at hh;cases hh.2),if_neg hlast]
   refine S.cr rfl (Put_spec M1 b2 vs ⟨s,o.a,o.c,o.vec⟩ _ ((hox.mono hl1).2 o hmo).rd (by dsimp only;omega) zo) ?_;rintro _ _ ⟨rfl,_,hh⟩;obtain ⟨M2,hl2,rfl⟩:=hh hput;refine Q.r ?_;refine Q.rd ?_;refine Q.r ?_;refine ⟨(k+1,M2,p++(o.id,b2,vs++[(s,o.vec)])::q),zt,?_,⟨by dsimp only;omega,hl1.trans hl2,?_⟩,by dsimp only;omega⟩
   ·dsimp only
    rw[show vC mc (p++(o.id,b2,vs)::q)=vC mc (p++(o.id,b2,vs++[(s,o.vec)])::q) by unfold vC;simp];refine Ent.drop (Ent.cons (Ent.cons ?_));refine Ent.trans ?_ (Ent.cons (chs_in (x:=(o.id,b2,vs++[(s,o.vec)])) (p:=p) (q:=q)));refine Ent.pick (Ent.pick ?_);refine (Ent.perm (.swap _ _ _)).trans ?_;exact chs_mono hl2
   ·dsimp only
    rw[hat.put,hcs,take_snoc ho,List.map_append,List.map_cons,List.map_nil,applyC_snoc];unfold putC;rw[←hcs,hat.hv]
  ·have hke:k=x.ops.length:=by omega
   subst hke;rw[List.take_length] at hcs;refine Q.r ?_;refine S.dl rfl rfl ?_;rw[del_map];refine Q.r ?_;have hok2:VOK M1 {st with ch:=applyC s st.ch (x.ops.map OV.abs),its:=delL st.its txn} cs1 (is.filter λi=> !decide (i.txn=txn)):=by
    have h2:=hok.del txn;exact ⟨hcs,h2.its,λi hi=>(h2.ok i hi).mono hl1,applyC_ok hok.k1,h2.k2⟩
   refine N.t rfl (Ent.trans ?_ (vault_shut (mc:=mc) (mi:=mi) hok2)) ⟨rfl,rfl⟩;exact eG
end Go.Proofs.YtjlgabojhnnbaaaGreatDoor
namespace Go.Proofs.YtjlgabojhnnbaaaGreatDoor
open Go Go.SX
attribute [local irreducible] swp opsS thenS blockS retS CallsS St Ent YieldS anyS drawS
attribute [local irreducible] opsI
theorem KeysI_spec {α:Type}(rr:α→Value)(bm b:Nat)(m:List (Int×α))(A:HL):SeqS Tryz.prog 169 [.pointer (some ⟨bm,0,none⟩)] U64 m.length (λks=>ks.Perm (m.map (·.1)))
  (pt bm (cl [.map (some b)] 169)::mpO U64 rr b m::A) (mpO U64 rr b m::A):=by
 intro l J hJ;refine CallsS.of_body Tryz.func169 rfl rfl rfl ?_;refine Q.r ?_;refine S.rg rfl (λr=> ?_);refine Q.r ?_;refine swp_loop (σ:=List Nat) (λvis=> [(0,.func (.yield l) #[] #[]),(5,.pointer (some ⟨r,0,none⟩))])
  (λvis=>J (vis.filterMap λi=>(m[i]?).map (·.1))::itO U64 rr b r m vis::A) (λvis=>vis.Nodup∧∀i∈vis,i<m.length) (λvis=>m.length - vis.length) [] zt (by simp only[List.filterMap_nil];exact eG) ⟨by simp,by simp⟩ ?_
 rintro vis ⟨hv1,hv2⟩;refine Q.r ?_;refine S.nx rfl (λhend=> ?_) (λi p hp hi=> ?_)
 ·refine Q.r ?_
  exact N.n0 RV.nil (Ent.cons itO_map) ⟨_,vis_map _ hv1 hv2 hend,rfl⟩
 ·have hil:i<m.length:=(List.getElem?_eq_some_iff.1 hp).1
  obtain ⟨hm1,hm2,hm3⟩:=vis_more hv1 hv2 hil hi;have hvl:(vis.filterMap λi=>(m[i]?).map (·.1)).length≤vis.length:=List.length_filterMap_le _ _;have happ:((vis++[i]).filterMap λi=>(m[i]?).map (·.1))=(vis.filterMap λi=>(m[i]?).map (·.1))++[p.1]:=by
   rw[List.filterMap_append];simp[hp]
  refine Q.r ?_;refine S.y (Y.en rfl hp) ?_;refine S.y (Y.ext rfl rfl) ?_;refine S.y (Y.as rfl) ?_;refine opsS_nil ?_;refine N.tn ?_;refine swp_seq ?_;refine swp_regionI ?_;refine opsI_one (λ_ h=>by cases h) rfl ?_;refine Q.r ?_;refine opsI_one (λ_ h=>by cases h) rfl ?_;refine Q.r ?_;refine opsI_yield rfl rfl ((hJ _ p.1 zo).frame (R:=_)) ?_;refine opsI_one (λ_ h=>by cases h) rfl ?_;refine Q.r ?_;refine opsI_nil ?_;refine Q.r ?_;refine ⟨vis++[i],zt,?_,⟨hm1,hm2⟩,by simp;omega⟩;rw[happ];exact eG
theorem MapKeysI_spec (mo:Option Nat)(L:HL):CallsS Tryz.prog 147 [.map mo] L
  (λv L'=>∃bm,v=.func (.func 169) #[] [.pointer (some ⟨bm,0,none⟩)].toArray∧L'=pt bm (cl [.map mo] 169)::L):=by
 refine CallsS.of_body Tryz.func147 rfl rfl rfl ?_;refine Q.r ?_;(repeat (intro b1;refine Q.r ?_));refine S.y (Y.mf rfl rfl) ?_;refine Q.r ?_;exact N.t rfl (Ent.refl _) ⟨_,rfl,rfl⟩
theorem KeysC_spec {α:Type}(rr:α→Value)(bm b:Nat)(m:List (Int×α))(A:HL):SeqS Tryz.prog 176 [.pointer (some ⟨bm,0,none⟩)] U64 m.length (λks=>ks.Perm (m.map (·.1)))
  (pt bm (cl [.map (some b)] 168)::mpO U64 rr b m::A) (mpO U64 rr b m::A):=by
 intro l J hJ;refine CallsS.of_body Tryz.func176 rfl rfl rfl ?_;refine Q.r ?_;refine S.rg rfl (λr=> ?_);refine Q.r ?_;refine swp_loop (σ:=List Nat) (λvis=> [(0,.func (.yield l) #[] #[]),(5,.pointer (some ⟨r,0,none⟩))])
  (λvis=>J (vis.filterMap λi=>(m[i]?).map (·.1))::itO U64 rr b r m vis::A) (λvis=>vis.Nodup∧∀i∈vis,i<m.length) (λvis=>m.length - vis.length) [] zt (by simp only[List.filterMap_nil];exact eG) ⟨by simp,by simp⟩ ?_
 rintro vis ⟨hv1,hv2⟩;refine Q.r ?_;refine S.nx rfl (λhend=> ?_) (λi p hp hi=> ?_)
 ·refine Q.r ?_
  exact N.n0 RV.nil (Ent.cons itO_map) ⟨_,vis_map _ hv1 hv2 hend,rfl⟩
 ·have hil:i<m.length:=(List.getElem?_eq_some_iff.1 hp).1
  obtain ⟨hm1,hm2,hm3⟩:=vis_more hv1 hv2 hil hi;have hvl:(vis.filterMap λi=>(m[i]?).map (·.1)).length≤vis.length:=List.length_filterMap_le _ _;have happ:((vis++[i]).filterMap λi=>(m[i]?).map (·.1))=(vis.filterMap λi=>(m[i]?).map (·.1))++[p.1]:=by
   rw[List.filterMap_append];simp[hp]
  refine Q.r ?_;refine S.y (Y.en rfl hp) ?_;refine S.y (Y.ext rfl rfl) ?_;refine S.y (Y.as rfl) ?_;refine opsS_nil ?_;refine N.tn ?_;refine swp_seq ?_;refine swp_regionI ?_;refine opsI_one (λ_ h=>by cases h) rfl ?_;refine Q.r ?_;refine opsI_one (λ_ h=>by cases h) rfl ?_;refine Q.r ?_;refine opsI_yield rfl rfl ((hJ _ p.1 zo).frame (R:=_)) ?_;refine opsI_one (λ_ h=>by cases h) rfl ?_;refine Q.r ?_;refine opsI_nil ?_;refine Q.r ?_;refine ⟨vis++[i],zt,?_,⟨hm1,hm2⟩,by simp;omega⟩;rw[happ];exact eG
theorem MapKeysC_spec (mo:Option Nat)(L:HL):CallsS Tryz.prog 164 [.map mo] L
  (λv L'=>∃bm,v=.func (.func 176) #[] [.pointer (some ⟨bm,0,none⟩)].toArray∧L'=pt bm (cl [.map mo] 168)::L):=by
 refine CallsS.of_body Tryz.func164 rfl rfl rfl ?_;refine Q.r ?_;(repeat (intro b1;refine Q.r ?_));refine S.y (Y.mf rfl rfl) ?_;refine Q.r ?_;exact N.t rfl (Ent.refl _) ⟨_,rfl,rfl⟩
end Go.Proofs.YtjlgabojhnnbaaaGreatDoor
namespace Go.Proofs.YtjlgabojhnnbaaaGreatDoor
open Go Go.SX
attribute [local irreducible] swp opsS thenS blockS retS CallsS St Ent YieldS anyS drawS
attribute [local irreducible] ar
abbrev AR (bk:Nat)(d:Array Int)(rs:List Value):HP:=pt bk (cl (ar .u64 d rs) 31)
abbrev SV (bk n c:Nat):Value:=.slice (some ⟨bk,0,none⟩) n c
theorem Less_spec (x y:Int)(L:HL):CallsS Tryz.prog 185 [.int .u64 x,.int .u64 y] L (λv L'=>v=.bool (Sort.ltInt x y)∧L'=L):=by
 have nan:∀z,CallsS Tryz.prog 195 [.int .u64 z] L (λv L'=>v=.bool false∧L'=L):=λz=>by
  refine CallsS.of_body Tryz.func195 rfl rfl rfl ?_;refine Q.r ?_;exact N.t rfl (Ent.refl _) ⟨by simp[packV],rfl⟩
 refine CallsS.of_body Tryz.func185 rfl rfl rfl ?_;refine Q.r ?_;refine S.cr rfl (nan x) ?_;rintro _ _ ⟨rfl,rfl⟩;refine Q.r ?_;exact N.t rfl (Ent.refl _) ⟨rfl,rfl⟩
theorem insertionSort_spec (bk n c a b:Nat)(d:Array Int)(rs:List Value)(L:HL)(hd:d.size=n)(ha:a≤n)(hb:b≤n)(hn:n≤4611686018427387904):
  CallsS Tryz.prog 179 [SV bk n c,.int .i64 a,.int .i64 b] (AR bk d rs::L) (λv L'=>v=.tuple #[]∧L'=AR bk (Sort.insertionSort Sort.ltInt d a b) rs::L):=by
 refine CallsS.of_body Tryz.func179 rfl rfl rfl ?_;refine Q.rn ?_;refine swp_loop (σ:=Nat×Array Int) (λs=> [(0,SV bk n c),(1,.int .i64 a),(2,.int .i64 b),(6,.int .i64 s.1)]) (λs=>AR bk s.2 rs::L)
  (λs=>a+1≤s.1∧s.1≤n+1∧s.2.size=n∧Sort.insOuter Sort.ltInt a b s.1 s.2=Sort.insertionSort Sort.ltInt d a b) (λs=>b - s.1) (a+1,d) zt eG ⟨Nat.le_refl _,by dsimp only;omega,hd,rfl⟩ ?_
 rintro ⟨i,e⟩ ⟨h1,h2,h3,h4⟩;dsimp only at h1 h2 h3 h4 ⊢;rw[Sort.insOuter] at h4
 by_cases hi:i<b
 ·rw[if_pos hi] at h4
  refine Q.rn ?_;refine swp_loop (σ:=Nat×Array Int) (λs=> [(0,SV bk n c),(1,.int .i64 a),(2,.int .i64 b),(6,.int .i64 i),(7,.int .i64 s.1)]) (λs=>AR bk s.2 rs::L)
   (λs=>s.1≤i∧s.2.size=n∧Sort.insInner Sort.ltInt a s.1 s.2=Sort.insInner Sort.ltInt a i e) (λs=>s.1) (i,e) zt eG ⟨Nat.le_refl _,h3,rfl⟩ ?_
  rintro ⟨j,g⟩ ⟨g1,g2,g3⟩;dsimp only at g1 g2 g3 ⊢
  by_cases hj:a<j
  ·obtain ⟨k,rfl⟩:∃k,j=k+1:=⟨j - 1,by omega⟩
   rw[Sort.insInner,show decide (k+1>a)=true by simpa using hj,Bool.true_and] at g3;refine Q.rn ?_;refine Q.dgo [true] [13] [] [0,1,2,3,4,5,6,7,8,9,10,11,12,13,14] ?_;refine Q.rdn ?_;refine D.e rfl rfl rfl ?_;refine S.guard rfl ?_;refine S.cr rfl (Less_spec _ _ _) ?_;rintro _ M ⟨rfl,rfl⟩
   cases hl:Sort.ltInt g[k+1]! g[k]! with
   |false=>
    rw[show k+1 - 1=k from rfl,hl];rw[hl] at g3;refine Q.rn ?_;refine Q.rdn ?_;refine Q.rn ?_;refine ⟨(i+1,g),zt,by exact eG,⟨by dsimp only;omega,by dsimp only;omega,g2,?_⟩,by dsimp only;omega⟩;simp only[Bool.false_eq_true,if_false] at g3;rw[g3];exact h4
   |true=>
    rw[show k+1 - 1=k from rfl,hl];rw[hl] at g3;refine Q.rn ?_;refine Q.rdn ?_;refine Q.rn ?_;refine Q.dgo [true] [15,17] [15] [0,1,2,3,4,5,6,7,8,9,10,11,12,13,14,15,16,17] ?_;refine Q.rdn ?_;refine Q.dc rfl rfl rfl rfl ?_;refine Q.rn ?_;refine Q.rdn ?_;refine D.e rfl rfl rfl ?_;refine Q.rn ?_;refine Q.rdn ?_;refine Q.rn ?_;simp only[if_true] at g3;exact ⟨(k,Sort.swp g (k+1) k),zt,Ent.refl _,⟨by dsimp only;omega,by rw[swp_size];exact g2,g3⟩,by dsimp only;omega⟩
  ·have hgg:Sort.insInner Sort.ltInt a j g=g:=by
    cases j with
    |zero=>rfl
    |succ j=>rw[Sort.insInner,show decide (j+1>a)=false by simpa using hj];simp
   rw[hgg] at g3;refine Q.rn ?_;refine Q.dgo [true] [13] [] [0,1,2,3,4,5,6,7,8,9,10,11,12,13,14] ?_;refine Q.rdn ?_;refine Q.rn ?_;exact ⟨(i+1,g),zt,Ent.refl _,⟨by dsimp only;omega,by dsimp only;omega,g2,by dsimp only;rw[g3];exact h4⟩,by dsimp only;omega⟩
 ·rw[if_neg hi] at h4
  subst h4;refine Q.rn ?_;exact N.n0 RV.nil (Ent.refl _) ⟨rfl,rfl⟩
theorem siftDown_spec (bk n c lo hi first:Nat)(d:Array Int)(rs:List Value)(L:HL)(hd:d.size=n)(hlo:lo≤hi)(hb:first+hi≤n)(hn:n≤17592186044416):
  CallsS Tryz.prog 190 [SV bk n c,.int .i64 lo,.int .i64 hi,.int .i64 first] (AR bk d rs::L) (λv L'=>v=.tuple #[]∧L'=AR bk (Sort.siftDown Sort.ltInt hi first lo d) rs::L):=by
 refine CallsS.of_body Tryz.func190 rfl rfl rfl ?_;refine Q.rn ?_;refine swp_loop (σ:=Nat×Array Int) (λs=> [(0,SV bk n c),(2,.int .i64 hi),(3,.int .i64 first),(8,.int .i64 s.1)]) (λs=>AR bk s.2 rs::L)
  (λs=>s.1≤hi∧s.2.size=n∧Sort.siftDown Sort.ltInt hi first s.1 s.2=Sort.siftDown Sort.ltInt hi first lo d) (λs=>hi - s.1) (lo,d) zt eG ⟨hlo,hd,rfl⟩ ?_
 rintro ⟨r,e⟩ ⟨h1,h2,h3⟩;dsimp only at h1 h2 h3 ⊢;rw[Sort.siftDown] at h3
 by_cases hr:2*r+1≥hi
 ·rw[dif_pos hr] at h3
  subst h3;refine Q.rn ?_;exact N.n0 RV.nil (Ent.refl _) ⟨rfl,rfl⟩
 rw[dif_neg hr] at h3;refine Q.rn ?_;refine swp_cutT (σ:=Bool) (λs=> [(0,SV bk n c),(2,.int .i64 hi),(3,.int .i64 first),(8,.int .i64 r),(9,.int .i64 (2*r+1:Nat)),(36,.bool s)]) (λs=>AR bk e rs::L)
  (λs=>s=(decide (2*r+1+1<hi)&&Sort.ltInt e[first+(2*r+1)]! e[first+(2*r+1)+1]!)) ?_ ?_
 ·by_cases hc:2*r+1+1<hi
  ·refine Q.dgo [true] [18] [] [0,1,2,3,4,5,6,7,8,9,10,11,12,13,14,15,16,17,18,19] ?_
   refine Q.rdn ?_;refine D.e rfl rfl rfl ?_;refine S.guard rfl ?_;refine S.cr rfl (Less_spec _ _ _) ?_;rintro _ M ⟨rfl,rfl⟩;refine Q.rn ?_;refine Q.rdn ?_
   first|refine N.tn ?_|skip
   exact ⟨_,zt,Ent.refl _,by simp[hc]⟩
  ·refine Q.dgo [true] [18] [] [0,1,2,3,4,5,6,7,8,9,10,11,12,13,14,15,16,17,18,19] ?_
   refine Q.rdn ?_
   first|refine N.tn ?_|skip
   exact ⟨false,zt,Ent.refl _,by simp[hc]⟩
 intro s hs;refine swp_cutT (σ:=Nat) (λch=> [(0,SV bk n c),(2,.int .i64 hi),(3,.int .i64 first),(8,.int .i64 r),(9,.int .i64 ch)]) (λ_=>AR bk e rs::L)
  (λch=>ch<hi∧r<ch∧(if (!Sort.ltInt e[first+r]! e[first+ch]!)=true then e else Sort.siftDown Sort.ltInt hi first ch (Sort.swp e (first+r) (first+ch)))=Sort.siftDown Sort.ltInt hi first lo d) ?_ ?_
 ·rw[←hs] at h3
  cases s with
  |true=>
   have hc:2*r+1+1<hi:=by
    by_cases hc:2*r+1+1<hi
    ·exact hc
    ·simp[hc] at hs
   rw[if_pos rfl,dif_pos (show 2*r+2<hi from hc)] at h3;refine Q.rn ?_
   first|refine N.tn ?_|skip
   exact ⟨2*r+1+1,zt,Ent.refl _,hc,by omega,h3⟩
  |false=>
   simp only[Bool.false_eq_true,if_false] at h3;refine Q.rn ?_
   first|refine N.tn ?_|skip
   exact ⟨2*r+1,zt,Ent.refl _,by omega,by omega,h3⟩
 rintro ch ⟨c1,c2,c3⟩;clear hs h3;refine Q.rn ?_;refine Q.dgo [true] [12] [] [0,1,2,3,4,5,6,7,8,9,10,11,12,13] ?_;refine Q.rdn ?_;refine D.e rfl rfl rfl ?_;refine S.cr rfl (Less_spec _ _ _) ?_;rintro _ M ⟨rfl,rfl⟩
 cases hl:Sort.ltInt e[first+r]! e[first+ch]! with
 |false=>
  rw[hl] at c3;simp only[Bool.not_false,if_true] at c3;subst c3;refine Q.rn ?_;refine Q.rdn ?_;refine Q.rn ?_;exact N.r0 RV.nil (Ent.refl _) ⟨rfl,rfl⟩
 |true=>
  rw[hl] at c3;simp only[Bool.not_true,Bool.false_eq_true,if_false] at c3;refine Q.rn ?_;refine Q.rdn ?_;refine Q.rn ?_;refine Q.dgo [true] [21,23] [21] [0,1,2,3,4,5,6,7,8,9,10,11,12,13,14,15,16,17,18,19,20,21,22,23] ?_;refine Q.rdn ?_;refine Q.dc rfl rfl rfl rfl ?_;refine Q.rn ?_;refine Q.rdn ?_;refine D.e rfl rfl rfl ?_;refine Q.rn ?_;refine Q.rdn ?_;refine Q.rn ?_;exact ⟨(ch,Sort.swp e (first+r) (first+ch)),zt,Ent.refl _,⟨by dsimp only;omega,by rw[swp_size];exact h2,c3⟩,by dsimp only;omega⟩
theorem siftDown_size :∀(hi first root:Nat) (d:Array Int),(Sort.siftDown Sort.ltInt hi first root d).size=d.size:=by
 intro hi first root d
 induction h:hi - root using Nat.strongRecOn generalizing root d with
 |_ k ih=>
  rw[Sort.siftDown]
  split
  ·rfl
  ·split
   ·split
    ·rfl
    ·split
     ·rw[ih _ zo _ _ rfl,swp_size]
     ·rfl
   ·split
    ·rfl
    ·rw[ih _ zo _ _ rfl,swp_size]
theorem heapSort_spec (bk n c a b:Nat)(d:Array Int)(rs:List Value)(L:HL)(hd:d.size=n)(ha:a<b)(hb:b≤n)(hn:n≤17592186044416):
  CallsS Tryz.prog 180 [SV bk n c,.int .i64 a,.int .i64 b] (AR bk d rs::L) (λv L'=>v=.tuple #[]∧L'=AR bk (Sort.heapSort Sort.ltInt d a b) rs::L):=by
 refine CallsS.of_body Tryz.func180 rfl rfl rfl ?_;refine Q.rn ?_;have hsub:∀k:Nat,((k+1:Nat):Int) - 1=(k:Int):=λk=>by omega
 refine swp_cutB (σ:=Array Int) (λ_=> [(0,SV bk n c),(6,.int .i64 a),(7,.int .i64 (0:Nat)),(8,.int .i64 (b - a:Nat))]) (λe=>AR bk e rs::L)
  (λe=>e.size=n∧e=Sort.heapBuild Sort.ltInt (b - a) a ((b - a - 1) / 2+1) d) ?_ ?_
 ·refine swp_loop (σ:=Nat×Array Int) (λs=> [(0,SV bk n c),(6,.int .i64 a),(7,.int .i64 (0:Nat)),(8,.int .i64 (b - a:Nat)),(9,.int .i64 ((s.1:Int) - 1))]) (λs=>AR bk s.2 rs::L)
   (λs=>s.1≤b - a∧s.2.size=n∧Sort.heapBuild Sort.ltInt (b - a) a s.1 s.2=Sort.heapBuild Sort.ltInt (b - a) a ((b - a - 1) / 2+1) d) (λs=>s.1) ((b - a - 1) / 2+1,d) ⟨rfl,rfl,rfl,rfl,congrArg some (congrArg (Value.int .i64) zo),trivial⟩ eG ⟨by dsimp only;omega,hd,rfl⟩ ?_
  rintro ⟨k,e⟩ ⟨h1,h2,h3⟩;dsimp only at h1 h2 h3 ⊢
  cases k with
  |zero=>
   refine Q.rn ?_;exact ⟨e,zt,Ent.refl _,h2,h3⟩
  |succ k=>
   rw[hsub];refine Q.rn ?_;refine S.cr rfl (siftDown_spec bk n c k (b - a) a e rs L h2 zo zo hn) ?_;rintro _ _ ⟨rfl,rfl⟩;refine Q.rn ?_;exact ⟨(k,_),zt,Ent.refl _,⟨by dsimp only;omega,by rw[siftDown_size];exact h2,h3⟩,by dsimp only;omega⟩
 rintro e ⟨h2,rfl⟩;refine Q.rn ?_;refine swp_loop (σ:=Nat×Array Int) (λs=> [(0,SV bk n c),(6,.int .i64 a),(7,.int .i64 (0:Nat)),(10,.int .i64 ((s.1:Int) - 1))]) (λs=>AR bk s.2 rs::L)
  (λs=>s.1≤b - a∧s.2.size=n∧Sort.heapPop Sort.ltInt a s.1 s.2=Sort.heapSort Sort.ltInt d a b) (λs=>s.1) (b - a,Sort.heapBuild Sort.ltInt (b - a) a ((b - a - 1) / 2+1) d) ⟨rfl,rfl,rfl,congrArg some (congrArg (Value.int .i64) zo),trivial⟩ eG ⟨Nat.le_refl _,h2,rfl⟩ ?_
 clear h2;rintro ⟨k,e⟩ ⟨h1,h2,h3⟩;dsimp only at h1 h2 h3 ⊢
 cases k with
 |zero=>
  refine Q.rn ?_;exact N.n0 RV.nil (Ent.refl _) ⟨rfl,by rw[←h3];rfl⟩
 |succ k=>
  rw[hsub];refine Q.rn ?_;refine Q.dgo [true] [17,19] [17] [0,1,2,3,4,5,6,7,8,9,10,11,12,13,14,15,16,17,18,19] ?_;refine Q.rdn ?_;refine Q.dc rfl rfl rfl rfl ?_;refine Q.rn ?_;refine Q.rdn ?_;refine D.e rfl rfl rfl ?_;refine Q.rn ?_;refine Q.rdn ?_;refine Q.rn ?_;refine S.cr rfl (siftDown_spec bk n c 0 k a (Sort.swp e a (a+k)) rs L (by rw[swp_size];exact h2) zo zo hn) ?_;rintro _ _ ⟨rfl,rfl⟩;refine Q.rn ?_;exact ⟨(k,_),zt,Ent.refl _,⟨by dsimp only;omega,by rw[siftDown_size,swp_size];exact h2,h3⟩,by dsimp only;omega⟩
theorem reverseRange_spec (bk n c a b:Nat)(d:Array Int)(rs:List Value)(L:HL)(hd:d.size=n)(ha:a<b)(hb:b≤n)(hn:n≤17592186044416):
  CallsS Tryz.prog 183 [SV bk n c,.int .i64 a,.int .i64 b] (AR bk d rs::L) (λv L'=>v=.tuple #[]∧L'=AR bk (Sort.reverseRange d a b) rs::L):=by
 refine CallsS.of_body Tryz.func183 rfl rfl rfl ?_;refine Q.rn ?_;refine swp_loop (σ:=Nat×Nat×Array Int) (λs=> [(0,SV bk n c),(6,.int .i64 s.1),(7,.int .i64 s.2.1)]) (λs=>AR bk s.2.2 rs::L)
  (λs=>s.1≤b∧s.2.1<b∧s.2.2.size=n∧Sort.reverseLoop s.1 s.2.1 s.2.2=Sort.reverseRange d a b) (λs=>s.2.1 - s.1) (a,b - 1,d) zt eG ⟨by dsimp only;omega,by dsimp only;omega,hd,rfl⟩ ?_
 rintro ⟨i,j,e⟩ ⟨h1,h2,h3,h4⟩;dsimp only at h1 h2 h3 h4 ⊢;rw[Sort.reverseLoop] at h4
 by_cases hij:i<j
 ·rw[if_pos hij] at h4
  refine Q.rn ?_;refine Q.dgo [true] [13,15] [13] [0,1,2,3,4,5,6,7,8,9,10,11,12,13,14,15] ?_;refine Q.rdn ?_;refine Q.dc rfl rfl rfl rfl ?_;refine Q.rn ?_;refine Q.rdn ?_;refine D.e rfl rfl rfl ?_;refine Q.rn ?_;refine Q.rdn ?_;refine Q.rn ?_;exact ⟨(i+1,j - 1,Sort.swp e i j),zt,Ent.refl _,⟨by dsimp only;omega,by dsimp only;omega,by rw[swp_size];exact h3,h4⟩,by dsimp only;omega⟩
 ·rw[if_neg hij] at h4
  subst h4;refine Q.rn ?_;exact N.n0 RV.nil (Ent.refl _) ⟨rfl,rfl⟩
theorem scanUp_ge (p:Int→Bool)(d:Array Int)(j i:Nat):i≤Sort.scanUp p d j i∧(Sort.scanUp p d j i≤i∨Sort.scanUp p d j i≤j+1):=by
 induction h:j+1 - i using Nat.strongRecOn generalizing i with
 |_ k ih=>
  rw[Sort.scanUp]
  split
  ·rename_i hc
   simp only[Bool.and_eq_true,decide_eq_true_eq] at hc;have:=ih _ zo (i+1) rfl;omega
  ·omega
theorem scanDown_le (p:Int→Bool)(d:Array Int)(i:Nat):∀j,Sort.scanDown p d i j≤j∧(i≤Sort.scanDown p d i j+1∨Sort.scanDown p d i j=j)
 |0=>by simp[Sort.scanDown]
 |j+1=>by
  rw[Sort.scanDown]
  split
  ·rename_i hc
   simp only[Bool.and_eq_true,decide_eq_true_eq] at hc;have:=scanDown_le p d i j;omega
  ·omega
theorem partition_spec (bk n c a b pv:Nat)(d:Array Int)(rs:List Value)(L:HL)(hd:d.size=n)(ha:a≤pv)(hp:pv<b)(hb:b≤n)(hn:n≤17592186044416):
  CallsS Tryz.prog 187 [SV bk n c,.int .i64 a,.int .i64 b,.int .i64 pv] (AR bk d rs::L)
   (λv L'=>v=.tuple #[.int .i64 (Sort.partition Sort.ltInt d a b pv).1,.bool (Sort.partition Sort.ltInt d a b pv).2.1]∧L'=AR bk (Sort.partition Sort.ltInt d a b pv).2.2 rs::L):=by
 refine CallsS.of_body Tryz.func187 rfl rfl rfl ?_;refine Q.rn ?_;refine Q.dgo [true] [13,15] [13] [0,1,2,3,4,5,6,7,8,9,10,11,12,13,14,15] ?_;(refine Q.rdn ?_);refine Q.dc rfl rfl rfl rfl ?_;(refine Q.rn ?_);(refine Q.rdn ?_);refine D.e rfl rfl rfl ?_;(refine Q.rn ?_);(refine Q.rdn ?_);(refine Q.rn ?_);have he:(Sort.swp d a pv).size=n:=by rw[swp_size];exact hd
 obtain ⟨e,hee⟩:∃e,e=Sort.swp d a pv:=⟨_,rfl⟩;obtain ⟨i0,hi0⟩:∃i0,i0=Sort.scanUp (λx=>Sort.ltInt x e[a]!) e (b - 1) (a+1):=⟨_,rfl⟩;obtain ⟨j0,hj0⟩:∃j0,j0=Sort.scanDown (λx=> !Sort.ltInt x e[a]!) e i0 (b - 1):=⟨_,rfl⟩;have hpart:Sort.partition Sort.ltInt d a b pv=(if i0>j0 then (j0,true,Sort.swp e j0 a) else ((Sort.partLoop Sort.ltInt a (i0+1) (j0 - 1) (Sort.swp e i0 j0)).1,false,Sort.swp (Sort.partLoop Sort.ltInt a (i0+1) (j0 - 1) (Sort.swp e i0 j0)).2 (Sort.partLoop Sort.ltInt a (i0+1) (j0 - 1) (Sort.swp e i0 j0)).1 a)):=by
  subst hee hj0 hi0;rfl
 rw[←hee] at he;rw[hpart];clear hpart;have bi:=scanUp_ge (λx=>Sort.ltInt x e[a]!) e (b - 1) (a+1);have bj:=scanDown_le (λx=> !Sort.ltInt x e[a]!) e i0 (b - 1);rw[←hi0] at bi;rw[←hj0] at bj;refine swp_cutB (σ:=Unit) (λ_=> [(0,SV bk n c),(1,.int .i64 a),(10,.int .i64 i0),(11,.int .i64 (b - 1:Nat))]) (λ_=>AR bk e rs::L) (λ_=>True) ?_ ?_
 ·refine swp_loop (σ:=Nat) (λs=> [(0,SV bk n c),(1,.int .i64 a),(10,.int .i64 s),(11,.int .i64 (b - 1:Nat))]) (λs=>AR bk e rs::L)
   (λs=>a+1≤s∧Sort.scanUp (λx=>Sort.ltInt x e[a]!) e (b - 1:Nat) s=i0) (λs=>(b - 1:Nat)+1 - s) (a+1) zt (by rw[hee];exact Ent.refl _) ⟨Nat.le_refl _,hi0.symm⟩ ?_
  rintro i ⟨g1,g3⟩;rw[Sort.scanUp] at g3
  by_cases hi:i≤(b - 1:Nat)
  ·refine Q.rn ?_
   refine Q.dgo [true] [12] [] [0,1,2,3,4,5,6,7,8,9,10,11,12,13] ?_;refine Q.rdn ?_;refine D.e rfl rfl rfl ?_;refine S.guard rfl ?_;refine S.cr rfl (Less_spec _ _ _) ?_;rintro _ M ⟨rfl,rfl⟩;rw[show decide (i≤(b - 1:Nat))=true by simpa using hi,Bool.true_and] at g3
   cases hl:Sort.ltInt e[i]! e[a]! with
   |true=>
    rw[hl] at g3;simp only[Bool.not_false,Bool.not_true,if_true] at g3;refine Q.rn ?_;refine Q.rdn ?_;refine Q.rn ?_;exact ⟨i+1,zt,Ent.refl _,⟨by omega,g3⟩,by omega⟩
   |false=>
    rw[hl] at g3;simp only[Bool.not_false,Bool.not_true,Bool.false_eq_true,if_false] at g3;refine Q.rn ?_;refine Q.rdn ?_;refine Q.rn ?_;exact ⟨(),⟨rfl,rfl,by rw[g3];rfl,rfl,trivial⟩,Ent.refl _,trivial⟩
  ·rw[show decide (i≤(b - 1:Nat))=false by simpa using hi,Bool.false_and] at g3
   simp only[Bool.false_eq_true,if_false] at g3;refine Q.rn ?_;refine Q.dgo [true] [12] [] [0,1,2,3,4,5,6,7,8,9,10,11,12,13] ?_;refine Q.rdn ?_;refine Q.rn ?_;exact ⟨(),⟨rfl,rfl,by rw[g3];rfl,rfl,trivial⟩,Ent.refl _,trivial⟩
 rintro _ _;refine Q.rn ?_;refine swp_cutB (σ:=Unit) (λ_=> [(0,SV bk n c),(1,.int .i64 a),(10,.int .i64 i0),(11,.int .i64 j0)]) (λ_=>AR bk e rs::L) (λ_=>True) ?_ ?_
 ·refine swp_loop (σ:=Nat) (λs=> [(0,SV bk n c),(1,.int .i64 a),(10,.int .i64 i0),(11,.int .i64 s)]) (λs=>AR bk e rs::L)
   (λs=>s≤(b - 1:Nat)∧Sort.scanDown (λx=> !Sort.ltInt x e[a]!) e i0 s=j0) (λs=>s) ((b - 1:Nat)) zt (Ent.refl _) ⟨Nat.le_refl _,hj0.symm⟩ ?_
  rintro j ⟨g1,g3⟩
  by_cases hi:i0≤j
  ·obtain ⟨k,rfl⟩:∃k,j=k+1:=⟨j - 1,by omega⟩
   rw[Sort.scanDown] at g3;refine Q.rn ?_;refine Q.dgo [true] [12] [] [0,1,2,3,4,5,6,7,8,9,10,11,12,13,14] ?_;refine Q.rdn ?_;refine D.e rfl rfl rfl ?_;refine S.guard rfl ?_;refine S.cr rfl (Less_spec _ _ _) ?_;rintro _ M ⟨rfl,rfl⟩;rw[show decide (i0≤k+1)=true by simpa using hi,Bool.true_and] at g3
   cases hl:Sort.ltInt e[k+1]! e[a]! with
   |false=>
    rw[hl] at g3;simp only[Bool.not_false,Bool.not_true,if_true] at g3;refine Q.rn ?_;refine Q.rdn ?_;refine Q.rn ?_;exact ⟨k,zt,Ent.refl _,⟨by omega,g3⟩,by omega⟩
   |true=>
    rw[hl] at g3;simp only[Bool.not_false,Bool.not_true,Bool.false_eq_true,if_false] at g3;refine Q.rn ?_;refine Q.rdn ?_;refine Q.rn ?_;exact ⟨(),⟨rfl,rfl,rfl,by rw[←g3];rfl,trivial⟩,Ent.refl _,trivial⟩
  ·have g4:j=j0:=by
    rw[←g3]
    cases j with
    |zero=>rfl
    |succ j=>rw[Sort.scanDown,show decide (i0≤j+1)=false by simpa using hi];simp
   refine Q.rn ?_;refine Q.dgo [true] [12] [] [0,1,2,3,4,5,6,7,8,9,10,11,12,13,14] ?_;refine Q.rdn ?_;refine Q.rn ?_;exact ⟨(),⟨rfl,rfl,rfl,by rw[g4];rfl,trivial⟩,Ent.refl _,trivial⟩
 rintro _ _
 by_cases hgt:i0>j0
 ·rw[if_pos hgt]
  refine Q.rn ?_;refine Q.dgo [true] [13,15] [13] [0,1,2,3,4,5,6,7,8,9,10,11,12,13,14,15] ?_;(refine Q.rdn ?_);refine Q.dc rfl rfl rfl rfl ?_;(refine Q.rn ?_);(refine Q.rdn ?_);refine D.e rfl rfl rfl ?_;(refine Q.rn ?_);(refine Q.rdn ?_);(refine Q.rn ?_);exact N.u rfl rfl (Ent.refl _) ⟨rfl,rfl⟩
 rw[if_neg hgt];refine Q.rn ?_;refine Q.dgo [true] [13,15] [13] [0,1,2,3,4,5,6,7,8,9,10,11,12,13,14,15] ?_;(refine Q.rdn ?_);refine Q.dc rfl rfl rfl rfl ?_;(refine Q.rn ?_);(refine Q.rdn ?_);refine D.e rfl rfl rfl ?_;(refine Q.rn ?_);(refine Q.rdn ?_);(refine Q.rn ?_);obtain ⟨pr,hpr⟩:∃pr,pr=Sort.partLoop Sort.ltInt a (i0+1) (j0 - 1) (Sort.swp e i0 j0):=⟨_,rfl⟩;rw[←hpr];refine swp_cutB (σ:=Unit) (λ_=> [(0,SV bk n c),(1,.int .i64 a),(11,.int .i64 pr.1)]) (λ_=>AR bk pr.2 rs::L) (λ_=>pr.1<b∧pr.2.size=n) ?_ ?_
 ·refine swp_loop (σ:=Nat×Nat×Array Int) (λs=> [(0,SV bk n c),(1,.int .i64 a),(10,.int .i64 s.1),(11,.int .i64 s.2.1)]) (λs=>AR bk s.2.2 rs::L)
   (λs=>a+1≤s.1∧s.1≤b+1∧s.2.1<b∧s.2.2.size=n∧Sort.partLoop Sort.ltInt a s.1 s.2.1 s.2.2=pr) (λs=>s.2.1+1 - s.1) (i0+1,j0 - 1,Sort.swp e i0 j0) zt (Ent.refl _) ⟨by dsimp only;omega,by dsimp only;omega,by dsimp only;omega,by rw[swp_size];exact he,hpr.symm⟩ ?_
  clear hpr hgt bj bi hj0 hi0 hee he e i0 j0;rintro ⟨i1,j1,e⟩ ⟨k1,k2,k3,he,k5⟩;dsimp only at k1 k2 k3 he k5 ⊢;obtain ⟨i0,hi0⟩:∃i0,i0=Sort.scanUp (λx=>Sort.ltInt x e[a]!) e j1 i1:=⟨_,rfl⟩;obtain ⟨j0,hj0⟩:∃j0,j0=Sort.scanDown (λx=> !Sort.ltInt x e[a]!) e i0 j1:=⟨_,rfl⟩;have bi:=scanUp_ge (λx=>Sort.ltInt x e[a]!) e j1 i1;have bj:=scanDown_le (λx=> !Sort.ltInt x e[a]!) e i0 j1;rw[←hi0] at bi;rw[←hj0] at bj;rw[Sort.partLoop] at k5;simp only[←hi0,←hj0] at k5;refine Q.rn ?_;refine swp_cutB (σ:=Unit) (λ_=> [(0,SV bk n c),(1,.int .i64 a),(10,.int .i64 i0),(11,.int .i64 j1)]) (λ_=>AR bk e rs::L) (λ_=>True) ?_ ?_
  ·refine swp_loop (σ:=Nat) (λs=> [(0,SV bk n c),(1,.int .i64 a),(10,.int .i64 s),(11,.int .i64 j1)]) (λs=>AR bk e rs::L)
    (λs=>i1≤s∧Sort.scanUp (λx=>Sort.ltInt x e[a]!) e j1 s=i0) (λs=>j1+1 - s) (i1) zt (Ent.refl _) ⟨Nat.le_refl _,hi0.symm⟩ ?_
   rintro i ⟨g1,g3⟩;rw[Sort.scanUp] at g3
   by_cases hi:i≤j1
   ·refine Q.rn ?_
    refine Q.dgo [true] [12] [] [0,1,2,3,4,5,6,7,8,9,10,11,12,13] ?_;refine Q.rdn ?_;refine D.e rfl rfl rfl ?_;refine S.guard rfl ?_;refine S.cr rfl (Less_spec _ _ _) ?_;rintro _ M ⟨rfl,rfl⟩;rw[show decide (i≤j1)=true by simpa using hi,Bool.true_and] at g3
    cases hl:Sort.ltInt e[i]! e[a]! with
    |true=>
     rw[hl] at g3;simp only[Bool.not_false,Bool.not_true,if_true] at g3;refine Q.rn ?_;refine Q.rdn ?_;refine Q.rn ?_;exact ⟨i+1,zt,Ent.refl _,⟨by omega,g3⟩,by omega⟩
    |false=>
     rw[hl] at g3;simp only[Bool.not_false,Bool.not_true,Bool.false_eq_true,if_false] at g3;refine Q.rn ?_;refine Q.rdn ?_;refine Q.rn ?_;exact ⟨(),⟨rfl,rfl,by rw[g3];rfl,rfl,trivial⟩,Ent.refl _,trivial⟩
   ·rw[show decide (i≤j1)=false by simpa using hi,Bool.false_and] at g3
    simp only[Bool.false_eq_true,if_false] at g3;refine Q.rn ?_;refine Q.dgo [true] [12] [] [0,1,2,3,4,5,6,7,8,9,10,11,12,13] ?_;refine Q.rdn ?_;refine Q.rn ?_;exact ⟨(),⟨rfl,rfl,by rw[g3];rfl,rfl,trivial⟩,Ent.refl _,trivial⟩
  rintro _ _;refine Q.rn ?_;refine swp_cutB (σ:=Unit) (λ_=> [(0,SV bk n c),(1,.int .i64 a),(10,.int .i64 i0),(11,.int .i64 j0)]) (λ_=>AR bk e rs::L) (λ_=>True) ?_ ?_
  ·refine swp_loop (σ:=Nat) (λs=> [(0,SV bk n c),(1,.int .i64 a),(10,.int .i64 i0),(11,.int .i64 s)]) (λs=>AR bk e rs::L)
    (λs=>s≤j1∧Sort.scanDown (λx=> !Sort.ltInt x e[a]!) e i0 s=j0) (λs=>s) (j1) zt (Ent.refl _) ⟨Nat.le_refl _,hj0.symm⟩ ?_
   rintro j ⟨g1,g3⟩
   by_cases hi:i0≤j
   ·obtain ⟨k,rfl⟩:∃k,j=k+1:=⟨j - 1,by omega⟩
    rw[Sort.scanDown] at g3;refine Q.rn ?_;refine Q.dgo [true] [12] [] [0,1,2,3,4,5,6,7,8,9,10,11,12,13,14] ?_;refine Q.rdn ?_;refine D.e rfl rfl rfl ?_;refine S.guard rfl ?_;refine S.cr rfl (Less_spec _ _ _) ?_;rintro _ M ⟨rfl,rfl⟩;rw[show decide (i0≤k+1)=true by simpa using hi,Bool.true_and] at g3
    cases hl:Sort.ltInt e[k+1]! e[a]! with
    |false=>
     rw[hl] at g3;simp only[Bool.not_false,Bool.not_true,if_true] at g3;refine Q.rn ?_;refine Q.rdn ?_;refine Q.rn ?_;exact ⟨k,zt,Ent.refl _,⟨by omega,g3⟩,by omega⟩
    |true=>
     rw[hl] at g3;simp only[Bool.not_false,Bool.not_true,Bool.false_eq_true,if_false] at g3;refine Q.rn ?_;refine Q.rdn ?_;refine Q.rn ?_;exact ⟨(),⟨rfl,rfl,rfl,by rw[←g3];rfl,trivial⟩,Ent.refl _,trivial⟩
   ·have g4:j=j0:=by
     rw[←g3]
     cases j with
     |zero=>rfl
     |succ j=>rw[Sort.scanDown,show decide (i0≤j+1)=false by simpa using hi];simp
    refine Q.rn ?_;refine Q.dgo [true] [12] [] [0,1,2,3,4,5,6,7,8,9,10,11,12,13,14] ?_;refine Q.rdn ?_;refine Q.rn ?_;exact ⟨(),⟨rfl,rfl,rfl,by rw[g4];rfl,trivial⟩,Ent.refl _,trivial⟩
  rintro _ _
  by_cases hgt:i0>j0
  ·rw[if_pos hgt] at k5
   subst k5;refine Q.rn ?_;exact ⟨(),zt,Ent.refl _,by dsimp only;omega,he⟩
  rw[if_neg hgt,dif_pos zo] at k5;refine Q.rn ?_;refine Q.dgo [true] [13,15] [13] [0,1,2,3,4,5,6,7,8,9,10,11,12,13,14,15] ?_;(refine Q.rdn ?_);refine Q.dc rfl rfl rfl rfl ?_;(refine Q.rn ?_);(refine Q.rdn ?_);refine D.e rfl rfl rfl ?_;(refine Q.rn ?_);(refine Q.rdn ?_);(refine Q.rn ?_);exact ⟨(i0+1,j0 - 1,Sort.swp e i0 j0),zt,Ent.refl _,⟨by dsimp only;omega,by dsimp only;omega,by dsimp only;omega,by rw[swp_size];exact he,k5⟩,by dsimp only;omega⟩
 rintro _ ⟨hpb,hps⟩;refine Q.rn ?_;refine Q.dgo [true] [13,15] [13] [0,1,2,3,4,5,6,7,8,9,10,11,12,13,14,15] ?_;(refine Q.rdn ?_);refine Q.dc rfl rfl rfl rfl ?_;(refine Q.rn ?_);(refine Q.rdn ?_);refine D.e rfl rfl rfl ?_;(refine Q.rn ?_);(refine Q.rdn ?_);(refine Q.rn ?_);exact N.u rfl rfl (Ent.refl _) ⟨rfl,rfl⟩
theorem partitionEqual_spec (bk n c a b pv:Nat)(d:Array Int)(rs:List Value)(L:HL)(hd:d.size=n)(ha:a≤pv)(hp:pv<b)(hb:b≤n)(hn:n≤17592186044416):
  CallsS Tryz.prog 186 [SV bk n c,.int .i64 a,.int .i64 b,.int .i64 pv] (AR bk d rs::L)
   (λv L'=>v=.int .i64 (Sort.partitionEqual Sort.ltInt d a b pv).1∧L'=AR bk (Sort.partitionEqual Sort.ltInt d a b pv).2 rs::L):=by
 refine CallsS.of_body Tryz.func186 rfl rfl rfl ?_;refine Q.rn ?_;refine Q.dgo [true] [13,15] [13] [0,1,2,3,4,5,6,7,8,9,10,11,12,13,14,15] ?_;(refine Q.rdn ?_);refine Q.dc rfl rfl rfl rfl ?_;(refine Q.rn ?_);(refine Q.rdn ?_);refine D.e rfl rfl rfl ?_;(refine Q.rn ?_);(refine Q.rdn ?_);(refine Q.rn ?_);obtain ⟨pr,hpr⟩:∃pr,pr=Sort.partitionEqual Sort.ltInt d a b pv:=⟨_,rfl⟩;rw[←hpr];refine swp_cutB (σ:=Unit) (λ_=> [(9,.int .i64 pr.1)]) (λ_=>AR bk pr.2 rs::L) (λ_=>True) ?_ ?_
 ·refine swp_loop (σ:=Nat×Nat×Array Int) (λs=> [(0,SV bk n c),(1,.int .i64 a),(9,.int .i64 s.1),(10,.int .i64 s.2.1)]) (λs=>AR bk s.2.2 rs::L)
   (λs=>a+1≤s.1∧s.1≤b+1∧s.2.1<b∧s.2.2.size=n∧Sort.partEqLoop Sort.ltInt a s.1 s.2.1 s.2.2=pr) (λs=>s.2.1+1 - s.1) (a+1,b - 1,Sort.swp d a pv) zt (Ent.refl _) ⟨by dsimp only;omega,by dsimp only;omega,by dsimp only;omega,by rw[swp_size];exact hd,hpr.symm⟩ ?_
  clear hpr;rintro ⟨i1,j1,e⟩ ⟨k1,k2,k3,he,k5⟩;dsimp only at k1 k2 k3 he k5 ⊢;obtain ⟨i0,hi0⟩:∃i0,i0=Sort.scanUp (λx=> !Sort.ltInt e[a]! x) e j1 i1:=⟨_,rfl⟩;obtain ⟨j0,hj0⟩:∃j0,j0=Sort.scanDown (λx=>Sort.ltInt e[a]! x) e i0 j1:=⟨_,rfl⟩;have bi:=scanUp_ge (λx=> !Sort.ltInt e[a]! x) e j1 i1;have bj:=scanDown_le (λx=>Sort.ltInt e[a]! x) e i0 j1;rw[←hi0] at bi;rw[←hj0] at bj;rw[Sort.partEqLoop] at k5;simp only[←hi0,←hj0] at k5;refine Q.rn ?_;refine swp_cutB (σ:=Unit) (λ_=> [(0,SV bk n c),(1,.int .i64 a),(9,.int .i64 i0),(10,.int .i64 j1)]) (λ_=>AR bk e rs::L) (λ_=>True) ?_ ?_
  ·refine swp_loop (σ:=Nat) (λs=> [(0,SV bk n c),(1,.int .i64 a),(9,.int .i64 s),(10,.int .i64 j1)]) (λs=>AR bk e rs::L)
    (λs=>i1≤s∧Sort.scanUp (λx=> !Sort.ltInt e[a]! x) e j1 s=i0) (λs=>j1+1 - s) (i1) zt (Ent.refl _) ⟨Nat.le_refl _,hi0.symm⟩ ?_
   rintro i ⟨g1,g3⟩;rw[Sort.scanUp] at g3
   by_cases hi:i≤j1
   ·refine Q.rn ?_
    refine Q.dgo [true] [12] [] [0,1,2,3,4,5,6,7,8,9,10,11,12,13,14] ?_;refine Q.rdn ?_;refine D.e rfl rfl rfl ?_;refine S.guard rfl ?_;refine S.cr rfl (Less_spec _ _ _) ?_;rintro _ M ⟨rfl,rfl⟩;rw[show decide (i≤j1)=true by simpa using hi,Bool.true_and] at g3
    cases hl:Sort.ltInt e[a]! e[i]! with
    |false=>
     rw[hl] at g3;simp only[Bool.not_false,Bool.not_true,if_true] at g3;refine Q.rn ?_;refine Q.rdn ?_;refine Q.rn ?_;exact ⟨i+1,zt,Ent.refl _,⟨by omega,g3⟩,by omega⟩
    |true=>
     rw[hl] at g3;simp only[Bool.not_false,Bool.not_true,Bool.false_eq_true,if_false] at g3;refine Q.rn ?_;refine Q.rdn ?_;refine Q.rn ?_;exact ⟨(),⟨rfl,rfl,by rw[g3];rfl,rfl,trivial⟩,Ent.refl _,trivial⟩
   ·rw[show decide (i≤j1)=false by simpa using hi,Bool.false_and] at g3
    simp only[Bool.false_eq_true,if_false] at g3;refine Q.rn ?_;refine Q.dgo [true] [12] [] [0,1,2,3,4,5,6,7,8,9,10,11,12,13,14] ?_;refine Q.rdn ?_;refine Q.rn ?_;exact ⟨(),⟨rfl,rfl,by rw[g3];rfl,rfl,trivial⟩,Ent.refl _,trivial⟩
  rintro _ _;refine Q.rn ?_;refine swp_cutB (σ:=Unit) (λ_=> [(0,SV bk n c),(1,.int .i64 a),(9,.int .i64 i0),(10,.int .i64 j0)]) (λ_=>AR bk e rs::L) (λ_=>True) ?_ ?_
  ·refine swp_loop (σ:=Nat) (λs=> [(0,SV bk n c),(1,.int .i64 a),(9,.int .i64 i0),(10,.int .i64 s)]) (λs=>AR bk e rs::L)
    (λs=>s≤j1∧Sort.scanDown (λx=>Sort.ltInt e[a]! x) e i0 s=j0) (λs=>s) (j1) zt (Ent.refl _) ⟨Nat.le_refl _,hj0.symm⟩ ?_
   rintro j ⟨g1,g3⟩
   by_cases hi:i0≤j
   ·obtain ⟨k,rfl⟩:∃k,j=k+1:=⟨j - 1,by omega⟩
    rw[Sort.scanDown] at g3;refine Q.rn ?_;refine Q.dgo [true] [12] [] [0,1,2,3,4,5,6,7,8,9,10,11,12,13] ?_;refine Q.rdn ?_;refine D.e rfl rfl rfl ?_;refine S.guard rfl ?_;refine S.cr rfl (Less_spec _ _ _) ?_;rintro _ M ⟨rfl,rfl⟩;rw[show decide (i0≤k+1)=true by simpa using hi,Bool.true_and] at g3
    cases hl:Sort.ltInt e[a]! e[k+1]! with
    |true=>
     rw[hl] at g3;simp only[Bool.not_false,Bool.not_true,if_true] at g3;refine Q.rn ?_;refine Q.rdn ?_;refine Q.rn ?_;exact ⟨k,zt,Ent.refl _,⟨by omega,g3⟩,by omega⟩
    |false=>
     rw[hl] at g3;simp only[Bool.not_false,Bool.not_true,Bool.false_eq_true,if_false] at g3;refine Q.rn ?_;refine Q.rdn ?_;refine Q.rn ?_;exact ⟨(),⟨rfl,rfl,rfl,by rw[←g3];rfl,trivial⟩,Ent.refl _,trivial⟩
   ·have g4:j=j0:=by
     rw[←g3]
     cases j with
     |zero=>rfl
     |succ j=>rw[Sort.scanDown,show decide (i0≤j+1)=false by simpa using hi];simp
    refine Q.rn ?_;refine Q.dgo [true] [12] [] [0,1,2,3,4,5,6,7,8,9,10,11,12,13] ?_;refine Q.rdn ?_;refine Q.rn ?_;exact ⟨(),⟨rfl,rfl,rfl,by rw[g4];rfl,trivial⟩,Ent.refl _,trivial⟩
  rintro _ _
  by_cases hgt:i0>j0
  ·rw[if_pos hgt] at k5
   subst k5;refine Q.rn ?_;exact ⟨(),zt,Ent.refl _,trivial⟩
  rw[if_neg hgt,dif_pos zo] at k5;refine Q.rn ?_;refine Q.dgo [true] [13,15] [13] [0,1,2,3,4,5,6,7,8,9,10,11,12,13,14,15] ?_;(refine Q.rdn ?_);refine Q.dc rfl rfl rfl rfl ?_;(refine Q.rn ?_);(refine Q.rdn ?_);refine D.e rfl rfl rfl ?_;(refine Q.rn ?_);(refine Q.rdn ?_);(refine Q.rn ?_);exact ⟨(i0+1,j0 - 1,Sort.swp e i0 j0),zt,Ent.refl _,⟨by dsimp only;omega,by dsimp only;omega,by dsimp only;omega,by rw[swp_size];exact he,k5⟩,by dsimp only;omega⟩
 rintro _ _;refine Q.rn ?_;exact N.t rfl (Ent.refl _) ⟨rfl,rfl⟩
theorem scanSorted_ge (d:Array Int)(b i:Nat)(h:i≤b):i≤Sort.scanSorted Sort.ltInt d b i∧Sort.scanSorted Sort.ltInt d b i≤b:=by
 induction hk:b - i using Nat.strongRecOn generalizing i with
 |_ k ih=>
  rw[Sort.scanSorted]
  split
  ·rename_i hc
   simp only[Bool.and_eq_true,decide_eq_true_eq] at hc;have:=ih _ zo (i+1) zo rfl;omega
  ·omega
theorem shiftDown_size :∀(j:Nat) (d:Array Int),(Sort.shiftDown Sort.ltInt j d).size=d.size
 |0,d=>rfl
 |j+1,d=>by
  rw[Sort.shiftDown]
  split
  ·rfl
  ·rw[shiftDown_size j,swp_size]
theorem shiftUp_size (b j:Nat)(d:Array Int):(Sort.shiftUp Sort.ltInt b j d).size=d.size:=by
 induction hk:b - j using Nat.strongRecOn generalizing j d with
 |_ k ih=>
  rw[Sort.shiftUp]
  split
  ·split
   ·rfl
   ·rw[ih _ zo (j+1) _ rfl,swp_size]
  ·rfl
theorem partialInsertionSort_spec (bk n c a b:Nat)(d:Array Int)(rs:List Value)(L:HL)(hd:d.size=n)(ha:a<b)(hb:b≤n)(hn:n≤17592186044416):
  CallsS Tryz.prog 184 [SV bk n c,.int .i64 a,.int .i64 b] (AR bk d rs::L)
   (λv L'=>v=.bool (Sort.partialInsertionSort Sort.ltInt d a b).2∧L'=AR bk (Sort.partialInsertionSort Sort.ltInt d a b).1 rs::L):=by
 refine CallsS.of_body Tryz.func184 rfl rfl rfl ?_;refine Q.rn ?_;refine swp_loop (σ:=Nat×Nat×Array Int) (λs=> [(0,SV bk n c),(1,.int .i64 a),(2,.int .i64 b),(7,.int .i64 s.2.1),(8,.int .i64 ((5 - s.1:Nat):Int))]) (λs=>AR bk s.2.2 rs::L)
  (λs=>s.1≤5∧a+1≤s.2.1∧s.2.1≤b∧s.2.2.size=n∧Sort.partialIns Sort.ltInt a b s.1 s.2.1 s.2.2=Sort.partialInsertionSort Sort.ltInt d a b) (λs=>s.1) (5,a+1,d) zt (Ent.refl _) ⟨Nat.le_refl _,by dsimp only;omega,by dsimp only;omega,hd,rfl⟩ ?_
 rintro ⟨st,i0,e⟩ ⟨h1,h2,h3,h4,h5⟩;dsimp only at h1 h2 h3 h4 h5 ⊢
 cases st with
 |zero=>
  rw[Sort.partialIns] at h5;rw[←h5];refine Q.rn ?_;exact N.t rfl (Ent.refl _) ⟨rfl,rfl⟩
 |succ st=>
 obtain ⟨k,hk⟩:∃k,k=5 - (st+1):=⟨_,rfl⟩;rw[←hk];have hk5:k<5:=by omega
 rw[Sort.partialIns] at h5;obtain ⟨i1,hi1⟩:∃i1,i1=Sort.scanSorted Sort.ltInt e b i0:=⟨_,rfl⟩;have bi:=scanSorted_ge e b i0 h3;rw[←hi1] at bi;simp only[←hi1] at h5;refine Q.rn ?_;refine swp_cutB (σ:=Unit) (λ_=> [(0,SV bk n c),(1,.int .i64 a),(2,.int .i64 b),(7,.int .i64 i1),(8,.int .i64 k)]) (λ_=>AR bk e rs::L) (λ_=>True) ?_ ?_
 ·refine swp_loop (σ:=Nat) (λs=> [(0,SV bk n c),(1,.int .i64 a),(2,.int .i64 b),(7,.int .i64 s),(8,.int .i64 k)]) (λs=>AR bk e rs::L)
   (λs=>a+1≤s∧s≤b∧Sort.scanSorted Sort.ltInt e b s=i1) (λs=>b - s) i0 zt (Ent.refl _) ⟨h2,h3,hi1.symm⟩ ?_
  rintro i ⟨g1,g2,g3⟩;rw[Sort.scanSorted] at g3
  by_cases hi:i<b
  ·refine Q.rn ?_
   refine Q.dgo [true] [13] [] [0,1,2,3,4,5,6,7,8,9,10,11,12,13,14,15] ?_;refine Q.rdn ?_;refine D.e rfl rfl rfl ?_;refine S.guard rfl ?_;refine S.cr rfl (Less_spec _ _ _) ?_;rintro _ M ⟨rfl,rfl⟩;rw[show decide (i<b)=true by simpa using hi,Bool.true_and] at g3
   cases hl:Sort.ltInt e[i]! e[i - 1]! with
   |false=>
    rw[hl] at g3;simp only[Bool.not_false,if_true] at g3;refine Q.rn ?_;refine Q.rdn ?_;refine Q.rn ?_;exact ⟨i+1,zt,Ent.refl _,⟨by omega,by omega,g3⟩,by omega⟩
   |true=>
    rw[hl] at g3;simp only[Bool.not_true,Bool.false_eq_true,if_false] at g3;refine Q.rn ?_;refine Q.rdn ?_;refine Q.rn ?_;exact ⟨(),⟨rfl,rfl,rfl,by rw[g3];rfl,rfl,trivial⟩,Ent.refl _,trivial⟩
  ·rw[show decide (i<b)=false by simpa using hi,Bool.false_and] at g3
   simp only[Bool.false_eq_true,if_false] at g3;refine Q.rn ?_;refine Q.dgo [true] [13] [] [0,1,2,3,4,5,6,7,8,9,10,11,12,13,14,15] ?_;refine Q.rdn ?_;refine Q.rn ?_;exact ⟨(),⟨rfl,rfl,rfl,by rw[g3];rfl,rfl,trivial⟩,Ent.refl _,trivial⟩
 rintro _ _
 by_cases hib:i1=b
 ·rw[if_pos hib] at h5
  rw[←h5];refine Q.rn ?_;exact N.t rfl (Ent.refl _) ⟨rfl,rfl⟩
 rw[if_neg hib] at h5
 by_cases h50:b - a<50
 ·rw[if_pos h50] at h5
  rw[←h5];refine Q.rn ?_;exact N.t rfl (Ent.refl _) ⟨rfl,rfl⟩
 rw[if_neg h50] at h5;refine Q.rn ?_;refine Q.dgo [true] [15,17] [15] [0,1,2,3,4,5,6,7,8,9,10,11,12,13,14,15,16,17] ?_;(refine Q.rdn ?_);refine Q.dc rfl rfl rfl rfl ?_;(refine Q.rn ?_);(refine Q.rdn ?_);refine D.e rfl rfl rfl ?_;(refine Q.rn ?_);(refine Q.rdn ?_);(refine Q.rn ?_);have hes:(Sort.swp e i1 (i1 - 1)).size=n:=by rw[swp_size];exact h4
 obtain ⟨e1,he1⟩:∃e1,e1=(if i1 - a≥2 then Sort.shiftDown Sort.ltInt (i1 - 1) (Sort.swp e i1 (i1 - 1)) else Sort.swp e i1 (i1 - 1)):=⟨_,rfl⟩;have he1s:e1.size=n:=by rw[he1];split<;>first|(rw[shiftDown_size];exact hes)|exact hes
 rw[←he1] at h5;refine swp_cutT (σ:=Unit) (λ_=> [(0,SV bk n c),(1,.int .i64 a),(2,.int .i64 b),(7,.int .i64 i1),(8,.int .i64 k)]) (λ_=>AR bk e1 rs::L) (λ_=>True) ?_ ?_
 ·by_cases h2a:i1 - a≥2
  ·rw[if_pos h2a] at he1
   refine Q.rn ?_;refine swp_loop (σ:=Nat×Array Int) (λs=> [(0,SV bk n c),(1,.int .i64 a),(2,.int .i64 b),(7,.int .i64 i1),(8,.int .i64 k),(9,.int .i64 s.1)]) (λs=>AR bk s.2 rs::L)
    (λs=>s.1<b∧s.2.size=n∧Sort.shiftDown Sort.ltInt s.1 s.2=e1) (λs=>s.1) (i1 - 1,Sort.swp e i1 (i1 - 1)) zt (Ent.refl _) ⟨by dsimp only;omega,hes,he1.symm⟩ ?_
   rintro ⟨j,g⟩ ⟨g1,g2,g3⟩;dsimp only at g1 g2 g3 ⊢
   cases j with
   |zero=>
    rw[Sort.shiftDown] at g3;subst g3;refine Q.rn ?_;exact ⟨(),zt,Ent.refl _,trivial⟩
   |succ j=>
    rw[Sort.shiftDown] at g3;refine Q.rn ?_;refine Q.dgo [true] [9] [] [0,1,2,3,4,5,6,7,8,9,10] ?_;refine Q.rdn ?_;refine D.e rfl rfl rfl ?_;refine S.cr rfl (Less_spec _ _ _) ?_;rintro _ M ⟨rfl,rfl⟩
    cases hl:Sort.ltInt g[j+1]! g[j]! with
    |false=>
     rw[hl] at g3;simp only[Bool.not_false,if_true] at g3;rw[show j+1 - 1=j from rfl,hl];subst g3;refine Q.rn ?_;refine Q.rdn ?_;refine Q.rn ?_;exact ⟨(),zt,Ent.refl _,trivial⟩
    |true=>
     rw[hl] at g3;simp only[Bool.not_true,Bool.false_eq_true,if_false] at g3;rw[show j+1 - 1=j from rfl,hl];refine Q.rn ?_;refine Q.rdn ?_;refine Q.rn ?_;refine Q.dgo [true] [15,17] [15] [0,1,2,3,4,5,6,7,8,9,10,11,12,13,14,15,16,17] ?_;(refine Q.rdn ?_);refine Q.dc rfl rfl rfl rfl ?_;(refine Q.rn ?_);(refine Q.rdn ?_);refine D.e rfl rfl rfl ?_;(refine Q.rn ?_);(refine Q.rdn ?_);(refine Q.rn ?_);exact ⟨(j,Sort.swp g (j+1) j),zt,Ent.refl _,⟨by dsimp only;omega,by rw[swp_size];exact g2,g3⟩,by dsimp only;omega⟩
  ·rw[if_neg h2a] at he1
   subst he1;refine Q.rn ?_
   first|refine N.tn ?_|skip
   exact ⟨(),zt,Ent.refl _,trivial⟩
 rintro _ _;clear he1 hes;obtain ⟨e2,he2⟩:∃e2,e2=(if b - i1≥2 then Sort.shiftUp Sort.ltInt b (i1+1) e1 else e1):=⟨_,rfl⟩;have he2s:e2.size=n:=by rw[he2];split<;>first|(rw[shiftUp_size];exact he1s)|exact he1s
 rw[←he2] at h5;refine Q.rn ?_;refine swp_cutB (σ:=Unit) (λ_=> [(0,SV bk n c),(1,.int .i64 a),(2,.int .i64 b),(7,.int .i64 i1),(8,.int .i64 k)]) (λ_=>AR bk e2 rs::L) (λ_=>True) ?_ ?_
 ·by_cases h2b:b - i1≥2
  ·rw[if_pos h2b] at he2
   refine Q.rn ?_;refine swp_loop (σ:=Nat×Array Int) (λs=> [(0,SV bk n c),(1,.int .i64 a),(2,.int .i64 b),(7,.int .i64 i1),(8,.int .i64 k),(10,.int .i64 s.1)]) (λs=>AR bk s.2 rs::L)
    (λs=>1≤s.1∧s.1≤b∧s.2.size=n∧Sort.shiftUp Sort.ltInt b s.1 s.2=e2) (λs=>b - s.1) (i1+1,e1) zt (Ent.refl _) ⟨by dsimp only;omega,by dsimp only;omega,he1s,he2.symm⟩ ?_
   rintro ⟨j,g⟩ ⟨g0,g1,g2,g3⟩;dsimp only at g0 g1 g2 g3 ⊢;rw[Sort.shiftUp] at g3
   by_cases hj:j<b
   ·rw[if_pos hj] at g3
    refine Q.rn ?_;refine Q.dgo [true] [9] [] [0,1,2,3,4,5,6,7,8,9,10] ?_;refine Q.rdn ?_;refine D.e rfl rfl rfl ?_;refine S.cr rfl (Less_spec _ _ _) ?_;rintro _ M ⟨rfl,rfl⟩
    cases hl:Sort.ltInt g[j]! g[j - 1]! with
    |false=>
     rw[hl] at g3;simp only[Bool.not_false,if_true] at g3;subst g3;refine Q.rn ?_;refine Q.rdn ?_;refine Q.rn ?_;exact ⟨(),zt,Ent.refl _,trivial⟩
    |true=>
     rw[hl] at g3;simp only[Bool.not_true,Bool.false_eq_true,if_false] at g3;refine Q.rn ?_;refine Q.rdn ?_;refine Q.rn ?_;refine Q.dgo [true] [15,17] [15] [0,1,2,3,4,5,6,7,8,9,10,11,12,13,14,15,16,17] ?_;(refine Q.rdn ?_);refine Q.dc rfl rfl rfl rfl ?_;(refine Q.rn ?_);(refine Q.rdn ?_);refine D.e rfl rfl rfl ?_;(refine Q.rn ?_);(refine Q.rdn ?_);(refine Q.rn ?_);exact ⟨(j+1,Sort.swp g j (j - 1)),zt,Ent.refl _,⟨by dsimp only;omega,by dsimp only;omega,by rw[swp_size];exact g2,g3⟩,by dsimp only;omega⟩
   ·rw[if_neg hj] at g3
    subst g3;refine Q.rn ?_;exact ⟨(),zt,Ent.refl _,trivial⟩
  ·rw[if_neg h2b] at he2
   subst he2;refine Q.rn ?_
   first|refine N.tn ?_|skip
   exact ⟨(),zt,Ent.refl _,trivial⟩
 rintro _ _;refine Q.rn ?_;exact ⟨(st,i1,e2),⟨rfl,rfl,rfl,rfl,congrArg some (congrArg (Value.int .i64) (by dsimp only;omega)),trivial⟩,Ent.refl _,⟨by dsimp only;omega,by dsimp only;omega,bi.2,he2s,h5⟩,by dsimp only;omega⟩
abbrev SW (p s:Nat):HP:=pt p (cl [.int .i64 s] 3)
theorem order2_spec (bk n c a b p sw:Nat)(d:Array Int)(rs:List Value)(L:HL)(hd:d.size=n)(ha:a<n)(hb:b<n)(hn:n≤17592186044416)(hs:sw≤1000000):
  CallsS Tryz.prog 196 [SV bk n c,.int .i64 a,.int .i64 b,.pointer (some ⟨p,0,none⟩)] (AR bk d rs::SW p sw::L)
   (λv L'=>v=.tuple #[.int .i64 (Sort.order2 Sort.ltInt d a b sw).1,.int .i64 (Sort.order2 Sort.ltInt d a b sw).2.1]∧L'=AR bk d rs::SW p (Sort.order2 Sort.ltInt d a b sw).2.2::L):=by
 refine CallsS.of_body Tryz.func196 rfl rfl rfl ?_;refine Q.rn ?_;refine Q.dgo [true,false] [8] [] [0,1,2,3,4,5,6,7,8] ?_;refine Q.rdn ?_;refine D.e rfl rfl rfl ?_;refine S.cr rfl (Less_spec _ _ _) ?_;rintro _ M ⟨rfl,rfl⟩;unfold Sort.order2
 cases hl:Sort.ltInt d[b]! d[a]! with
 |false=>
  refine Q.rn ?_;refine Q.rdn ?_;refine Q.rn ?_;exact N.u rfl rfl (Ent.refl _) ⟨rfl,rfl⟩
 |true=>
  refine Q.rn ?_;refine Q.rdn ?_;refine Q.rn ?_;exact N.u rfl rfl (Ent.refl _) ⟨rfl,rfl⟩
theorem order2_in {n:Nat}{d:Array Int}{a b sw:Nat}(ha:a<n)(hb:b<n):(Sort.order2 Sort.ltInt d a b sw).1<n∧(Sort.order2 Sort.ltInt d a b sw).2.1<n∧(Sort.order2 Sort.ltInt d a b sw).2.2≤sw+1:=by
 unfold Sort.order2;split<;>simp_all<;>omega
theorem median_spec (bk n c a b e p sw:Nat)(d:Array Int)(rs:List Value)(L:HL)(hd:d.size=n)(ha:a<n)(hb:b<n)(he:e<n)(hn:n≤17592186044416)(hs:sw≤1000):
  CallsS Tryz.prog 194 [SV bk n c,.int .i64 a,.int .i64 b,.int .i64 e,.pointer (some ⟨p,0,none⟩)] (AR bk d rs::SW p sw::L)
   (λv L'=>v=.int .i64 (Sort.median Sort.ltInt d a b e sw).1∧L'=AR bk d rs::SW p (Sort.median Sort.ltInt d a b e sw).2::L):=by
 refine CallsS.of_body Tryz.func194 rfl rfl rfl ?_;refine Q.rn ?_;refine S.cr rfl (order2_spec bk n c a b p sw d rs L hd ha hb hn zo) ?_;rintro _ _ ⟨rfl,rfl⟩;have r1:=order2_in (d:=d) (sw:=sw) ha hb;unfold Sort.median;generalize Sort.order2 Sort.ltInt d a b sw=o1 at r1;refine Q.rn ?_;refine S.cr rfl (order2_spec bk n c o1.2.1 e p o1.2.2 d rs L hd r1.2.1 he hn zo) ?_;rintro _ _ ⟨rfl,rfl⟩;have r2:=order2_in (d:=d) (sw:=o1.2.2) r1.2.1 he;dsimp only;generalize Sort.order2 Sort.ltInt d o1.2.1 e o1.2.2=o2 at r2;refine Q.rn ?_;refine S.cr rfl (order2_spec bk n c o1.1 o2.1 p o2.2.2 d rs L hd r1.1 r2.1 hn zo) ?_;rintro _ _ ⟨rfl,rfl⟩;refine Q.rn ?_;exact N.t rfl (Ent.refl _) ⟨rfl,rfl⟩
theorem median_in {n:Nat}{d:Array Int}{a b e sw:Nat}(ha:a<n)(hb:b<n)(he:e<n):(Sort.median Sort.ltInt d a b e sw).1<n∧(Sort.median Sort.ltInt d a b e sw).2≤sw+3:=by
 have r1:=order2_in (d:=d) (sw:=sw) ha hb;unfold Sort.median;generalize Sort.order2 Sort.ltInt d a b sw=o1 at r1;have r2:=order2_in (d:=d) (sw:=o1.2.2) r1.2.1 he;dsimp only;generalize Sort.order2 Sort.ltInt d o1.2.1 e o1.2.2=o2 at r2;have r3:=order2_in (d:=d) (sw:=o2.2.2) r1.1 r2.1;omega
theorem medianAdjacent_spec (bk n c a p sw:Nat)(d:Array Int)(rs:List Value)(L:HL)(hd:d.size=n)(h1:1≤a)(ha:a+1<n)(hn:n≤17592186044416)(hs:sw≤1000):
  CallsS Tryz.prog 193 [SV bk n c,.int .i64 a,.pointer (some ⟨p,0,none⟩)] (AR bk d rs::SW p sw::L)
   (λv L'=>v=.int .i64 (Sort.medianAdjacent Sort.ltInt d a sw).1∧L'=AR bk d rs::SW p (Sort.medianAdjacent Sort.ltInt d a sw).2::L):=by
 refine CallsS.of_body Tryz.func193 rfl rfl rfl ?_;refine Q.rn ?_;refine S.cr rfl (median_spec bk n c (a - 1) a (a+1) p sw d rs L hd zo zo zo hn hs) ?_;rintro _ _ ⟨rfl,rfl⟩;refine Q.rn ?_;exact N.t rfl (Ent.refl _) ⟨rfl,rfl⟩
def hintN :Sort.Hint→Int
 | .unknown=>0
 | .increasing=>1
 | .decreasing=>2
theorem choosePivot_spec (bk n c a b:Nat)(d:Array Int)(rs:List Value)(L:HL)(hd:d.size=n)(ha:a<b)(hb:b≤n)(hn:n≤17592186044416):
  CallsS Tryz.prog 182 [SV bk n c,.int .i64 a,.int .i64 b] (AR bk d rs::L)
   (λv L'=>v=.tuple #[.int .i64 (Sort.choosePivot Sort.ltInt d a b).1,.int .i64 (hintN (Sort.choosePivot Sort.ltInt d a b).2)]∧L'=AR bk d rs::L):=by
 refine CallsS.of_body Tryz.func182 rfl rfl rfl ?_;refine Q.rn ?_;(repeat (intro b1;refine Q.rn ?_));obtain ⟨p,hp⟩ : ∃ p,p = b1 := ⟨_,rfl⟩;rw [← hp];obtain ⟨r,hr⟩ : ∃ r : Nat × Nat,r = (if b - a ≥ 8 then if b - a ≥ 50 then
   Sort.median Sort.ltInt d (Sort.medianAdjacent Sort.ltInt d (a+(b - a) / 4*1) 0).1 (Sort.medianAdjacent Sort.ltInt d (a+(b - a) / 4*2) (Sort.medianAdjacent Sort.ltInt d (a+(b - a) / 4*1) 0).2).1
    (Sort.medianAdjacent Sort.ltInt d (a+(b - a) / 4*3) (Sort.medianAdjacent Sort.ltInt d (a+(b - a) / 4*2) (Sort.medianAdjacent Sort.ltInt d (a+(b - a) / 4*1) 0).2).2).1
    (Sort.medianAdjacent Sort.ltInt d (a+(b - a) / 4*3) (Sort.medianAdjacent Sort.ltInt d (a+(b - a) / 4*2) (Sort.medianAdjacent Sort.ltInt d (a+(b - a) / 4*1) 0).2).2).2
   else Sort.median Sort.ltInt d (a+(b - a) / 4*1) (a+(b - a) / 4*2) (a+(b - a) / 4*3) 0 else (a+(b - a) / 4*2,0)):=⟨_,rfl⟩
 have hc:Sort.choosePivot Sort.ltInt d a b=(r.1,if r.2=0 then .increasing else if r.2=12 then .decreasing else .unknown):=by rw[hr];rfl
 rw[hc];clear hc;refine swp_ent (Ent.perm (.swap _ _ _)) ?_;refine swp_cutT (σ:=Unit) (λ_=> [(11,.int .i64 r.1),(9,.pointer (some ⟨p,0,none⟩))]) (λ_=>AR bk d rs::SW p r.2::L) (λ_=>True) ?_ ?_
 ·by_cases h8:b - a≥8
  ·rw[if_pos h8] at hr
   by_cases h50:b - a≥50
   ·rw[if_pos h50] at hr
    refine Q.rn ?_;refine S.cr rfl (medianAdjacent_spec bk n c (a+(b - a) / 4*1) p 0 d rs L hd zo zo hn zo) ?_;rintro _ _ ⟨rfl,rfl⟩;have q1:(Sort.medianAdjacent Sort.ltInt d (a+(b - a) / 4*1) 0).1<n∧(Sort.medianAdjacent Sort.ltInt d (a+(b - a) / 4*1) 0).2≤0+3:=median_in zo zo zo;generalize Sort.medianAdjacent Sort.ltInt d (a+(b - a) / 4*1) 0=ri at q1 hr;refine Q.rn ?_;refine S.cr rfl (medianAdjacent_spec bk n c (a+(b - a) / 4*2) p ri.2 d rs L hd zo zo hn zo) ?_;rintro _ _ ⟨rfl,rfl⟩;have q2:(Sort.medianAdjacent Sort.ltInt d (a+(b - a) / 4*2) ri.2).1<n∧(Sort.medianAdjacent Sort.ltInt d (a+(b - a) / 4*2) ri.2).2≤ri.2+3:=median_in zo zo zo;generalize Sort.medianAdjacent Sort.ltInt d (a+(b - a) / 4*2) ri.2=rj at q2 hr;refine Q.rn ?_;refine S.cr rfl (medianAdjacent_spec bk n c (a+(b - a) / 4*3) p rj.2 d rs L hd zo zo hn zo) ?_;rintro _ _ ⟨rfl,rfl⟩;have q3:(Sort.medianAdjacent Sort.ltInt d (a+(b - a) / 4*3) rj.2).1<n∧(Sort.medianAdjacent Sort.ltInt d (a+(b - a) / 4*3) rj.2).2≤rj.2+3:=median_in zo zo zo;generalize Sort.medianAdjacent Sort.ltInt d (a+(b - a) / 4*3) rj.2=rk at q3 hr;refine Q.rn ?_;refine S.cr rfl (median_spec bk n c ri.1 rj.1 rk.1 p rk.2 d rs L hd q1.1 q2.1 q3.1 hn zo) ?_;rintro _ _ ⟨rfl,rfl⟩;rw[←hr];refine Q.rn ?_
    first|refine N.tn ?_|skip
    exact ⟨(),zt,Ent.refl _,trivial⟩
   ·rw[if_neg h50] at hr
    refine Q.rn ?_;refine S.cr rfl (median_spec bk n c (a+(b - a) / 4*1) (a+(b - a) / 4*2) (a+(b - a) / 4*3) p 0 d rs L hd zo zo zo hn zo) ?_;rintro _ _ ⟨rfl,rfl⟩;rw[←hr];refine Q.rn ?_
    first|refine N.tn ?_|skip
    exact ⟨(),zt,Ent.refl _,trivial⟩
  ·rw[if_neg h8] at hr
   subst hr;refine Q.rn ?_
   first|refine N.tn ?_|skip
   exact ⟨(),zt,Ent.refl _,trivial⟩
 rintro _ _;clear hr;obtain ⟨m,w⟩:=r
 by_cases h0:w=0
 ·subst h0
  refine Q.rn ?_;exact N.u rfl rfl (Ent.cons (Ent.drop (Ent.refl _))) ⟨rfl,rfl⟩
 by_cases h12:w=12
 ·subst h12
  refine Q.rn ?_;exact N.u rfl rfl (Ent.cons (Ent.drop (Ent.refl _))) ⟨rfl,rfl⟩
 refine Q.rn ?_;exact N.u rfl rfl (Ent.cons (Ent.drop (Ent.refl _))) ⟨by simp only[if_neg h0,if_neg h12];rfl,rfl⟩
theorem Len64_spec (x:Nat)(hx:x<18446744073709551616)(L:HL):CallsS Tryz.prog 189 [.int .u64 x] L (λv L'=>v=.int .i64 (Sort.bitsLen x)∧L'=L):=by
 refine CallsS.of_body Tryz.func189 rfl rfl rfl ?_;have h1:x<18446744073709551616:=hx;have h2:0≤0:=Nat.le_refl _;have h3:0+Sort.bitsLen x=Sort.bitsLen x:=by simp
 obtain ⟨y,hy⟩:∃y,y=x:=⟨_,rfl⟩;obtain ⟨m,hm⟩:∃m,m=0:=⟨_,rfl⟩;rw[←hy] at h1 ⊢;rw[←hm] at h2;have h3:m+Sort.bitsLen y=Sort.bitsLen y:=by omega
 refine Q.rn ?_;refine swp_cutT (σ:=Nat×Nat) (λs=> [(0,.int .u64 s.1),(2,.int .i64 s.2)]) (λ_=>L) (λs=>s.1<4294967296∧s.2≤32∧s.2+Sort.bitsLen s.1=Sort.bitsLen y) ?_ ?_
 ·by_cases h:4294967296≤y
  ·have hdv:y / 2^32<4294967296:=by omega
   have hbl:Sort.bitsLen y=32+Sort.bitsLen (y / 2^32):=bitsLen_shift zo;refine Q.rn ?_;refine S.y (Y.shr (a:=y) (b:=32) rfl rfl zd) ?_;generalize y / 2^32=z at hdv hbl;refine Q.rn ?_
   first|refine N.tn ?_|skip
   exact ⟨(z,32),zt,Ent.refl _,hdv,by dsimp only;omega,by dsimp only;omega⟩
  ·refine Q.rn ?_
   first|refine N.tn ?_|skip
   exact ⟨(y,0),zt,Ent.refl _,by dsimp only;omega,by dsimp only;omega,by simp⟩
 obtain ⟨x,hx2⟩:∃x,x=y:=⟨_,rfl⟩;rw[←hx2];clear h1 h2 h3 hy hm hx2 hx;rintro ⟨y,m⟩ ⟨h1,h2,h3⟩;dsimp only at h1 h2 h3 ⊢;refine Q.rn ?_;refine swp_cutT (σ:=Nat×Nat) (λs=> [(0,.int .u64 s.1),(2,.int .i64 s.2)]) (λ_=>L) (λs=>s.1<65536∧s.2≤48∧s.2+Sort.bitsLen s.1=Sort.bitsLen x) ?_ ?_
 ·by_cases h:65536≤y
  ·have hdv:y / 2^16<65536:=by omega
   have hbl:Sort.bitsLen y=16+Sort.bitsLen (y / 2^16):=bitsLen_shift zo;refine Q.rn ?_;refine S.y (Y.shr (a:=y) (b:=16) rfl rfl zd) ?_;generalize y / 2^16=z at hdv hbl;refine Q.rn ?_
   first|refine N.tn ?_|skip
   exact ⟨(z,m+16),zt,Ent.refl _,hdv,by dsimp only;omega,by dsimp only;omega⟩
  ·refine Q.rn ?_
   first|refine N.tn ?_|skip
   exact ⟨(y,m),zt,Ent.refl _,by dsimp only;omega,by dsimp only;omega,h3⟩
 clear h1 h2 h3;rintro ⟨y,m⟩ ⟨h1,h2,h3⟩;dsimp only at h1 h2 h3 ⊢;refine Q.rn ?_;refine swp_cutT (σ:=Nat×Nat) (λs=> [(0,.int .u64 s.1),(2,.int .i64 s.2)]) (λ_=>L) (λs=>s.1<256∧s.2≤56∧s.2+Sort.bitsLen s.1=Sort.bitsLen x) ?_ ?_
 ·by_cases h:256≤y
  ·have hdv:y / 2^8<256:=by omega
   have hbl:Sort.bitsLen y=8+Sort.bitsLen (y / 2^8):=bitsLen_shift zo;refine Q.rn ?_;refine S.y (Y.shr (a:=y) (b:=8) rfl rfl zd) ?_;generalize y / 2^8=z at hdv hbl;refine Q.rn ?_
   first|refine N.tn ?_|skip
   exact ⟨(z,m+8),zt,Ent.refl _,hdv,by dsimp only;omega,by dsimp only;omega⟩
  ·refine Q.rn ?_
   first|refine N.tn ?_|skip
   exact ⟨(y,m),zt,Ent.refl _,by dsimp only;omega,by dsimp only;omega,h3⟩
 clear h1 h2 h3;rintro ⟨y,m⟩ ⟨h1,h2,h3⟩;dsimp only at h1 h2 h3 ⊢;refine Q.rn ?_;have hy8:IntKind.u8.wrap (y:Int)=(y:Int):=wrap_u8 zo zo;refine S.y (Y.cvi rfl) ?_;rw[hy8];have hb8:Sort.bitsLen y≤8:=by
  have:∀y:Nat,y<256→Sort.bitsLen y≤8:=by decide+kernel
  exact this y h1
 refine S.y (Y.idx (i:=y) (b:=UInt8.ofNat (Sort.bitsLen y)) rfl rfl (by clear h2 h3 hy8 hb8 m;revert y;decide+kernel)) ?_;have e8:(UInt8.ofNat (Sort.bitsLen y)).toNat=Sort.bitsLen y:=by simp;omega
 rw[e8];refine S.y (Y.cvi rfl) ?_;rw[wrap_i64 zo zo];refine Q.rn ?_;exact N.t rfl (Ent.refl _) ⟨congrArg (Value.int .i64) zo,rfl⟩
theorem Len_spec (x:Nat)(hx:x<18446744073709551616)(L:HL):CallsS Tryz.prog 172 [.int .u64 x] L (λv L'=>v=.int .i64 (Sort.bitsLen x)∧L'=L):=by
 refine CallsS.of_body Tryz.func172 rfl rfl rfl ?_;refine Q.rn ?_;refine S.cr rfl (Len64_spec x hx L) ?_;rintro _ _ ⟨rfl,rfl⟩;refine Q.rn ?_;exact N.t rfl (Ent.refl _) ⟨rfl,rfl⟩
theorem npow_spec (x:Nat)(hx:x≤17592186044416)(L:HL):CallsS Tryz.prog 191 [.int .i64 x] L (λv L'=>v=.int .u64 ((1<<<Sort.bitsLen x:Nat):Int)∧L'=L):=by
 have hl:Sort.bitsLen x≤45:=(Sort.bitsLen_le_iff x 45).2 zo;have hp:2^Sort.bitsLen x≤2^45:=Nat.pow_le_pow_right zo hl;refine CallsS.of_body Tryz.func191 rfl rfl rfl ?_;refine Q.rn ?_;refine S.y (Y.cvi rfl) ?_;rw[wrap_u64 zo zo];refine S.cr rfl (Len_spec x zo L) ?_;rintro _ _ ⟨rfl,rfl⟩;refine S.y (Y.shl (a:=1) (b:=Sort.bitsLen x) rfl rfl (Nat.le_trans hl zd)) ?_;rw[show 1*2^Sort.bitsLen x=1<<<Sort.bitsLen x by rw[Nat.one_shiftLeft,Nat.one_mul],wrap_u64 (Int.natCast_nonneg _) (by rw[Nat.one_shiftLeft];generalize 2^Sort.bitsLen x=q at hp;omega)];refine Q.rn ?_;exact N.t rfl (Ent.refl _) ⟨rfl,rfl⟩
abbrev RN (p:Nat)(r:UInt64):HP:=pt p (cl [.int .u64 (r.toNat:Int)] 294)
theorem Next_spec (p:Nat)(r:UInt64)(L:HL):CallsS Tryz.prog 192 [.pointer (some ⟨p,0,none⟩)] (RN p r::L) (λv L'=>v=.int .u64 ((Sort.xorNext r).toNat:Int)∧L'=RN p (Sort.xorNext r)::L):=by
 refine CallsS.of_body Tryz.func192 rfl rfl rfl ?_;refine Q.rn ?_;refine Q.dgo [true] [9] [9] [0,1,2,3,4,5,6,7,8,9] ?_
 (refine Q.rdn ?_)
 refine D.yp rfl rfl rfl (Y.shl (a:=_) (b:=13) rfl rfl zd) ?_;rw[shl64 _ 13 zd];refine D.yp rfl rfl rfl (Y.xor rfl rfl) ?_;rw[xor64]
 (refine Q.rdn ?_)
 refine Q.dc rfl rfl rfl rfl ?_
 (refine Q.rn ?_)
 (refine Q.rdn ?_)
 (refine Q.rn ?_)
 refine Q.dgo [true] [9] [9] [0,1,2,3,4,5,6,7,8,9] ?_
 (refine Q.rdn ?_)
 refine D.yp rfl rfl rfl (Y.shr (a:=_) (b:=7) rfl rfl zd) ?_;rw[shr64 _ 7 zd];refine D.yp rfl rfl rfl (Y.xor rfl rfl) ?_;rw[xor64]
 (refine Q.rdn ?_)
 refine Q.dc rfl rfl rfl rfl ?_
 (refine Q.rn ?_)
 (refine Q.rdn ?_)
 (refine Q.rn ?_)
 refine Q.dgo [true] [9] [9] [0,1,2,3,4,5,6,7,8,9] ?_
 (refine Q.rdn ?_)
 refine D.yp rfl rfl rfl (Y.shl (a:=_) (b:=17) rfl rfl zd) ?_;rw[shl64 _ 17 zd];refine D.yp rfl rfl rfl (Y.xor rfl rfl) ?_;rw[xor64]
 (refine Q.rdn ?_)
 refine Q.dc rfl rfl rfl rfl ?_
 (refine Q.rn ?_)
 (refine Q.rdn ?_)
 (refine Q.rn ?_)
 exact N.t rfl (Ent.refl _) ⟨rfl,rfl⟩
def bkIt (a l m base:Nat)(d:Array Int):Nat→UInt64×Array Int
 |0=>(UInt64.ofNat l,d)
 |k+1=>Sort.breakStep a l m (bkIt a l m base d k) (base+k)
theorem bkIt_size (a l m base:Nat)(d:Array Int):∀k,(bkIt a l m base d k).2.size=d.size
 |0=>rfl
 |k+1=>by simp only[bkIt,Sort.breakStep,swp_size];exact bkIt_size a l m base d k
theorem breakPatterns_spec (bk n c a b:Nat)(d:Array Int)(rs:List Value)(L:HL)(hd:d.size=n)(h8:a+8≤b)(hb:b≤n)(hn:n≤17592186044416):
  CallsS Tryz.prog 181 [SV bk n c,.int .i64 a,.int .i64 b] (AR bk d rs::L) (λv L'=>v=.tuple #[]∧L'=AR bk (Sort.breakPatterns d a b) rs::L):=by
 have hl:Sort.bitsLen (b - a)≤45:=(Sort.bitsLen_le_iff (b - a) 45).2 zo;have hp:1<<<Sort.bitsLen (b - a)≤2^45:=by rw[Nat.one_shiftLeft];exact Nat.pow_le_pow_right zo hl
 have hp2:1<<<Sort.bitsLen (b - a)≤2*(b - a):=by rw[Nat.one_shiftLeft];exact Sort.two_pow_bitsLen_le zo
 have hp0:0<1<<<Sort.bitsLen (b - a):=by rw[Nat.one_shiftLeft];exact Nat.two_pow_pos _
 have hres:Sort.breakPatterns d a b=(bkIt a (b - a) (1<<<Sort.bitsLen (b - a)) (a+(b - a) / 4*2 - 1) d 3).2:=by
  unfold Sort.breakPatterns;rw[if_pos (show b - a≥8 by omega)];rfl
 rw[hres];clear hres;obtain ⟨md,hmd⟩:∃md,md=1<<<Sort.bitsLen (b - a):=⟨_,rfl⟩;have hu:IntKind.u64.wrap ((b - a:Nat):Int)=((UInt64.ofNat (b - a)).toNat:Int):=by
  rw[wrap_u64 zo zo];simp;omega
 refine CallsS.of_body Tryz.func181 rfl rfl rfl ?_;refine Q.rn ?_;refine S.y (Y.cvi rfl) ?_;rw[hu];refine Q.rn ?_;(repeat (intro b1;refine Q.rn ?_));refine S.cr rfl (npow_spec (b - a) zo _) ?_;rintro _ _ ⟨rfl,rfl⟩;rw[←hmd] at hp hp2 hp0 ⊢;refine Q.rn ?_;obtain ⟨base,hbase⟩:∃base,base=a+(b - a) / 4*2 - 1:=⟨_,rfl⟩;rw[←hbase];refine swp_loop (σ:=Nat) (λk=> [(0,SV bk n c),(1,.int .i64 a),(6,.int .i64 (b - a:Nat)),(7,.pointer (some ⟨b1,0,none⟩)),(8,.int .u64 md),(9,.int .i64 (base+k:Nat))])
  (λk=>RN b1 (bkIt a (b - a) md base d k).1::AR bk (bkIt a (b - a) md base d k).2 rs::L) (λk=>k≤3) (λk=>3 - k) 0 zt (Ent.refl _) zo ?_
 intro k hk;have hsz:=bkIt_size a (b - a) md base d k;rw[hd] at hsz
 by_cases hk3:k=3
 ·subst hk3
  refine Q.rn ?_;refine N.n0 RV.nil (Ent.drop (Ent.refl _)) ⟨rfl,rfl⟩
 ·have hnx:bkIt a (b - a) md base d (k+1)=Sort.breakStep a (b - a) md (bkIt a (b - a) md base d k) (base+k):=rfl
  have hgoal:∀r e,(Sort.xorNext (bkIt a (b - a) md base d k).1)=r→(bkIt a (b - a) md base d k).2=e→bkIt a (b - a) md base d (k+1)=(r,Sort.swp e (base+k) (a+(if r.toNat&&&(md - 1)≥b - a then (r.toNat&&&(md - 1)) - (b - a) else r.toNat&&&(md - 1)))):=λr e h1 h2=>by rw[hnx,←h1,←h2];rfl
  refine Q.rn ?_;refine S.cr rfl (Next_spec b1 _ _) ?_;rintro _ _ ⟨rfl,rfl⟩;generalize hr:Sort.xorNext (bkIt a (b - a) md base d k).1=r at hgoal;generalize he:(bkIt a (b - a) md base d k).2=e at hgoal hsz;have hg:=hgoal r e rfl rfl;have hand:r.toNat&&&(md - 1)≤md - 1:=Nat.and_le_right;refine Q.rn ?_;refine S.y (Y.sub rfl rfl) ?_;rw[show ((md:Int) - 1)=((md - 1:Nat):Int) by omega,wrap_u64 zo zo];refine S.y (Y.and rfl rfl) ?_;rw[and64 _ _ (by have:=r.toNat_lt;omega) zo];refine S.y (Y.cvi rfl) ?_;rw[wrap_i64 zo zo];obtain ⟨o,ho⟩:∃o,o=r.toNat&&&(md - 1):=⟨_,rfl⟩;rw[←ho] at hand hg ⊢
  by_cases hol:o≥b - a
  ·rw[if_pos hol] at hg
   refine Q.rn ?_;refine Q.dgo [false,true] [17,19] [17] [0,1,2,3,4,5,6,7,8,9,10,11,12,13,14,15,16,17,18,19] ?_
   (refine Q.rdn ?_);refine Q.dc rfl rfl rfl rfl ?_;(refine Q.rn ?_);(refine Q.rdn ?_);refine D.e rfl rfl rfl ?_;(refine Q.rn ?_);(refine Q.rdn ?_);(refine Q.rn ?_)
   refine ⟨k+1,zt,?_,by omega,by omega⟩;rw[hg];exact Ent.perm (.swap _ _ _)
  ·rw[if_neg hol] at hg
   refine Q.rn ?_;refine Q.dgo [false,true] [17,19] [17] [0,1,2,3,4,5,6,7,8,9,10,11,12,13,14,15,16,17,18,19] ?_
   (refine Q.rdn ?_);refine Q.dc rfl rfl rfl rfl ?_;(refine Q.rn ?_);(refine Q.rdn ?_);refine D.e rfl rfl rfl ?_;(refine Q.rn ?_);(refine Q.rdn ?_);(refine Q.rn ?_)
   refine ⟨k+1,zt,?_,by omega,by omega⟩;rw[hg];exact Ent.perm (.swap _ _ _)
abbrev lI :=Sort.ltInt
theorem below_perm {a b:Nat}{d d':Array Int}(h:Sort.Below lI a b d)(hb:b≤d.size)(hp:Sort.PermIn a b d d'):Sort.Below lI a b d':=Sort.Below.permA Sort.permIn_all hb h hp
theorem pdq_spec (bk n c:Nat)(rs:List Value)(L:HL)(hn:n≤17592186044416):∀(k a b lim:Nat) (d:Array Int),b - a=k→d.size=n→a≤b→b≤n→lim≤1000→Sort.Below lI a b d→
  CallsS Tryz.prog 171 [SV bk n c,.int .i64 a,.int .i64 b,.int .i64 lim] (AR bk d rs::L) (λv L'=>v=.tuple #[]∧∃e,L'=AR bk e rs::L∧Sort.PermIn a b d e∧Sort.SortedIn lI a b e):=by
 intro k
 induction k using Nat.strongRecOn with
 |_ k ih=>
 intro a b lim d hk hd hab hb hlim hbel;refine CallsS.of_body Tryz.func171 rfl rfl rfl ?_;refine Q.rn ?_;refine swp_loop (σ:=Nat×Nat×Nat×Bool×Bool×Array Int) (λs=> [(0,SV bk n c),(1,.int .i64 s.1),(2,.int .i64 s.2.1),(3,.int .i64 s.2.2.1),(8,.bool s.2.2.2.1),(9,.bool s.2.2.2.2.1)]) (λs=>AR bk s.2.2.2.2.2 rs::L)
  (λs=>s.1≤s.2.1∧s.2.1≤n∧s.2.1 - s.1≤k∧s.2.2.1≤1000∧s.2.2.2.2.2.size=n∧Sort.Below lI s.1 s.2.1 s.2.2.2.2.2∧∀R,Sort.PermIn s.1 s.2.1 s.2.2.2.2.2 R→Sort.SortedIn lI s.1 s.2.1 R→Sort.PermIn a b d R∧Sort.SortedIn lI a b R)
  (λs=>s.2.1 - s.1) (a,b,lim,true,true,d) zt (Ent.refl _) ⟨hab,hb,Nat.le_of_eq hk,hlim,hd,hbel,λR h1 h2=>⟨h1,h2⟩⟩ ?_
 rintro ⟨a1,b1,lm,wb,wp,e⟩ ⟨g1,g2,g3,g4,g5,g6,g7⟩;dsimp only at g1 g2 g3 g4 g5 g6 g7 ⊢
 by_cases h12:b1 - a1≤12
 ·refine Q.rn ?_
  refine S.cr rfl (insertionSort_spec bk n c a1 b1 e rs L g5 zo g2 zo) ?_;rintro _ _ ⟨rfl,rfl⟩;refine Q.rn ?_;have:=Sort.insertionSort_holds Sort.swo_ltInt e a1 b1 g1 zo;exact N.r0 RV.nil (Ent.refl _) ⟨rfl,_,rfl,g7 _ this.1 this.2⟩
 by_cases hl0:lm=0
 ·subst hl0
  refine Q.rn ?_;refine S.cr rfl (heapSort_spec bk n c a1 b1 e rs L g5 zo g2 hn) ?_;rintro _ _ ⟨rfl,rfl⟩;refine Q.rn ?_;have:=Sort.heapSort_holds Sort.swo_ltInt e a1 b1 g1 zo;exact N.r0 RV.nil (Ent.refl _) ⟨rfl,_,rfl,g7 _ this.1 this.2⟩
 refine Q.rn ?_;refine swp_cutT (σ:=Nat×Array Int) (λs=> [(0,SV bk n c),(1,.int .i64 a1),(2,.int .i64 b1),(3,.int .i64 s.1),(8,.bool wb),(9,.bool wp),(10,.int .i64 (b1 - a1:Nat))]) (λs=>AR bk s.2 rs::L) (λs=>s.1≤1000∧Sort.PermIn a1 b1 e s.2) ?_ ?_
 ·cases wb with
  |true=>
   refine Q.rn ?_
   first|refine N.tn ?_|skip
   exact ⟨(lm,e),zt,Ent.refl _,g4,Sort.permIn_refl _ _ _⟩
  |false=>
   refine Q.rn ?_;refine S.cr rfl (breakPatterns_spec bk n c a1 b1 e rs L g5 zo g2 hn) ?_;rintro _ _ ⟨rfl,rfl⟩;refine Q.rn ?_
   first|refine N.tn ?_|skip
   exact ⟨(lm - 1,_),zt,Ent.refl _,by dsimp only;omega,Sort.breakPatterns_holds _ _ _ g1 zo⟩
 rintro ⟨l1,e1⟩ ⟨q1,q2⟩;dsimp only at q1 q2 ⊢;have q3:e1.size=n:=by rw[q2.1];exact g5
 refine Q.rn ?_;refine S.cr rfl (choosePivot_spec bk n c a1 b1 e1 rs L q3 zo g2 hn) ?_;rintro _ _ ⟨rfl,rfl⟩;have hcp:=Sort.choosePivot_holds Sort.ltInt e1 a1 b1 zo;generalize Sort.choosePivot Sort.ltInt e1 a1 b1=cp at hcp;obtain ⟨pv,hint⟩:=cp;dsimp only at hcp ⊢;refine Q.rn ?_;refine swp_cutT (σ:=Nat×Int×Array Int) (λs=> [(0,SV bk n c),(1,.int .i64 a1),(2,.int .i64 b1),(3,.int .i64 l1),(8,.bool wb),(9,.bool wp),(10,.int .i64 (b1 - a1:Nat)),(11,.int .i64 s.1),(12,.int .i64 s.2.1)]) (λs=>AR bk s.2.2 rs::L) (λs=>a1≤s.1∧s.1<b1∧Sort.PermIn a1 b1 e1 s.2.2) ?_ ?_
 ·by_cases hdec:hintN hint=2
  ·refine Q.rn ?_
   refine S.cr rfl (reverseRange_spec bk n c a1 b1 e1 rs L q3 zo g2 hn) ?_;rintro _ _ ⟨rfl,rfl⟩;refine Q.rn ?_
   first|refine N.tn ?_|skip
   exact ⟨(b1 - 1 - (pv - a1),1,_),zt,Ent.refl _,by dsimp only;omega,by dsimp only;omega,Sort.reverseRange_holds _ _ _ g1 zo⟩
  ·refine Q.rn ?_
   first|refine N.tn ?_|skip
   exact ⟨(pv,hintN hint,e1),zt,Ent.refl _,hcp.1,hcp.2,Sort.permIn_refl _ _ _⟩
 clear hcp;rintro ⟨p,hh,e2⟩ ⟨p1,p2,p3⟩;dsimp only at p1 p2 p3 ⊢;have p4:e2.size=n:=by rw[p3.1];exact q3
 have p5:Sort.PermIn a1 b1 e e2:=Sort.permIn_trans _ _ _ a1 b1 q2 p3;have p6:Sort.Below lI a1 b1 e2:=below_perm g6 zo p5;clear p3 q2 q3
 repeat (refine swp_seq ?_)
 refine swp_cutT (σ:=Bool) (λs=> [(0,SV bk n c),(1,.int .i64 a1),(2,.int .i64 b1),(3,.int .i64 l1),(8,.bool wb),(9,.bool wp),(10,.int .i64 (b1 - a1:Nat)),(11,.int .i64 p),(68,.bool s)]) (λs=>AR bk e2 rs::L) (λs=>True) ?_ ?_
 ·cases wb with
  |false=>
   refine Q.rn ?_;exact ⟨_,zt,Ent.refl _,trivial⟩
  |true=>
   cases wp with
   |false=>
    refine Q.rn ?_;exact ⟨_,zt,Ent.refl _,trivial⟩
   |true=>
    refine Q.rn ?_;exact ⟨_,zt,Ent.refl _,trivial⟩
 intro t68 _;refine swp_cutT (σ:=Array Int) (λs=> [(0,SV bk n c),(1,.int .i64 a1),(2,.int .i64 b1),(3,.int .i64 l1),(8,.bool wb),(9,.bool wp),(10,.int .i64 (b1 - a1:Nat)),(11,.int .i64 p)]) (λs=>AR bk s rs::L) (λs=>Sort.PermIn a1 b1 e s) ?_ ?_
 ·cases t68 with
  |false=>
   refine Q.rn ?_
   first|refine N.tn ?_|skip
   exact ⟨e2,zt,Ent.refl _,p5⟩
  |true=>
   refine Q.rn ?_;refine S.cr rfl (partialInsertionSort_spec bk n c a1 b1 e2 rs L p4 zo g2 hn) ?_;rintro _ _ ⟨rfl,rfl⟩;have hpi:=Sort.partialInsertionSort_holds Sort.swo_ltInt e2 a1 b1 zo zo p6;have hpp:=Sort.permIn_trans _ _ _ a1 b1 p5 hpi.1
   cases hr:(Sort.partialInsertionSort Sort.ltInt e2 a1 b1).2 with
   |true=>
    refine Q.rn ?_;exact N.r0 RV.nil (Ent.refl _) ⟨rfl,_,rfl,g7 _ hpp (hpi.2 hr)⟩
   |false=>
    refine Q.rn ?_
    first|refine N.tn ?_|skip
    exact ⟨_,zt,Ent.refl _,hpp⟩
 clear p4 p5 p6;intro e3 p5;have p4:e3.size=n:=by rw[p5.1];exact g5
 have p6:Sort.Below lI a1 b1 e3:=below_perm g6 zo p5
 repeat (refine swp_seq ?_)
 refine swp_cutT (σ:=Bool) (λs=> [(0,SV bk n c),(1,.int .i64 a1),(2,.int .i64 b1),(3,.int .i64 l1),(8,.bool wb),(9,.bool wp),(10,.int .i64 (b1 - a1:Nat)),(11,.int .i64 p),(87,.bool s)]) (λs=>AR bk e3 rs::L) (λs=>s=(decide (a1>0)&& !lI e3[a1 - 1]! e3[p]!)) ?_ ?_
 ·by_cases ha0:0<a1
  ·refine Q.rn ?_
   refine Q.dgo [true] [12] [] [0,1,2,3,4,5,6,7,8,9,10,11,12,13,14] ?_;refine Q.rdn ?_;refine D.e rfl rfl rfl ?_;refine S.guard rfl ?_;refine S.cr rfl (Less_spec _ _ _) ?_;rintro _ M ⟨rfl,rfl⟩;refine Q.rn ?_;refine Q.rdn ?_
   first|refine N.tn ?_|skip
   exact ⟨_,zt,Ent.refl _,by simp[ha0]⟩
  ·refine Q.rn ?_
   refine Q.dgo [true] [12] [] [0,1,2,3,4,5,6,7,8,9,10,11,12,13,14] ?_;refine Q.rdn ?_
   first|refine N.tn ?_|skip
   exact ⟨_,zt,Ent.refl _,by simp[ha0]⟩
 intro s hs
 cases s with
 |true=>
  symm at hs
  simp only[Bool.and_eq_true,decide_eq_true_eq,Bool.not_eq_true'] at hs;refine Q.rn ?_;refine S.cr rfl (partitionEqual_spec bk n c a1 b1 p e3 rs L p4 p1 p2 g2 hn) ?_;rintro _ _ ⟨rfl,rfl⟩
  cases hx:Sort.partitionEqual Sort.ltInt e3 a1 b1 p with
  |mk mid e4=>
  obtain ⟨r1,r2,r3,r4,r5⟩:=Sort.round_eq Sort.swo_ltInt (Sort.partitionEqual_holds Sort.ltInt) hs.1 p1 p2 zo p6 hs.2 hx;refine Q.rn ?_;refine ⟨(mid,b1,l1,wb,wp,e4),zt,Ent.refl _,⟨by dsimp only;omega,g2,by dsimp only;omega,q1,by dsimp only;omega,r4,λR h1 h2=> ?_⟩,by dsimp only;omega⟩;have:=r5 R h1 h2;exact g7 R (Sort.permIn_trans _ _ _ a1 b1 p5 this.1) this.2
 |false=>
  clear hs;refine Q.rn ?_;refine S.cr rfl (partition_spec bk n c a1 b1 p e3 rs L p4 p1 p2 g2 hn) ?_;rintro _ _ ⟨rfl,rfl⟩
  rcases hx:Sort.partition Sort.ltInt e3 a1 b1 p with ⟨mid,ap,e4⟩
  obtain ⟨r1,r2,r3,r4,r5,r6,r7⟩:=Sort.round_part Sort.swo_ltInt (Sort.partition_holds Sort.ltInt) p1 p2 zo p6 hx;refine Q.rn ?_
  by_cases hlt:mid - a1<b1 - mid
  ·refine Q.rn ?_
   refine S.cr rfl (ih (mid - a1) zo a1 mid l1 e4 rfl zo r1 zo q1 r4) ?_;rintro _ _ ⟨rfl,e5,rfl,u1,u2⟩;obtain ⟨w1,w2⟩:=r6 e5 u1 u2;refine Q.rn ?_;refine ⟨(mid+1,b1,l1,_,ap,e5),zt,Ent.refl _,⟨by dsimp only;omega,g2,by dsimp only;omega,q1,by dsimp only;rw[u1.1];omega,w1,λR h1 h2=> ?_⟩,by dsimp only;omega⟩;have:=w2 R h1 h2;exact g7 R (Sort.permIn_trans _ _ _ a1 b1 p5 this.1) this.2
  ·refine Q.rn ?_
   refine S.cr rfl (ih (b1 - (mid+1)) zo (mid+1) b1 l1 e4 rfl zo zo g2 q1 r5) ?_;rintro _ _ ⟨rfl,e5,rfl,u1,u2⟩;obtain ⟨w1,w2⟩:=r7 e5 u1 u2;refine Q.rn ?_;refine ⟨(a1,mid,l1,_,ap,e5),zt,Ent.refl _,⟨r1,by dsimp only;omega,by dsimp only;omega,q1,by dsimp only;rw[u1.1];omega,w1,λR h1 h2=> ?_⟩,by dsimp only;omega⟩;have:=w2 R h1 h2;exact g7 R (Sort.permIn_trans _ _ _ a1 b1 p5 this.1) this.2
end Go.Proofs.YtjlgabojhnnbaaaGreatDoor
