/- The scroll's reader: peek, take, step, Num, Left, End, NewReader. slices.Equal of bytes; what is read back of a number's bytes. The judge's Unpack: what it reads; how it reads a stamp. What Unpack reads: bounds. The judge's Unpack. What Pack wrote Unpack reads again. What is unpacked of a judge's bytes. What the document reads of a judge's bytes, and that it is what the program reads. Ways of writing and of reading, put together. Vectors: written and read. VaultStays: what is answered stays so, as a law of states. VaultLoads: what a load takes, as a law of states. A juror's bytes: what the program reads of any bytes, what the document reads; pure. A juror's bytes: the document reads of any bytes what the program reads. A juror of the law's steps: what it packs can be unpacked. What is unpacked of bytes is a juror as the walks want it. The document's juror stands for any order of the maps. The document's writer of vectors; the parts of an intent. Both jurors' Wake. No condition. -/
import Derived.Laws.MakeOwn
import Derived.Test.YtjlgabojhnnbaaaGreatDoorPk09
set_option linter.unusedVariables false
set_option linter.unusedSimpArgs false
set_option linter.unusedSectionVars false
set_option maxHeartbeats 8000000
namespace Go.SX
open Go
section
variable {P : Program} {n : Nat} {ops rest : List Oper} {Q : Post} {f : Env} {A L : HL} {d : Tmp} {ty : TypeId} {pos : String} {af : Array Edge}
theorem Y.anI {x y:Operand}{t t':TypeId}{k:IntKind}{a b:Int}(hx:ev f x=some (.int k a))(hy:ev f y=some (.int k b)):YieldS P n ops ⟨some d,.binOp .andNot t x y t',ty,pos,af,none⟩ f A ((.int k (k.wrap ((BitVec.ofInt k.bits a)&&& ~~~(BitVec.ofInt k.bits b)).toNat))):=Y.of (λ_ w s=>by simp[execOp,s.eval hx,s.eval hy,eqGuard,binOp,Op.intBits])
theorem S.mks {x y:Operand}{t e:TypeId}{sz bts:Nat}{ag:Bool}{zs:List Value}{kx ky:IntKind}{m:Nat}[h:SlTy P t e][h2:Ty P e ag sz zs bts](hx:ev f x=some (.int kx m))(hy:ev f y=some (.int ky m))(hz:zs.length=sz)
  (hb:bts*m≤281474976710656) (h63:m≤9223372036854775807) (hs:m*sz≤16777216) (hk:∀b,opsS P n ops rest Q (upd f d (.slice (some ⟨b,0,none⟩) m m)) (pt b (cl (rep m zs) e)::L)):
  opsS P n ops (⟨some d,.makeSlice t x y,ty,pos,af,none⟩::rest) Q f L:=by
 obtain ⟨i,z,hi,hisz,hib,hiz,hzz⟩:=h2.raw;refine opsS_value (R:=λv L1=>∃b,v=.slice (some ⟨b,0,none⟩) m m∧L1=pt b (cl (rep m zs) e)::L) (λF ac w s t1=> ?_) (by rintro _ _ ⟨b,rfl,rfl⟩;exact hk b);have hr:=run_makeSlice (P:=P) w t e i z h.raw hi hiz kx ky (m:Int) m zo zo (by rw[hisz];simpa using hs) (by rw[hib];omega) zo;have hzl:z.cells.size=sz:=by rw[←hz,←hzz];simp
 have e1:madeCells z.cells (m*sz)=(rep m zs).toArray:=by
  have:=zero_row z.cells m sz hzl;rw[hzz] at this;exact this
 rw[hisz,Int.toNat_natCast,e1] at hr;refine ⟨_,w.alloc (.cells (rep m zs).toArray e),pt w.heap.size (cl (rep m zs) e)::L,?_,?_,_,rfl,rfl⟩
 ·simp[execOp,s.eval hx,s.eval hy,hr]
 ·exact St.pt_new t1 rfl
theorem S.cpy0 {x y:Operand}{t tx e:TypeId}{sz bts:Nat}{ag:Bool}{zs:List Value}{b o dl dc kc:Nat}{a:OA}[h:SlTy P t e][h2:Ty P e ag sz zs bts]
  (hx:ev f x=some (.slice (some ⟨b,o,none⟩) dl dc)) (hy:ev f y=some (.slice a 0 kc)) (hk:opsS P n ops rest Q (upd f d (.int .i64 0)) L):
  opsS P n ops (⟨some d,.call ⟨.builtin .copy,#[x,y],#[t,tx]⟩,ty,pos,af,none⟩::rest) Q f L:=by
 refine opsS_value (R:=λv L1=>v=.int .i64 0∧L1=L) (λF ac w s t1=> ?_) (by rintro _ _ ⟨rfl,rfl⟩;exact hk);have hst:(storeCells ⟨b,o,none⟩ []).run P w=.ok () w:=rfl;have hrun:(Builtin.copy_ #[t,tx] ty #[.slice (some ⟨b,o,none⟩) dl dc,.slice a 0 kc]).run P w=.ok (goInt 0) w:=by
  cases a with
  |none=>simp[Builtin.copy_,run_underlying h.raw,Builtin.lenOf,Builtin.firstCells,h2.size,hst]
  |some ad=>
   have hld:=run_loadCells_list (P:=P) w ad [] (λj v e=>by simp at e);simp only[List.length_nil] at hld
   simp[Builtin.copy_,run_underlying h.raw,Builtin.lenOf,Builtin.firstCells,h2.size,hld,hst]
 refine ⟨_,w,_,?_,t1,rfl,rfl⟩
 simp[execOp,resolve,invoke,s.eval hx,s.eval hy,builtin,hrun,goInt]
end
theorem SlM.fromA {M:OM}{a:OA}{m c l sz:Nat}{cs:List Value}(h:SlM M a m sz cs)(h1:l≤m)(h2:m≤c):SlM M (Go.Proofs.YtjlgabojhnnbaaaGreatDoor.subA a c l sz) (m - l) sz (cs.drop (l*sz)):=by
 by_cases h0:l=0
 ·subst h0
  unfold Go.Proofs.YtjlgabojhnnbaaaGreatDoor.subA;rw[if_pos rfl,Nat.zero_mul,List.drop_zero];exact h
 ·refine ⟨by rw[List.length_drop,h.1,Nat.sub_mul],?_⟩
  rcases h.2 with h3|⟨b,o,l',t,fz,e,e1,e2⟩
  ·omega
  ·by_cases hc:c=l
   ·exact .inl zo
   ·subst e
    unfold Go.Proofs.YtjlgabojhnnbaaaGreatDoor.subA;rw[if_neg h0];refine .inr ⟨b,o+l*sz,l',t,fz,by simp[hc],e1,λj v hj=> ?_⟩;rw[List.getElem?_drop] at hj;have:=e2 _ v hj
    rwa [←Nat.add_assoc] at this
end Go.SX
namespace Go.Proofs.YtjlgabojhnnbaaaGreatDoor
open Go Go.SX
attribute [local irreducible] swp opsS thenS blockS retS CallsS St Ent YieldS anyS drawS
def peekF :List UInt8→Nat→Nat→Nat×Nat×Int
 | [],_,_=>(0,0,2)
 |b::bs,i,n=>if i=9∧1<b.toNat then (0,0,4) else if b.toNat<128 then (if b.toNat=0∧0<i then (0,0,4) else (n+b.toNat % 128*2^(7*i),i+1,0)) else peekF bs (i+1) (n+b.toNat % 128*2^(7*i))
theorem peekF_cons (b:UInt8)(bs:List UInt8)(i n:Nat):peekF (b::bs) i n=if i=9∧1<b.toNat then (0,0,4) else if b.toNat<128 then (if b.toNat=0∧0<i then (0,0,4) else (n+b.toNat % 128*2^(7*i),i+1,0)) else peekF bs (i+1) (n+b.toNat % 128*2^(7*i)):=rfl
theorem peekF_size :∀(bs:List UInt8) (i n:Nat),(peekF bs i n).2.1≤i+bs.length
 | [],i,n=>by simp[peekF]
 |b::bs,i,n=>by
  unfold peekF;have:=peekF_size bs (i+1) (n+b.toNat % 128*2^(7*i));rw[List.length_cons]
  repeat' split
  all_goals ((try dsimp only);omega)
set_option maxRecDepth 100000 in
theorem u8an (b:Nat)(hb:b<256):IntKind.u8.wrap (((BitVec.ofInt IntKind.u8.bits (b:Int))&&& ~~~(BitVec.ofInt IntKind.u8.bits 128)).toNat:Int)=((b % 128:Nat):Int):=by
 show IntKind.u8.wrap (((BitVec.ofInt 8 (b:Int))&&& ~~~(BitVec.ofInt 8 128)).toNat:Int)=_
 rw[BitVec.toNat_and,show (BitVec.ofInt 8 (b:Int)).toNat=b by simp;omega,show (~~~(BitVec.ofInt 8 128)).toNat=127 by decide];have e3:b&&&127=b % 128:=(by decide:∀x,x<256→x&&&127=x % 128) b hb;rw[e3,wrap_u8 zo zo]
theorem acc_lt {n b i:Nat}(hn:n<2^(7*i))(hb:b<128):n+b*2^(7*i)<2^(7*(i+1)):=by
 have e:2^(7*(i+1))=128*2^(7*i):=by rw[Nat.mul_add,Nat.pow_add,Nat.mul_comm]
 have:=Nat.mul_le_mul_right (2^(7*i)) (show b≤127 by omega);omega
theorem acc_or {n b i:Nat}(hn:n<2^(7*i))(hi:i≤9)(hb:b<128)(h9:i=9→b≤1):n+b*2^(7*i)<18446744073709551616∧
  IntKind.u64.wrap (((BitVec.ofInt IntKind.u64.bits (n:Int))|||(BitVec.ofInt IntKind.u64.bits (IntKind.u64.wrap ((b:Int)*2^(7*i))))).toNat:Int)=((n+b*2^(7*i):Nat):Int):=by
 have h1:n+b*2^(7*i)<18446744073709551616:=by
  by_cases h:i=9
  ·subst h
   have:=h9 rfl;have e:(2:Nat)^(7*9)=9223372036854775808:=by decide
   rw[e] at hn ⊢;omega
  ·have:=acc_lt hn hb
   have h2:2^(7*(i+1))≤2^(7*9):=Nat.pow_le_pow_right zo zo;have e:(2:Nat)^(7*9)=9223372036854775808:=by decide
   omega
 refine ⟨h1,?_⟩;have e2:IntKind.u64.wrap ((b:Int)*2^(7*i))=((b*2^(7*i):Nat):Int):=by
  have:((b:Int)*2^(7*i))=((b*2^(7*i):Nat):Int):=by push_cast;rfl
  rw[this,wrap_u64 zo zo]
 have e:∀x:Nat,x<18446744073709551616→(BitVec.ofInt IntKind.u64.bits (x:Int)).toNat=x:=λx hx=>by
  show (BitVec.ofInt 64 (x:Int)).toNat=x
  simp;omega
 have e5:n|||b*2^(7*i)=n+b*2^(7*i):=by rw[Nat.or_comm,Nat.mul_comm b,←Nat.two_pow_add_eq_or_of_lt hn,Nat.add_comm]
 rw[e2,BitVec.toNat_or,e _ zo,e _ zo,e5,wrap_u64 zo zo]
abbrev cB (b:UInt8):List Value:=[B b]
theorem flat_B (xs:List UInt8):xs.flatMap cB=xs.map B:=by induction xs with
 |nil=>rfl
 |cons x xs ih=>simp[List.flatMap_cons,ih]
set_option maxRecDepth 100000 in
theorem peek_spec (a:OA)(c:Nat)(bs:List UInt8)(L:HL)(h:RdS L a bs.length 1 (bs.map B))(hb:bs.length≤1000000000000):
  CallsS Tryz.prog 139 [.slice a bs.length c] L (λv L'=>v=.tuple #[.int .u64 (peekF bs 0 0).1,.int .i64 (peekF bs 0 0).2.1,.int .i64 (peekF bs 0 0).2.2]∧L'=L):=by
 refine CallsS.of_body Tryz.func139 rfl rfl rfl ?_;refine Q.r ?_;refine swp_cutB (σ:=Unit) (λ_=> []) (λ_=>L) (λ_=>peekF bs 0 0=(0,0,2)) ?_ ?_
 ·refine swp_loop (σ:=Nat×Nat) (λs=> [(8,.slice a bs.length c),(9,.int .i64 bs.length),(5,.int .u64 s.2),(10,.int .i64 s.1)]) (λ_=>L)
   (λs=>s.1≤bs.length∧s.1≤9∧s.2<2^(7*s.1)∧peekF (bs.drop s.1) s.1 s.2=peekF bs 0 0) (λs=>bs.length - s.1) (0,0) zt (Ent.refl _) ⟨by omega,by omega,by simp,rfl⟩ ?_
  rintro ⟨k,n⟩ ⟨hk,h9,hn,hp⟩;dsimp only at hk h9 hn hp ⊢
  by_cases hlt:k<bs.length
  ·obtain ⟨x,hx⟩:=mem_get hlt
   have hd:bs.drop k=x::bs.drop (k+1):=by
    rw[List.drop_eq_getElem_cons hlt]
    congr 1
    exact (List.getElem?_eq_some_iff.1 hx).2
   rw[hd,peekF_cons] at hp;have hx8:x.toNat<256:=x.toNat_lt;have hrs:RdS L a bs.length 1 (bs.flatMap cB):=by rw[flat_B];exact h
   obtain ⟨b,o,hia,hr⟩:=RdS.elem (g:=cB) (λ_=>rfl) hrs hx rfl;clear hrs;rw[hia];have em:IntKind.i64.wrap (7*(k:Int))=((7*k:Nat):Int):=by rw[wrap_i64 zo zo];push_cast;rfl
   by_cases c9:k=9∧1<x.toNat
   ·rw[if_pos c9] at hp
    obtain ⟨c91,c92⟩:=c9;rw[←hp];refine Q.r ?_;exact N.r3 (RV.tmp rfl (RV.tmp rfl (RV.tmp rfl RV.nil))) (Ent.refl _) ⟨rfl,rfl⟩
   ·rw[if_neg c9] at hp
    have hm9:k=9→x.toNat % 128≤1:=λe=>by omega
    obtain ⟨ho1,ho2⟩:=acc_or (b:=x.toNat % 128) hn h9 zo hm9;have hm2:=acc_lt (b:=x.toNat % 128) hn zo;generalize hm:n+x.toNat % 128*2^(7*k)=m at*;have hpw:(2:Nat)^(7*(k+1))=2^(7*(k+1)):=rfl;clear hpw hn hm;have hgo:∀{R:Prop},(k=9→x.toNat≤1→R)→(k≠9→R)→R:=λh1 h2=>by
     by_cases e:k=9
     ·exact h1 e zo
     ·exact h2 e
    refine hgo (λc91 c92=> ?_) (λc91=> ?_)
    all_goals refine Q.r ?_
    all_goals refine S.y (Y.anI rfl rfl) ?_
    all_goals rw[u8an _ hx8]
    all_goals refine Q.r ?_
    all_goals refine S.y (Y.cvi rfl) ?_
    all_goals rw[wrap_u64 zo zo]
    all_goals refine Q.r ?_
    all_goals refine S.y (Y.mul rfl rfl) ?_
    all_goals rw[em]
    all_goals refine S.y (Y.shlI (b:=7*k) rfl rfl (by show 7*k≤64;omega)) ?_
    all_goals refine S.y (Y.or rfl rfl) ?_
    all_goals rw[ho2]
    all_goals clear ho2 hgo hm9 em c9 hd hia ho1
    ·rw[if_pos zo] at hp
     by_cases hx0:x.toNat=0
     ·rw[if_pos ⟨hx0,by omega⟩] at hp
      rw[←hp];clear hp;refine Q.r ?_;exact N.r3 (RV.tmp rfl (RV.tmp rfl (RV.tmp rfl RV.nil))) (Ent.refl _) ⟨rfl,rfl⟩
     ·rw[if_neg zo] at hp
      rw[←hp];clear hp;refine Q.r ?_;exact N.r3 (RV.tmp rfl (RV.tmp rfl (RV.tmp rfl RV.nil))) (Ent.refl _) ⟨rfl,rfl⟩
    ·by_cases hx1:x.toNat<128
     ·rw[if_pos hx1] at hp
      by_cases hx0:x.toNat=0
      ·by_cases hk0:0<k
       ·rw[if_pos ⟨hx0,hk0⟩] at hp
        rw[←hp];clear hp;refine Q.r ?_;exact N.r3 (RV.tmp rfl (RV.tmp rfl (RV.tmp rfl RV.nil))) (Ent.refl _) ⟨rfl,rfl⟩
       ·rw[if_neg zo] at hp
        rw[←hp];clear hp;refine Q.r ?_;exact N.r3 (RV.tmp rfl (RV.tmp rfl (RV.tmp rfl RV.nil))) (Ent.refl _) ⟨rfl,rfl⟩
      ·rw[if_neg zo] at hp
       rw[←hp];clear hp;refine Q.r ?_;exact N.r3 (RV.tmp rfl (RV.tmp rfl (RV.tmp rfl RV.nil))) (Ent.refl _) ⟨rfl,rfl⟩
     ·rw[if_neg hx1] at hp
      refine Q.r ?_;exact ⟨(k+1,m),zt,Ent.refl _,⟨by omega,by omega,hm2,hp⟩,by dsimp only;omega⟩
  ·have hke:k=bs.length:=by omega
   subst hke;rw[List.drop_length] at hp;refine Q.r ?_;exact ⟨(),trivial,Ent.refl _,hp.symm⟩
 ·rintro _ hp
  (try dsimp only at hp)
  rw[hp];refine Q.r ?_;exact N.r3 (RV.tmp rfl (RV.tmp rfl (RV.tmp rfl RV.nil))) (Ent.refl _) ⟨rfl,rfl⟩
def takeF (bs:List UInt8)(most:Nat):Nat×Nat×Int:=if (peekF bs 0 0).2.2≠0 then (0,0,(peekF bs 0 0).2.2) else if most<(peekF bs 0 0).1 then (0,0,3) else ((peekF bs 0 0).1,(peekF bs 0 0).2.1,0)
def restV (a:OA)(c:Nat)(bs:List UInt8)(q:Nat×Nat×Int):Value:=if q.2.2≠0 then .slice none 0 0 else .slice (subA a c q.2.1 1) (bs.length - q.2.1) (c - q.2.1)
theorem takeF_size (bs:List UInt8)(most:Nat):(takeF bs most).2.1≤bs.length:=by
 unfold takeF;have:=peekF_size bs 0 0
 split
 ·simp
 ·split
  ·simp
  ·dsimp only;omega
theorem RdS.atA {L:HL}{a:OA}{m sz:Nat}{cs:List Value}(h:RdS L a m sz cs):m=0∨∃b o,a=some ⟨b,o,none⟩:=by
 rcases h.2 with h0|⟨b,o,e,_⟩
 ·exact .inl h0
 ·exact .inr ⟨b,o,e⟩
set_option maxRecDepth 100000 in
theorem take_spec (a:OA)(c:Nat)(bs:List UInt8)(most:Nat)(L:HL)(h:RdS L a bs.length 1 (bs.map B))(hb:bs.length≤1000000000000):
  CallsS Tryz.prog 93 [.slice a bs.length c,.int .u64 most] L (λv L'=>v=.tuple #[.int .u64 (takeF bs most).1,restV a c bs (takeF bs most),.int .i64 (takeF bs most).2.2]∧L'=L):=by
 have hsz:=peekF_size bs 0 0;have hat:=RdS.atA h;have hp:=peek_spec a c bs L h hb;unfold takeF;generalize peekF bs 0 0=q at*;obtain ⟨v,sz,e⟩:=q;dsimp only at*;refine CallsS.of_body Tryz.func93 rfl rfl rfl ?_;refine Q.r ?_;refine S.cr rfl hp ?_;rintro _ _ ⟨rfl,rfl⟩;clear hp
 by_cases he:e=0
 ·subst he
  by_cases hm:most<v
  ·rw[if_neg zd,if_pos hm]
   refine Q.r ?_;exact N.r3 (RV.tmp rfl (RV.tmp rfl (RV.tmp rfl RV.nil))) (Ent.refl _) ⟨rfl,rfl⟩
  ·rw[if_neg zd,if_neg hm]
   refine Q.r ?_;refine Q.dgo [] [] [] [0,1,2,3,4,5,6] ?_;refine Q.rd ?_;refine D.y rfl rfl rfl zk (Y.slFa rfl rfl rfl zo hat) ?_;refine Q.rd ?_;refine Q.r ?_;exact N.r3 (RV.tmp rfl (RV.tmp rfl (RV.tmp rfl RV.nil))) (Ent.refl _) ⟨rfl,rfl⟩
 ·rw[if_pos he]
  refine Q.r ?_;refine N.r3 (RV.tmp rfl (RV.tmp rfl (RV.tmp rfl RV.nil))) (Ent.refl _) ⟨?_,rfl⟩;unfold restV;rw[if_pos he];rfl
abbrev rdP (r:Nat)(a:OA)(m c:Nat)(bad:Int):HP:=pt r (cl [.slice a m c,.int .i64 bad] 191)
theorem fail_spec (r:Nat)(a:OA)(m c:Nat)(bad e:Int)(L:HL):
  CallsS Tryz.prog 140 [.pointer (some ⟨r,0,none⟩),.int .i64 e] (rdP r a m c bad::L) (λv L'=>v=.tuple #[]∧L'=rdP r a m c (if bad=0 then e else bad)::L):=by
 refine CallsS.of_body Tryz.func140 rfl rfl rfl ?_
 by_cases hb:bad=0
 ·rw[if_pos hb]
  refine Q.r ?_;exact N.n0 RV.nil (Ent.refl _) ⟨rfl,rfl⟩
 ·rw[if_neg hb]
  refine Q.r ?_;exact N.n0 RV.nil (Ent.refl _) ⟨rfl,rfl⟩
theorem rstep_spec (r:Nat)(a a2:OA)(m c m2 c2:Nat)(bad e:Int)(L:HL):
  CallsS Tryz.prog 94 [.pointer (some ⟨r,0,none⟩),.slice a2 m2 c2,.int .i64 e] (rdP r a m c bad::L)
   (λv L'=>v=.bool (decide (e=0))∧L'=(if e=0 then rdP r a2 m2 c2 bad else rdP r a m c (if bad=0 then e else bad))::L):=by
 refine CallsS.of_body Tryz.func94 rfl rfl rfl ?_
 by_cases he:e=0
 ·rw[if_pos he]
  refine Q.r ?_;exact N.t rfl (Ent.refl _) ⟨by rw[decide_eq_true he],rfl⟩
 ·rw[if_neg he]
  refine Q.r ?_;refine S.cr rfl (fail_spec r a m c bad e L) ?_;rintro _ _ ⟨rfl,rfl⟩;refine Q.r ?_;exact N.t rfl (Ent.refl _) ⟨by rw[decide_eq_false he],rfl⟩
theorem dead_spec (r:Nat)(a:OA)(m c:Nat)(bad:Int)(L:HL):
  CallsS Tryz.prog 92 [.pointer (some ⟨r,0,none⟩)] (rdP r a m c bad::L) (λv L'=>v=.bool (!decide (bad=0))∧L'=rdP r a m c bad::L):=by
 refine CallsS.of_body Tryz.func92 rfl rfl rfl ?_;refine Q.r ?_;exact N.t rfl (Ent.refl _) ⟨rfl,rfl⟩
def numF (most:Nat)(bs:List UInt8)(bad:Int):Nat×List UInt8×Int:=if bad≠0 then (0,bs,bad) else if (takeF bs most).2.2≠0 then (0,bs,(takeF bs most).2.2) else ((takeF bs most).1,bs.drop (takeF bs most).2.1,0)
set_option maxRecDepth 100000 in
theorem rNum_spec (r:Nat)(a:OA)(c:Nat)(bs:List UInt8)(bad:Int)(most:Nat)(M:OM)(L:HL)[hM:HasM M L](h:SlM M a bs.length 1 (bs.map B))(hc:bs.length≤c)(hb:bs.length≤1000000000000):
  CallsS Tryz.prog 25 [.pointer (some ⟨r,0,none⟩),.int .u64 most] (rdP r a bs.length c bad::L)
   (λv L'=>v=.int .u64 (numF most bs bad).1∧∃a' c',SlM M a' (numF most bs bad).2.1.length 1 ((numF most bs bad).2.1.map B)∧(numF most bs bad).2.1.length≤c'∧L'=rdP r a' (numF most bs bad).2.1.length c' (numF most bs bad).2.2::L):=by
 refine CallsS.of_body Tryz.func25 rfl rfl rfl ?_;refine Q.r ?_;refine S.cr rfl (dead_spec r a bs.length c bad L) ?_;rintro _ _ ⟨rfl,rfl⟩;unfold numF
 by_cases hd:bad=0
 ·subst hd
  rw[if_neg zd];refine Q.r ?_;refine S.cr rfl (take_spec a c bs most (rdP r a bs.length c 0::L) (h.rd (hm:=HasM.there)) hb) ?_;rintro _ _ ⟨rfl,rfl⟩;have hsz:=takeF_size bs most;generalize takeF bs most=q at*;obtain ⟨v,sz,e⟩:=q;dsimp only at*;refine Q.r ?_;unfold restV;dsimp only
  by_cases he:e=0
  ·subst he
   rw[if_neg zd,if_neg zd];refine S.cr rfl (rstep_spec r a (subA a c sz 1) bs.length c (bs.length - sz) (c - sz) 0 0 L) ?_;rintro _ _ ⟨rfl,rfl⟩;rw[if_pos rfl];refine Q.r ?_;have hs:=h.fromA (l:=sz) hsz hc;rw[Nat.mul_one,←List.map_drop] at hs;refine N.t rfl (Ent.refl _) ⟨rfl,subA a c sz 1,c - sz,?_,?_,?_⟩
   ·dsimp only
    rw[List.length_drop];exact hs
   ·dsimp only
    rw[List.length_drop];omega
   ·dsimp only
    rw[List.length_drop]
  ·rw[if_pos he,if_pos he]
   refine S.cr rfl (rstep_spec r a none bs.length c 0 0 0 e L) ?_;rintro _ _ ⟨rfl,rfl⟩;rw[if_neg he,if_pos rfl];refine Q.r ?_;exact N.t rfl (Ent.refl _) ⟨rfl,a,c,h,hc,rfl⟩
 ·rw[if_pos hd]
  refine Q.r ?_;exact N.t rfl (Ent.refl _) ⟨rfl,a,c,h,hc,rfl⟩
theorem rLeft_spec (r:Nat)(a:OA)(m c:Nat)(bad:Int)(L:HL):
  CallsS Tryz.prog 28 [.pointer (some ⟨r,0,none⟩)] (rdP r a m c bad::L) (λv L'=>v=.int .i64 m∧L'=rdP r a m c bad::L):=by
 refine CallsS.of_body Tryz.func28 rfl rfl rfl ?_;refine Q.r ?_;exact N.t rfl (Ent.refl _) ⟨rfl,rfl⟩
def endF (bs:List UInt8)(bad:Int):Int:=if bad≠0 then bad else if bs.length=0 then 0 else 4
theorem rEnd_spec (r:Nat)(a:OA)(c:Nat)(bs:List UInt8)(bad:Int)(L:HL):
  CallsS Tryz.prog 29 [.pointer (some ⟨r,0,none⟩)] (rdP r a bs.length c bad::L) (λv L'=>v=.int .i64 (endF bs bad)∧L'=rdP r a bs.length c bad::L):=by
 refine CallsS.of_body Tryz.func29 rfl rfl rfl ?_;unfold endF
 by_cases hd:bad=0
 ·rw[if_neg (by simpa using hd)]
  by_cases hl:bs.length=0
  ·rw[if_pos hl]
   refine Q.r ?_;exact N.t rfl (Ent.refl _) ⟨rfl,rfl⟩
  ·rw[if_neg hl]
   refine Q.r ?_;exact N.t rfl (Ent.refl _) ⟨rfl,rfl⟩
 ·rw[if_pos hd]
  refine Q.r ?_;exact N.t rfl (Ent.refl _) ⟨rfl,rfl⟩
theorem rNew_spec (a:OA)(c:Nat)(bs:List UInt8)(M:OM)(L L0:HL)[hP:PickM L M L0](h:RdS L a bs.length 1 (bs.map B))(hb:bs.length≤10000000):
  CallsS Tryz.prog 24 [.slice a bs.length c] L (λv L'=>∃r a' M',v=.pointer (some ⟨r,0,none⟩)∧leM M M'∧SlM M' a' bs.length 1 (bs.map B)∧L'=rdP r a' bs.length bs.length 0::roM M'::L0):=by
 refine CallsS.of_body Tryz.func24 rfl rfl rfl ?_;refine Q.r ?_;refine S.mks (m:=bs.length) rfl rfl zr zo zo zo (λb1=> ?_);refine Q.r ?_;have hput:putAt (rep bs.length [.int .u8 0]) 0 (bs.map B)=bs.map B:=by
  have hl:(rep bs.length [Value.int .u8 0]).length=bs.length:=by rw[rep_length];simp
  unfold putAt;rw[List.take_zero,List.nil_append,Nat.zero_add,List.drop_eq_nil_of_le (by rw[hl,List.length_map];exact Nat.le_refl _),List.append_nil]
 rcases h.2 with h0|⟨b2,o2,rfl,hr⟩
 ·have hn:bs=[]:=List.eq_nil_of_length_eq_zero h0
  subst hn;refine S.cpy0 rfl rfl ?_;refine opsS_ent (slO_fold (sz:=1) (m:=0) rfl) ?_;refine opsS_absorb (λM' hl hs=> ?_);refine Q.r ?_;(repeat (intro b1;refine Q.r ?_));exact N.t rfl (Ent.refl _) ⟨b1,_,M',rfl,hl,hs,rfl⟩
 ·refine S.cpy (l':=bs.map B) rfl rfl hr.sub (by simp) (by rw[rep_length];simp) (B_one _) hput ?_
  refine opsS_ent (slO_fold (sz:=1) (m:=bs.length) (by simp)) ?_;refine opsS_absorb (λM' hl hs=> ?_);refine Q.r ?_;(repeat (intro b1;refine Q.r ?_));exact N.t rfl (Ent.refl _) ⟨b1,_,M',rfl,hl,hs,rfl⟩
end Go.Proofs.YtjlgabojhnnbaaaGreatDoor
namespace Go.Proofs.YtjlgabojhnnbaaaGreatDoor
open Go Go.SX
attribute [local irreducible] swp opsS thenS blockS retS CallsS St Ent YieldS anyS drawS
set_option maxRecDepth 100000 in
theorem equalB_spec (a a2:OA)(c c2:Nat)(xs ys:List UInt8)(M:OM)(L:HL)(h1:SlM M a xs.length 1 (xs.map B))(h2:SlM M a2 ys.length 1 (ys.map B))(hb0:ys.length≤1000000000000):
  CallsS Tryz.prog 36 [.slice a xs.length c,.slice a2 ys.length c2] (roM M::L) (λv L'=>v=.bool (decide (xs=ys))∧L'=roM M::L):=by
 refine CallsS.of_body Tryz.func36 rfl rfl rfl ?_
 by_cases hl:xs.length=ys.length
 ·have hb:xs.length≤1000000000000:=by omega
  refine Q.r ?_;refine swp_cutB (σ:=Unit) (λ_=> []) (λ_=>roM M::L) (λ_=>xs=ys) ?_ ?_
  ·refine swp_loop (σ:=Nat) (λk=> [(0,.slice a xs.length c),(1,.slice a2 ys.length c2),(12,.int .i64 xs.length),(13,.int .i64 k)]) (λ_=>roM M::L)
    (λk=>k≤xs.length∧xs.take k=ys.take k) (λk=>xs.length - k) 0 zt (Ent.refl _) ⟨by omega,rfl⟩ ?_
   rintro k ⟨hk,ht⟩
   by_cases hlt:k<xs.length
   ·obtain ⟨x,hx⟩:=mem_get hlt
    obtain ⟨y,hy⟩:=mem_get (l:=ys) (k:=k) zo;obtain ⟨b,o,hia,cr1⟩:=SlM.cm1 (g:=B) h1 hx rfl;obtain ⟨b',o',hia2,cr2⟩:=SlM.cm1 (g:=B) h2 hy rfl;have hr:=cr1.rd (L:=roM M::L);have hr':=cr2.rd (L:=roM M::L);have hrA:=cr1.rd (L:=[roM M]);have hrA':=cr2.rd (L:=[roM M]);rw[hia,hia2]
    by_cases he:x=y
    ·subst he
     refine Q.r ?_;refine Q.dgo [true] [] [] [0,1,2,3,4,5,6,7,8] ?_;refine Q.rd ?_;refine Q.r ?_;exact ⟨k+1,zt,Ent.refl _,⟨by omega,by rw[take_snoc hx,take_snoc hy,ht]⟩,by omega⟩
    ·have hne:¬x.toNat=y.toNat:=λe=>he (UInt8.toNat_inj.1 e)
     refine Q.r ?_;refine Q.dgo [true] [] [] [0,1,2,3,4,5,6,7,8] ?_;refine Q.rd ?_;refine Q.r ?_;refine N.t rfl (Ent.refl _) ⟨?_,rfl⟩;rw[decide_eq_false];intro e;subst e;rw[hx] at hy;exact he (Option.some.inj hy)
   ·have hke:k=xs.length:=by omega
    subst hke;rw[List.take_length,hl,List.take_length] at ht;refine Q.r ?_;exact ⟨(),trivial,Ent.refl _,ht⟩
  ·rintro _ he
   refine Q.r ?_;exact N.t rfl (Ent.refl _) ⟨by rw[decide_eq_true he],rfl⟩
 ·refine Q.r ?_
  exact N.t rfl (Ent.refl _) ⟨by rw[decide_eq_false (λe=>hl (by rw[e]))],rfl⟩
theorem peekF_numB :∀(m:Nat) (i n:Nat) (rest:List UInt8),i≤9→m*2^(7*i)<18446744073709551616→(0<i→0<m)→peekF (numB m++rest) i n=(n+m*2^(7*i),i+(numB m).length,0):=by
 intro m
 induction m using Nat.strongRecOn with
 |ind m ih=>
  intro i n rest hi hm hp
  by_cases hl:m<128
  ·rw[numB_lo hl]
   show peekF (UInt8.ofNat m::rest) i n=_
   have e:(UInt8.ofNat m).toNat=m:=by rw[UInt8.toNat_ofNat'];omega
   have h9:¬(i=9∧1<m):=by
    rintro ⟨rfl,h1⟩;have e2:(2:Nat)^(7*9)=9223372036854775808:=by decide
    rw[e2] at hm;omega
   rw[peekF_cons,e,if_neg h9,if_pos hl,if_neg zo,Nat.mod_eq_of_lt hl];rfl
  ·rw[numB_hi hl]
   show peekF (UInt8.ofNat (m % 128+128)::(numB (m / 128)++rest)) i n=_
   have e:(UInt8.ofNat (m % 128+128)).toNat=m % 128+128:=by rw[UInt8.toNat_ofNat'];omega
   have hp2:2^(7*(i+1))=128*2^(7*i):=by rw[Nat.mul_add,Nat.pow_add,Nat.mul_comm]
   have hi9:i<9:=by
    by_cases h:i=9
    ·subst h
     have e2:(2:Nat)^(7*9)=9223372036854775808:=by decide
     rw[e2] at hm;omega
    ·omega
   have hdm:m=128*(m / 128)+m % 128:=(Nat.div_add_mod m 128).symm;have hmul:m / 128*2^(7*(i+1))+m % 128*2^(7*i)=m*2^(7*i):=by
    rw[hp2]
    conv=>rhs;rw[hdm,Nat.add_mul]
    rw[Nat.mul_left_comm,Nat.mul_assoc]
   rw[peekF_cons,e,if_neg zo,if_neg zo,ih (m / 128) zo (i+1) _ rest zo zo zo,List.length_cons];have e4:(m % 128+128) % 128=m % 128:=by omega
   rw[e4,Nat.add_assoc,Nat.add_comm (m % 128*2^(7*i)),hmul]
   congr 2
   omega
theorem takeF_num {m most:Nat}(rest:List UInt8)(hm:m<18446744073709551616)(h:m≤most):takeF (numB m++rest) most=(m,(numB m).length,0):=by
 unfold takeF;rw[peekF_numB m 0 0 rest zo (by simpa using hm) zo,if_neg (by simp),if_neg (by simpa using h)]
 simp
theorem numF_num {m most:Nat}(rest:List UInt8)(hm:m<18446744073709551616)(h:m≤most):numF most (numB m++rest) 0=(m,rest,0):=by
 unfold numF;rw[takeF_num rest hm h,if_neg (by simp),if_neg (by simp),List.drop_left]
theorem numF_numI {z:Int}{most:Nat}(rest:List UInt8)(h0:0≤z)(hm:z≤18446744073709551615)(h:z≤most):numF most (numI z++rest) 0=(z.toNat,rest,0):=by
 unfold numI;rw[if_neg zo];exact numF_num rest zo zo
structure RS where
 bs:List UInt8
 bad:Int
 good:Bool
def rdF (most:Nat)(s:RS):Nat×RS:=((numF most s.bs s.bad).1,⟨(numF most s.bs s.bad).2.1,(numF most s.bs s.bad).2.2,s.good⟩)
theorem rdF_len (most:Nat)(s:RS):(rdF most s).2.bs.length≤s.bs.length:=by
 unfold rdF numF
 split
 ·exact Nat.le_refl _
 ·split
  ·exact Nat.le_refl _
  ·simp only[List.length_drop];omega
theorem peekF_lt :∀(bs:List UInt8) (i n:Nat),(peekF bs i n).2.2=0→n<2^(7*i)→i≤9→(peekF bs i n).1<18446744073709551616
 | [],i,n,h,_,_=>by simp[peekF] at h
 |b::bs,i,n,h,hn,hi=>by
  rw[peekF_cons] at h ⊢;have hb:b.toNat % 128<128:=Nat.mod_lt _ zd
  split at h
  ·simp at h
  ·rename_i h9
   rw[if_neg h9]
   split at h
   ·rename_i h1
    rw[if_pos h1]
    split at h
    ·simp at h
    ·rename_i h0
     rw[if_neg h0];exact (acc_or hn hi hb λe=>by omega).1
   ·rename_i h1
    rw[if_neg h1];exact peekF_lt bs (i+1) _ h (acc_lt hn hb) (by have:=b.toNat_lt;omega)
theorem rdF_le (most:Nat)(s:RS):(rdF most s).1≤most∧(rdF most s).1<18446744073709551616:=by
 unfold rdF numF
 split
 ·simp
 ·split
  ·simp
  ·rename_i h
   have h2:(takeF s.bs most).2.2=0:=by simpa using h
   dsimp only;unfold takeF at h2 ⊢
   by_cases he:(peekF s.bs 0 0).2.2≠0
   ·rw[if_pos he];simp
   ·rw[if_neg he] at h2 ⊢
    by_cases hm:most<(peekF s.bs 0 0).1
    ·rw[if_pos hm];simp
    ·rw[if_neg hm]
     exact ⟨by dsimp only;omega,peekF_lt s.bs 0 0 (by simpa using he) (by simp) zo⟩
end Go.Proofs.YtjlgabojhnnbaaaGreatDoor
namespace Go.Proofs.YtjlgabojhnnbaaaGreatDoor
open Go Go.SX
end Go.Proofs.YtjlgabojhnnbaaaGreatDoor
namespace Go.Proofs.YtjlgabojhnnbaaaGreatDoor
open Go Go.SX
attribute [local irreducible] swp opsS thenS blockS retS CallsS St Ent YieldS anyS drawS
open Classical in
open Classical in
theorem getD_of {ps:List Int}{k:Nat}{v:Int}(h:ps[k]? =some v):ps.getD k 0=v:=by rw[List.getD_eq_getElem?_getD,h];rfl
structure RK (M:OM)(a:OA)(c:Nat)(s:RS):Prop where
 sl:SlM M a s.bs.length 1 (s.bs.map B)
 c:s.bs.length≤c
 b:s.bs.length≤10000000
theorem RK.mono {M M':OM}{a:OA}{c:Nat}{s:RS}(h:RK M a c s)(hl:leM M M'):RK M' a c s:=⟨h.sl.mono hl,h.c,h.b⟩
abbrev rdS (r:Nat)(a:OA)(c:Nat)(s:RS):HP:=rdP r a s.bs.length c s.bad
theorem rdN_spec (r:Nat)(a:OA)(c:Nat)(s:RS)(most:Nat)(M:OM)(L:HL)[hM:HasM M L](h:RK M a c s):
  CallsS Tryz.prog 25 [.pointer (some ⟨r,0,none⟩),.int .u64 most] (rdS r a c s::L)
   (λv L'=>v=.int .u64 (rdF most s).1∧∃a' c',RK M a' c' (rdF most s).2∧L'=rdS r a' c' (rdF most s).2::L):=
 CallsS.mono (rNum_spec r a c s.bs s.bad most M L h.sl h.c (by have:=h.b;omega)) λv L' ⟨h1,a',c',h2,h3,h4⟩=>⟨h1,a',c',⟨h2,h3,Nat.le_trans (rdF_len most s) h.b⟩,h4⟩
end Go.Proofs.YtjlgabojhnnbaaaGreatDoor
namespace Go.Proofs.YtjlgabojhnnbaaaGreatDoor
open Go Go.SX
theorem rdF_ok {z:Int}{most:Nat}{g:Bool}{rest:List UInt8}(h0:0≤z)(h1:z≤most)(hm:z≤18446744073709551615):rdF most ⟨numI z++rest,0,g⟩=(z.toNat,⟨rest,0,g⟩):=by
 unfold rdF;dsimp only;rw[numF_numI rest h0 hm h1]
theorem numI_ne (z:Int):(numI z).length≠0:=by
 unfold numI
 split
 ·simp
 ·rw[numB]
  split<;>simp
structure TU (sh last:Nat)(t:TR):Prop where
 x0:0≤t.txn
 x1:t.txn≤18446744073709551615
 b0:0≤t.batch
 b1:t.batch≤18446744073709551615
 s0:0<t.stamp
 s1:t.stamp≤last
 r:Rise t.parts
 pl:t.parts.length≤4
 pn:t.parts≠[]
 pb:∀q∈t.parts,1≤q∧q≤sh
abbrev TR.bare (t:TR):TR:=⟨t.txn,t.batch,t.stamp,0,0,t.parts,[],[],[]⟩
structure UO (j:JG):Prop where
 pb:PB j
 s1:1≤j.shards
 s2:j.shards≤4
 tl:(comL j).length≤8
 dl:j.done.length≤1048576
 ds:∀d∈j.done,0≤d.1∧0<d.2∧d.2≤j.last
 ts:∀t∈comL j,TU j.shards.toNat j.last.toNat t
theorem u8of (b:UInt8):UInt8.ofNat b.toNat=b:=by
 apply UInt8.toNat_inj.1;rw[UInt8.toNat_ofNat'];have:=b.toNat_lt;omega
theorem peekF_inv :∀(bs:List UInt8) (i n:Nat),(peekF bs i n).2.2=0→∃m rest,bs=numB m++rest∧peekF bs i n=(n+m*2^(7*i),i+(numB m).length,0)∧(0<i→0<m)
 | [],i,n,h=>by simp[peekF] at h
 |b::bs,i,n,h=>by
  rw[peekF_cons] at h ⊢;have hb:=b.toNat_lt
  by_cases h9:i=9∧1<b.toNat
  ·rw[if_pos h9] at h;simp at h
  ·rw[if_neg h9] at h ⊢
   by_cases hl:b.toNat<128
   ·rw[if_pos hl] at h ⊢
    by_cases h0:b.toNat=0∧0<i
    ·rw[if_pos h0] at h;simp at h
    ·rw[if_neg h0]
     refine ⟨b.toNat,bs,?_,?_,λhi=>by omega⟩
     ·rw[numB_lo hl,u8of];rfl
     ·rw[numB_lo hl,Nat.mod_eq_of_lt hl];rfl
   ·rw[if_neg hl] at h ⊢
    obtain ⟨m,rest,e1,e2,e3⟩:=peekF_inv bs (i+1) _ h;have hm:=e3 zo;have hd:(m*128+b.toNat % 128) / 128=m:=by omega
    have hr:(m*128+b.toNat % 128) % 128+128=b.toNat:=by omega
    have hB:numB (m*128+b.toNat % 128)=b::numB m:=by rw[numB_hi zo,hd,hr,u8of]
    have hp2:2^(7*(i+1))=128*2^(7*i):=by rw[Nat.mul_add,Nat.pow_add,Nat.mul_comm]
    refine ⟨m*128+b.toNat % 128,rest,by rw[hB,e1];rfl,?_,λ_=>by omega⟩;rw[e2,hB,hp2,Nat.add_mul,List.length_cons]
    congr 1
    ·rw[Nat.mul_assoc];omega
    ·congr 1;omega
theorem numI_nat (m:Nat):numI (m:Int)=numB m:=by
 unfold numI;rw[if_neg zo,Int.toNat_natCast]
theorem rdF_inv {m:Nat}{s:RS}(h:(rdF m s).2.bad=0):s.bad=0∧s.bs=numI (rdF m s).1++(rdF m s).2.bs:=by
 unfold rdF numF at h ⊢
 by_cases h1:s.bad≠0
 ·rw[if_pos h1] at h
  exact absurd h h1
 ·rw[if_neg h1] at h ⊢
  by_cases h2:(takeF s.bs m).2.2≠0
  ·rw[if_pos h2] at h
   exact absurd h h2
  ·rw[if_neg h2]
   refine ⟨Classical.not_not.1 h1,?_⟩;have h5:(takeF s.bs m).2.2=0:=Classical.not_not.1 h2;unfold takeF at h5 ⊢
   by_cases h6:(peekF s.bs 0 0).2.2≠0
   ·rw[if_pos h6] at h5
    exact absurd h5 h6
   ·rw[if_neg h6] at h5 ⊢
    by_cases h7:m<(peekF s.bs 0 0).1
    ·rw[if_pos h7] at h5
     simp at h5
    ·rw[if_neg h7]
     obtain ⟨k,rest,e1,e2,_⟩:=peekF_inv s.bs 0 0 (Classical.not_not.1 h6);rw[e2];dsimp only;have e3:0+k*2^(7*0)=k:=by simp
     rw[e3,Nat.zero_add,numI_nat]
     conv=>rhs;rhs;rw[e1]
     rw[List.drop_left];exact e1
def lastLt (l:List Int)(x:Int):Bool:=match l.getLast? with
 |none=>true
 |some y=>decide (y<x)
theorem lastLt_snoc {l:List Int}{y x:Int}:lastLt (l++[y]) x=decide (y<x):=by
 unfold lastLt;rw[List.getLast?_concat]
theorem rise_snoc {l:List Int}{x:Int}(h:Rise l)(hx:lastLt l x=true):Rise (l++[x]):=by
 rcases List.eq_nil_or_concat l with rfl|⟨l',y,rfl⟩
 ·exact List.pairwise_singleton _ _
 ·rw[List.concat_eq_append,lastLt_snoc] at hx
  rw[List.concat_eq_append] at h ⊢;have hy:=of_decide_eq_true hx;have h1:=List.pairwise_append.1 h;refine List.pairwise_append.2 ⟨h,List.pairwise_singleton _ _,λa ha b hb=> ?_⟩;rw[List.mem_singleton.1 hb]
  rcases List.mem_append.1 ha with ha|ha
  ·have:=h1.2.2 a ha y (List.mem_singleton.2 rfl)
   omega
  ·rw[List.mem_singleton.1 ha];exact hy
theorem lastLt_rise {l r:List Int}{x:Int}(h:Rise (l++x::r)):lastLt l x=true:=by
 rcases List.eq_nil_or_concat l with rfl|⟨l',y,rfl⟩
 ·rfl
 ·rw[List.concat_eq_append] at h ⊢
  rw[lastLt_snoc];exact decide_eq_true ((List.pairwise_append.1 h).2.2 y (by simp) x List.mem_cons_self)
theorem sort_id {l:List Int}(h:Rise l):sortL l=l:=sorted_uniq (sortL_perm _) (sortL_sorted _) (h.imp λh=>Int.le_of_lt h)
structure Codec {α:Type}(enc:α→List UInt8)(dec:RS→α×RS)(ok:α→Prop):Prop where
 fwd:∀x rest g,ok x→dec ⟨enc x++rest,0,g⟩=(x,⟨rest,0,g⟩)
 inv:∀s,(dec s).2.bad=0→s.bad=0∧s.bs=enc (dec s).1++(dec s).2.bs∧ok (dec s).1
theorem Codec.mono {α:Type}{e:α→List UInt8}{d:RS→α×RS}{ok:α→Prop}(h:Codec e d ok){s:RS}(hb:(d s).2.bad=0):s.bad=0:=(h.inv s hb).1
def pairD {α β:Type}(d1:RS→α×RS)(d2:RS→β×RS)(s:RS):(α×β)×RS:=(((d1 s).1,(d2 (d1 s).2).1),(d2 (d1 s).2).2)
theorem Codec.pair {α β:Type}{e1:α→List UInt8}{d1:RS→α×RS}{ok1:α→Prop}{e2:β→List UInt8}{d2:RS→β×RS}{ok2:β→Prop}(h1:Codec e1 d1 ok1)(h2:Codec e2 d2 ok2):
  Codec (λp:α×β=>e1 p.1++e2 p.2) (pairD d1 d2) (λp=>ok1 p.1∧ok2 p.2):=by
 refine ⟨λx rest g hx=> ?_,λs hb=> ?_⟩
 ·unfold pairD
  rw[List.append_assoc,h1.fwd _ _ _ hx.1,h2.fwd _ _ _ hx.2]
 ·unfold pairD at hb ⊢
  dsimp only at hb ⊢;obtain ⟨b1,b2,b3⟩:=h2.inv _ hb;obtain ⟨a1,a2,a3⟩:=h1.inv _ b1;exact ⟨a1,by rw[List.append_assoc,←b2];exact a2,a3,b3⟩
def numD (most:Nat)(s:RS):Int×RS:=(((rdF most s).1:Int),(rdF most s).2)
theorem num_codec {most:Nat}(h:most≤18446744073709551615):Codec numI (numD most) (λz=>0≤z∧z≤most):=by
 refine ⟨λx rest g hx=> ?_,λs hb=> ?_⟩
 ·unfold numD
  rw[rdF_ok hx.1 hx.2 zo,Int.toNat_of_nonneg hx.1]
 ·unfold numD at hb ⊢
  obtain ⟨a,b⟩:=rdF_inv hb;have:=(rdF_le most s).1;exact ⟨a,b,Int.natCast_nonneg _,by dsimp only;omega⟩
def listF {α:Type}(d:RS→α×RS):Nat→RS×List α→RS×List α
 |0,s=>s
 |k+1,s=>listF d k ((d s.1).2,s.2++[(d s.1).1])
theorem listF_succ {α:Type}(d:RS→α×RS)(k:Nat)(s:RS×List α):listF d (k+1) s=listF d k ((d s.1).2,s.2++[(d s.1).1]):=rfl
theorem listF_fwd {α:Type}{e:α→List UInt8}{d:RS→α×RS}{ok:α→Prop}(h:Codec e d ok){g:Bool}{rest:List UInt8}:∀(xs acc:List α),(∀x∈xs,ok x)→listF d xs.length (⟨xs.flatMap e++rest,0,g⟩,acc)=(⟨rest,0,g⟩,acc++xs)
 | [],acc,_=>by simp[listF]
 |x::xs,acc,hx=>by
  rw[List.length_cons,listF_succ,List.flatMap_cons,List.append_assoc];dsimp only;rw[h.fwd x _ g (hx x List.mem_cons_self)];dsimp only;rw[listF_fwd h xs _ λy hy=>hx y (List.mem_cons_of_mem _ hy),List.append_assoc];rfl
theorem listF_inv {α:Type}{e:α→List UInt8}{d:RS→α×RS}{ok:α→Prop}(h:Codec e d ok):∀(k:Nat) (s:RS×List α),(listF d k s).1.bad=0→s.1.bad=0∧∃xs,(listF d k s).2=s.2++xs∧xs.length=k∧s.1.bs=xs.flatMap e++(listF d k s).1.bs∧∀x∈xs,ok x
 |0,s,hb=>⟨hb,[],by simp[listF],rfl,by simp[listF],λ_ h=>by cases h⟩
 |k+1,s,hb=>by
  rw[listF_succ] at hb ⊢;obtain ⟨b1,xs,e1,e2,e3,e4⟩:=listF_inv h k _ hb;dsimp only at b1 e1 e3;obtain ⟨a1,a2,a3⟩:=h.inv _ b1;refine ⟨a1,_::xs,by rw[e1,List.append_assoc];rfl,by rw[List.length_cons,e2],?_,λx hx=> ?_⟩
  ·rw[List.flatMap_cons,List.append_assoc,←e3]
   exact a2
  ·rcases List.mem_cons.1 hx with rfl|hx
   ·exact a3
   ·exact e4 x hx
def encL {α:Type}(e:α→List UInt8)(xs:List α):List UInt8:=numI (xs.length:Int)++xs.flatMap e
def decL {α:Type}(most:Nat)(d:RS→α×RS)(s:RS):List α×RS:=let r:=listF d (rdF most s).1 ((rdF most s).2,[]);(r.2,r.1)
theorem list_codec {α:Type}{e:α→List UInt8}{d:RS→α×RS}{ok:α→Prop}(h:Codec e d ok){most:Nat}(hm:most≤18446744073709551615):Codec (encL e) (decL most d) (λxs=>xs.length≤most∧∀x∈xs,ok x):=by
 refine ⟨λx rest g hx=> ?_,λs hb=> ?_⟩
 ·unfold decL encL
  rw[List.append_assoc,rdF_ok (Int.natCast_nonneg _) zo zo];dsimp only;rw[Int.toNat_natCast,listF_fwd h _ _ hx.2];rfl
 ·unfold decL at hb ⊢
  dsimp only at hb ⊢;obtain ⟨b1,xs,e1,e2,e3,e4⟩:=listF_inv h _ _ hb;dsimp only at b1 e1 e3;obtain ⟨a1,a2⟩:=rdF_inv b1;have:=(rdF_le most s).1;rw[List.nil_append] at e1;rw[e1];refine ⟨a1,?_,by omega,e4⟩;unfold encL;rw[e2,List.append_assoc,←e3];exact a2
def brkF {α:Type}(d:RS→α×RS):Nat→RS×List α→RS×List α
 |0,s=>s
 |k+1,s=>if (d s.1).2.bs.length=0 then ((d s.1).2,s.2++[(d s.1).1]) else brkF d k ((d s.1).2,s.2++[(d s.1).1])
theorem brkF_succ {α:Type}(d:RS→α×RS)(k:Nat)(s:RS×List α):brkF d (k+1) s=if (d s.1).2.bs.length=0 then ((d s.1).2,s.2++[(d s.1).1]) else brkF d k ((d s.1).2,s.2++[(d s.1).1]):=rfl
theorem brkF_eq {α:Type}{d d':RS→α×RS}(hm:∀s,(d s).2.bad=0→s.bad=0)(hd:∀s,(d s).2.bad=0→(d s).2.bs.length≠0→d s=d' s):∀(k:Nat) (s:RS×List α),(brkF d k s).1.bad=0→(brkF d k s).1.bs.length≠0→brkF d k s=listF d' k s∧s.1.bad=0
 |0,s,hb,h0=>⟨rfl,hb⟩
 |k+1,s,hb,h0=>by
  rw[brkF_succ] at hb h0 ⊢
  by_cases hc:(d s.1).2.bs.length=0
  ·rw[if_pos hc] at h0
   exact absurd hc h0
  ·rw[if_neg hc] at hb h0 ⊢
   obtain ⟨h1,h2⟩:=brkF_eq hm hd k _ hb h0;dsimp only at h2;rw[h1,listF_succ,hd _ h2 hc];exact ⟨rfl,hm _ h2⟩
theorem brkF_fwd {α:Type}{e:α→List UInt8}{d:RS→α×RS}{ok:α→Prop}(hd:∀x rest g,ok x→rest.length≠0→d ⟨e x++rest,0,g⟩=(x,⟨rest,0,g⟩)){g:Bool}{rest:List UInt8}(hr:rest.length≠0):∀(xs acc:List α),(∀x∈xs,ok x)→brkF d xs.length (⟨xs.flatMap e++rest,0,g⟩,acc)=(⟨rest,0,g⟩,acc++xs)
 | [],acc,_=>by simp[brkF]
 |x::xs,acc,hx=>by
  have hne:(xs.flatMap e++rest).length≠0:=by rw[List.length_append];omega
  rw[List.length_cons,brkF_succ,List.flatMap_cons,List.append_assoc];dsimp only;rw[hd x _ g (hx x List.mem_cons_self) hne];dsimp only;rw[if_neg hne,brkF_fwd hd hr xs _ λy hy=>hx y (List.mem_cons_of_mem _ hy),List.append_assoc];rfl
theorem brkF_end {α:Type}{e:α→List UInt8}{d:RS→α×RS}{ok:α→Prop}(hd:∀x rest g,ok x→d ⟨e x++rest,0,g⟩=(x,⟨rest,0,g⟩))(hne:∀x,(e x).length≠0){g:Bool}:∀(xs acc:List α),(∀x∈xs,ok x)→brkF d xs.length (⟨xs.flatMap e,0,g⟩,acc)=(⟨[],0,g⟩,acc++xs)
 | [],acc,_=>by simp[brkF]
 |x::xs,acc,hx=>by
  rw[List.length_cons,brkF_succ,List.flatMap_cons];dsimp only;rw[hd x _ g (hx x List.mem_cons_self)];dsimp only
  cases xs with
  |nil=>rw[if_pos (by simp)];simp
  |cons y ys=>
   have hn:((y::ys).flatMap e).length≠0:=by rw[List.flatMap_cons,List.length_append];have:=hne y;omega
   rw[if_neg hn,brkF_end hd hne (y::ys) _ λz hz=>hx z (List.mem_cons_of_mem _ hz),List.append_assoc];rfl
theorem brkF_inv {α:Type}{e:α→List UInt8}{d:RS→α×RS}{ok:α→Prop}(h:Codec e d ok):∀(k:Nat) (s:RS×List α),(brkF d k s).1.bad=0→s.1.bad=0∧∃xs,(brkF d k s).2=s.2++xs∧xs.length≤k∧s.1.bs=xs.flatMap e++(brkF d k s).1.bs∧∀x∈xs,ok x
 |0,s,hb=>⟨hb,[],by simp[brkF],Nat.le_refl _,by simp[brkF],λ_ h=>by cases h⟩
 |k+1,s,hb=>by
  rw[brkF_succ] at hb ⊢
  by_cases hc:(d s.1).2.bs.length=0
  ·rw[if_pos hc] at hb ⊢
   dsimp only at hb ⊢;obtain ⟨a1,a2,a3⟩:=h.inv _ hb;exact ⟨a1,[(d s.1).1],rfl,by simp,by rw[List.flatMap_cons,List.flatMap_nil,List.append_nil];exact a2,λx hx=>by rw[List.mem_singleton.1 hx];exact a3⟩
  ·rw[if_neg hc] at hb ⊢
   obtain ⟨b1,xs,e1,e2,e3,e4⟩:=brkF_inv h k _ hb;dsimp only at b1 e1 e3;obtain ⟨a1,a2,a3⟩:=h.inv _ b1;refine ⟨a1,_::xs,by rw[e1,List.append_assoc];rfl,by rw[List.length_cons];omega,?_,λx hx=> ?_⟩
   ·rw[List.flatMap_cons,List.append_assoc,←e3]
    exact a2
   ·rcases List.mem_cons.1 hx with rfl|hx
    ·exact a3
    ·exact e4 x hx
theorem flat_ge {α:Type}{e:α→List UInt8}(hne:∀x,(e x).length≠0):∀xs:List α,xs.length≤(xs.flatMap e).length
 | []=>by simp
 |x::xs=>by
  have h1:=hne x;have h2:=flat_ge hne xs;rw[List.flatMap_cons,List.length_append,List.length_cons];omega
def zzD (u:Nat):Int:=if u % 2=1 then -((u / 2:Nat):Int) - 1 else ((u / 2:Nat):Int)
def vgo :Nat→List UInt8→List Int→List Int×List UInt8×Int
 |0,bs,acc=>(acc,bs,0)
 |k+1,bs,acc=>if (takeF bs 18446744073709551615).2.2≠0 then ([],[],(takeF bs 18446744073709551615).2.2) else if 4294967295<(takeF bs 18446744073709551615).1 then ([],[],4)
  else vgo k (bs.drop (takeF bs 18446744073709551615).2.1) (acc++[zzD (takeF bs 18446744073709551615).1])
theorem vgo_succ (k:Nat)(bs:List UInt8)(acc:List Int):vgo (k+1) bs acc=if (takeF bs 18446744073709551615).2.2≠0 then ([],[],(takeF bs 18446744073709551615).2.2) else if 4294967295<(takeF bs 18446744073709551615).1 then ([],[],4)
  else vgo k (bs.drop (takeF bs 18446744073709551615).2.1) (acc++[zzD (takeF bs 18446744073709551615).1]):=rfl
def vecD (most:Nat)(s:RS):List Int×RS:=
 if s.bad≠0 then ([],s) else if (takeF s.bs most).2.2≠0 then ([],{s with bad:=(takeF s.bs most).2.2}) else
  let r:=vgo (takeF s.bs most).1 (s.bs.drop (takeF s.bs most).2.1) []
  if r.2.2≠0 then ([],{s with bad:=r.2.2}) else (r.1,⟨r.2.1,0,s.good⟩)
theorem u32w (n:Int):IntKind.u32.wrap n=n % 4294967296:=by simp[IntKind.wrap,IntKind.bits,IntKind.signed]
theorem i32w_mod (n:Int):IntKind.i32.wrap n % 4294967296=n % 4294967296:=by
 have:IntKind.i32.wrap n=if 2147483648≤n % 4294967296 then n % 4294967296 - 4294967296 else n % 4294967296:=by simp[IntKind.wrap,IntKind.bits,IntKind.signed]
 rw[this]
 split<;>omega
theorem ofInt32 {a:Int}(ha:0≤a∧a<4294967296):(BitVec.ofInt 32 a).toNat=a.toNat:=by
 rw[BitVec.toNat_ofInt];have:((2^32:Nat):Int)=4294967296:=by decide
 rw[this];omega
theorem xor32 {a:Int}(ha:0≤a∧a<4294967296):((BitVec.ofInt IntKind.u32.bits a)^^^(BitVec.ofInt IntKind.u32.bits 0)).toNat=a.toNat∧((BitVec.ofInt IntKind.u32.bits a)^^^(BitVec.ofInt IntKind.u32.bits 4294967295)).toNat=4294967295 - a.toNat:=by
 have e1:BitVec.ofInt 32 0=0#32:=by decide
 have e2:BitVec.ofInt 32 4294967295=BitVec.allOnes 32:=by decide
 constructor
 ·show ((BitVec.ofInt 32 a)^^^(BitVec.ofInt 32 0)).toNat=_
  rw[e1,BitVec.xor_zero,ofInt32 ha]
 ·show ((BitVec.ofInt 32 a)^^^(BitVec.ofInt 32 4294967295)).toNat=_
  rw[e2,BitVec.xor_allOnes,BitVec.toNat_not,ofInt32 ha]
theorem zzI_eq {n:Int}(h1: -2147483648≤n)(h2:n≤2147483647):zzI n=if n<0 then -2*n - 1 else 2*n:=by
 unfold zzI;have e0:IntKind.u32.wrap (IntKind.i32.wrap (n*2^1))=(2*n) % 4294967296:=by
  rw[u32w,i32w_mod]
  congr 1
  omega
 have hx:0≤(2*n) % 4294967296∧(2*n) % 4294967296<4294967296:=by omega
 rw[e0]
 by_cases hn:n<0
 ·rw[if_pos hn]
  have e1:n.fdiv (2^31)= -1:=by
   rw[Int.fdiv_eq_ediv_of_nonneg _ zd];omega
  rw[e1,show IntKind.u32.wrap (-1)=4294967295 by rw[u32w];decide,(xor32 hx).2,wrap_u64 (by rw[u32w];omega) (by rw[u32w];omega),u32w];omega
 ·rw[if_neg hn]
  have e1:n.fdiv (2^31)=0:=by
   rw[Int.fdiv_eq_ediv_of_nonneg _ zd];omega
  rw[e1,show IntKind.u32.wrap 0=0 by rw[u32w];decide,(xor32 hx).1,wrap_u64 (by rw[u32w];omega) (by rw[u32w];omega),u32w];omega
abbrev i32ok (n:Int):Prop:= -2147483648≤n∧n≤2147483647
theorem zz_fwd {n:Int}(h:i32ok n):0≤zzI n∧zzI n≤4294967295∧zzD (zzI n).toNat=n:=by
 obtain ⟨h1,h2⟩:=h;rw[zzI_eq h1 h2];unfold zzD
 by_cases hn:n<0
 ·rw[if_pos hn,if_pos zo]
  omega
 ·rw[if_neg hn,if_neg zo]
  omega
theorem zz_inv {u:Nat}(h:u≤4294967295):i32ok (zzD u)∧zzI (zzD u)=u:=by
 have hr:i32ok (zzD u):=by
  unfold zzD i32ok
  split<;>omega
 refine ⟨hr,?_⟩;rw[zzI_eq hr.1 hr.2];unfold zzD
 split<;>split<;>omega
theorem takeF_numI {z:Int}{most:Nat}(rest:List UInt8)(h0:0≤z)(hm:z≤18446744073709551615)(h:z≤most):takeF (numI z++rest) most=(z.toNat,(numI z).length,0):=by
 unfold numI;rw[if_neg zo];exact takeF_num rest zo zo
theorem takeF_inv {bs:List UInt8}{m:Nat}(h:(takeF bs m).2.2=0):bs=numI ((takeF bs m).1:Int)++bs.drop (takeF bs m).2.1∧(takeF bs m).1≤m:=by
 have e:rdF m ⟨bs,0,true⟩=((takeF bs m).1,⟨bs.drop (takeF bs m).2.1,0,true⟩):=by
  unfold rdF numF;dsimp only;rw[if_neg (by simp),if_neg (by simp[h])]
 have hi:=rdF_inv (m:=m) (s:=⟨bs,0,true⟩) (by rw[e]);have hl:=(rdF_le m ⟨bs,0,true⟩).1;rw[e] at hi hl;exact ⟨hi.2,hl⟩
theorem vgo_fwd {rest:List UInt8}:∀(v acc:List Int),(∀n∈v,i32ok n)→vgo v.length (v.flatMap (λn=>numI (zzI n))++rest) acc=(acc++v,rest,0)
 | [],acc,_=>by simp[vgo]
 |n::v,acc,h=>by
  obtain ⟨a,b,c⟩:=zz_fwd (h n List.mem_cons_self);rw[List.length_cons,vgo_succ,List.flatMap_cons,List.append_assoc,takeF_numI _ a zo zo,if_neg (by simp),if_neg (by dsimp only;omega)];dsimp only;rw[List.drop_left,c,vgo_fwd v _ λx hx=>h x (List.mem_cons_of_mem _ hx),List.append_assoc];rfl
theorem vgo_inv :∀(k:Nat) (bs:List UInt8) (acc:List Int),(vgo k bs acc).2.2=0→∃v,(vgo k bs acc).1=acc++v∧v.length=k∧bs=v.flatMap (λn=>numI (zzI n))++(vgo k bs acc).2.1∧∀n∈v,i32ok n
 |0,bs,acc,_=>⟨[],by simp[vgo],rfl,by simp[vgo],λ_ h=>by cases h⟩
 |k+1,bs,acc,h=>by
  rw[vgo_succ] at h ⊢
  by_cases h1:(takeF bs 18446744073709551615).2.2≠0
  ·rw[if_pos h1] at h
   exact absurd h h1
  ·rw[if_neg h1] at h ⊢
   by_cases h2:4294967295<(takeF bs 18446744073709551615).1
   ·rw[if_pos h2] at h
    simp at h
   ·rw[if_neg h2] at h ⊢
    obtain ⟨v,e1,e2,e3,e4⟩:=vgo_inv k _ _ h;obtain ⟨f1,f2⟩:=takeF_inv (Classical.not_not.1 h1);obtain ⟨z1,z2⟩:=zz_inv (u:=(takeF bs 18446744073709551615).1) zo;refine ⟨zzD (takeF bs 18446744073709551615).1::v,by rw[e1,List.append_assoc];rfl,by rw[List.length_cons,e2],?_,λx hx=> ?_⟩
    ·rw[List.flatMap_cons,z2,List.append_assoc,←e3]
     exact f1
    ·rcases List.mem_cons.1 hx with rfl|hx
     ·exact z1
     ·exact e4 x hx
theorem vec_codec {most:Nat}(hm:most≤18446744073709551615):Codec vecI (vecD most) (λv=>v.length≤most∧∀n∈v,i32ok n):=by
 refine ⟨λv rest g h=> ?_,λs hb=> ?_⟩
 ·unfold vecD vecI
  dsimp only;rw[if_neg (by simp),List.append_assoc,takeF_numI _ (Int.natCast_nonneg _) zo zo,if_neg (by simp)];dsimp only;rw[List.drop_left,Int.toNat_natCast,vgo_fwd v [] h.2,if_neg (by simp)];rfl
 ·unfold vecD at hb ⊢
  by_cases h0:s.bad≠0
  ·rw[if_pos h0] at hb
   exact absurd hb h0
  ·rw[if_neg h0] at hb ⊢
   by_cases h1:(takeF s.bs most).2.2≠0
   ·rw[if_pos h1] at hb
    exact absurd hb h1
   ·rw[if_neg h1] at hb ⊢
    dsimp only at hb ⊢
    by_cases h2:(vgo (takeF s.bs most).1 (s.bs.drop (takeF s.bs most).2.1) []).2.2≠0
    ·rw[if_pos h2] at hb
     exact absurd hb h2
    ·rw[if_neg h2]
     obtain ⟨v,e1,e2,e3,e4⟩:=vgo_inv _ _ _ (Classical.not_not.1 h2);obtain ⟨f1,f2⟩:=takeF_inv (Classical.not_not.1 h1);rw[List.nil_append] at e1;dsimp only;rw[e1];refine ⟨Classical.not_not.1 h0,?_,by omega,e4⟩;unfold vecI;rw[e2,List.append_assoc,←e3];exact f1
abbrev verE (v:Int×List Int):List UInt8:=numI v.1++vecI v.2
abbrev verD :RS→(Int×List Int)×RS:=pairD (numD 1099511627776) (vecD 8)
theorem ver_codec :Codec verE verD (λv=>(0≤v.1∧v.1≤(1099511627776:Nat))∧v.2.length≤8∧∀n∈v.2,i32ok n):=(num_codec zd).pair (vec_codec zd)
theorem verE_ne (v:Int×List Int):(verE v).length≠0:=by rw[List.length_append];have:=numI_ne v.1;omega
theorem lkL_delS {κ α:Type}[DecidableEq κ](m:List (κ×α))(x:κ):lkL (delL m x) x=none:=lkL_none λu hu=>by
 have:=(List.mem_filter.1 hu).2
 simpa using this
theorem ch_sw1 {m:Int}{u:List (Int×VL)×GL}(h:keysOK u.1)(x id:Int):chV (sw1 m u x).1 id=if id=x then (chV u.1 id).drop (cutN (chV u.1 id) m) else chV u.1 id:=by
 by_cases he:id=x
 ·subst he
  rw[if_pos rfl];unfold sw1;dsimp only
  by_cases h0:((chV u.1 id).drop (cutN (chV u.1 id) m)).length=0
  ·rw[if_pos h0,List.length_eq_zero_iff.1 h0]
   show (lkL (delL u.1 id) id).getD []=[]
   rw[lkL_delS];rfl
  ·rw[if_neg h0]
   generalize (chV u.1 id).drop (cutN (chV u.1 id) m)=w;unfold chV;rw[lkL_put h,if_pos rfl];rfl
 ·rw[if_neg he]
  unfold chV;rw[sw1_lk h he]
theorem ch_swF {m:Int}{id:Int}:∀{ks:List Int} {u:List (Int×VL)×GL},keysOK u.1→ks.Nodup→chV (ks.foldl (sw1 m) u).1 id=if id∈ks then (chV u.1 id).drop (cutN (chV u.1 id) m) else chV u.1 id
 | [],_,_,_=>by simp
 |k::ks,u,h,hn=>by
  simp only[List.nodup_cons] at hn
  show chV (ks.foldl (sw1 m) (sw1 m u k)).1 id=_
  rw[ch_swF (ks:=ks) (sw1_ok h k) hn.2,ch_sw1 h]
  by_cases he:id=k
  ·subst he
   simp[hn.1]
  ·simp[he]
theorem ch_sweep {m:Int}{ch:List (Int×VL)}(h:keysOK ch)(id:Int):chV (swF m (swIds ch) ch).1 id=(chV ch id).drop (cutN (chV ch id) m):=by
 unfold swF;rw[ch_swF (u:=(ch,[])) h (swIds_nodup h)]
 by_cases hi:id∈swIds ch
 ·rw[if_pos hi]
 ·rw[if_neg hi]
  have:chV ch id=[]:=by
   unfold chV
   cases hz:lkL ch id with
   |none=>rfl
   |some vs=>
    exfalso
    apply hi;unfold swIds;exact (sortL_perm _).mem_iff.2 (List.mem_map_of_mem (f:=(·.1)) (lk_memL hz))
  show chV ch id=_
  rw[this]
  simp
structure Stay (st:VS)(s id:Int)(w:List Int):Prop where
 b:∀i∈st.its,i.2.1<s→holdsV i.2.2 id=false
 a:st.mark≤s→atV (chV st.ch id) s=w
structure okCh (vs:VL):Prop where
 s:sortedV vs
 v:∀v∈vs,0<v.1∧v.1≤1099511627776∧(0<v.2.length→rightV v.2=true)
def putsE :VL→VL→Int
 |_,[]=>0
 |p,v::q=>if putE p v.1 v.2≠0 then putE p v.1 v.2 else putsE (p++[v]) q
theorem okCh.last {p:VL}(h:okCh p):0≤lastS p:=by
 unfold lastS
 cases hg:p.getLast? with
 |none=>simp
 |some l=>
  have:=(h.v l (List.mem_of_getLast? hg)).1
  simp;omega
theorem putE_0 {p:VL}{s:Int}{x:List Int}(h:putE p s x=0):s≠0∧s≤1099511627776∧(0<x.length→rightV x=true)∧lastS p<s:=by
 unfold putE at h
 by_cases h1:s=0∨1099511627776<s
 ·rw[if_pos h1] at h;cases h
 rw[if_neg h1] at h
 by_cases h2:0<x.length∧rightV x=false
 ·rw[if_pos h2] at h;cases h
 rw[if_neg h2] at h
 by_cases h3:s≤lastS p
 ·rw[if_pos h3] at h;cases h
 refine ⟨λe=>h1 (.inl e),by omega,λhx=> ?_,by omega⟩
 cases hr:rightV x with
 |true=>rfl
 |false=>exact absurd ⟨hx,hr⟩ h2
theorem sorted_snoc {p:VL}{v:Int×List Int}(h:sortedV p)(hl:lastS p<v.1):sortedV (p++[v]):=by
 have h2:=sorted_last h;unfold sortedV at*;rw[List.map_append,List.pairwise_append];refine ⟨h,by simp,λa ha b hb=> ?_⟩;obtain ⟨u,hu,rfl⟩:=List.mem_map.1 ha
 simp at hb
 subst hb;have:=h2 u hu;omega
theorem okCh.snoc {p:VL}{v:Int×List Int}(h:okCh p)(hE:putE p v.1 v.2=0):okCh (p++[v]):=by
 obtain ⟨h1,h2,h3,h4⟩:=putE_0 hE;have:=h.last;refine ⟨sorted_snoc h.s h4,λu hu=> ?_⟩
 rcases List.mem_append.1 hu with hu|hu
 ·exact h.v u hu
 ·obtain rfl:=List.mem_singleton.1 hu
  exact ⟨by omega,h2,h3⟩
theorem puts_ok :∀{q p:VL},okCh p→putsE p q=0→okCh (p++q)
 | [],p,h,_=>by rw[List.append_nil];exact h
 |v::q,p,h,he=>by
  unfold putsE at he
  by_cases hE:putE p v.1 v.2≠0
  ·rw[if_pos hE] at he;exact absurd he hE
  rw[if_neg hE] at he;have:=puts_ok (q:=q) (h.snoc (Decidable.not_not.1 hE)) he
  rwa [List.append_assoc] at this
theorem okCh.put {p q:VL}{v:Int×List Int}(h:okCh (p++v::q)):putE p v.1 v.2=0:=by
 have hv:=h.v v (by simp);have hl:lastS p<v.1:=by
  unfold lastS
  cases hg:p.getLast? with
  |none=>simp;omega
  |some l=>
   have hm:=List.mem_of_getLast? hg;have hs:=h.s;unfold sortedV at hs;rw[List.map_append,List.pairwise_append] at hs;exact hs.2.2 _ (List.mem_map_of_mem hm) _ (by simp)
 unfold putE;rw[if_neg zo,if_neg (λhh=>by have:=hv.2.2 hh.1;rw[hh.2] at this;cases this),if_neg zo]
theorem ok_puts :∀{q p:VL},okCh (p++q)→putsE p q=0
 | [],p,_=>rfl
 |v::q,p,h=>by
  unfold putsE;rw[if_neg (by rw[h.put];simp)];refine ok_puts (q:=q) (p:=p++[v]) ?_
  rwa [List.append_assoc]
def badD (dim:Int)(v:Int×List Int):Bool:=decide (0<v.2.length)&&decide ((v.2.length:Int)≠dim)
def badE (dim:Int)(ch:List (Int×VL))(e:Int×VL):Bool:=decide (1099511627776<e.1)||(lkL ch e.1).isSome||decide (e.2.length=0)||decide (putsE [] e.2≠0)||e.2.any (badD dim)
def ldF (dim:Int):List (Int×VL)→List (Int×VL)→Option (List (Int×VL))
 |ch,[]=>some ch
 |ch,e::l=>if badE dim ch e then none else ldF dim (ch++[e]) l
def loadE (st:VS)(mark:Int)(l:List (Int×VL)):Int:=if 1099511627776<mark then 1 else if (ldF st.dim [] l).isNone then 4 else if 0<st.ch.length∨0<st.its.length∨0<st.mark then 10 else 0
def loadS (st:VS)(mark:Int)(l:List (Int×VL)):VS:=if loadE st mark l=0 then {st with ch:=l,mark:=mark} else st
structure goodC (dim:Int)(c:Int×VL):Prop where
 i:c.1≤1099511627776
 n:0<c.2.length
 p:okCh c.2
 d:∀v∈c.2,0<v.2.length→(v.2.length:Int)=dim
theorem bad_good {dim:Int}{ch:List (Int×VL)}{e:Int×VL}:badE dim ch e=false↔goodC dim e∧lkL ch e.1=none:=by
 unfold badE;simp only[Bool.or_eq_false_iff,decide_eq_false_iff_not,Decidable.not_not]
 constructor
 ·rintro ⟨⟨⟨⟨h1,h2⟩,h3⟩,h4⟩,h5⟩
  refine ⟨⟨by omega,by omega,by have:=puts_ok (p:=[]) ⟨List.Pairwise.nil,by simp⟩ h4;simpa using this,λv hv hl=> ?_⟩,?_⟩
  ·have:=List.any_eq_false.1 h5 v hv
   unfold badD at this
   simp[hl] at this
   exact this
  ·cases hz:lkL ch e.1 with
   |none=>rfl
   |some w=>rw[hz] at h2;cases h2
 ·rintro ⟨h,h2⟩
  refine ⟨⟨⟨⟨by have:=h.i;omega,by rw[h2];rfl⟩,by have:=h.n;omega⟩,ok_puts (by simpa using h.p)⟩,List.any_eq_false.2 λv hv=> ?_⟩;have:=h.d v hv;unfold badD
  simp
  intro hl;exact this zo
theorem ldF_some {dim:Int}:∀{l ch ch':List (Int×VL)},keysOK ch→ldF dim ch l=some ch'→ch'=ch++l∧keysOK (ch++l)∧∀e∈l,goodC dim e
 | [],ch,ch',hk,h=>by
  unfold ldF at h;exact ⟨by rw[←Option.some.inj h,List.append_nil],by rw[List.append_nil];exact hk,by simp⟩
 |e::l,ch,ch',hk,h=>by
  unfold ldF at h
  cases hb:badE dim ch e with
  |true=>rw[hb] at h;cases h
  |false=>
   rw[hb] at h;obtain ⟨hg,hn⟩:=bad_good.1 hb;obtain ⟨h1,h2,h3⟩:=ldF_some (l:=l) (ch:=ch++[e]) (ch':=ch') (keys_snoc hk _ hn) h;rw[List.append_assoc] at h1 h2;refine ⟨h1,h2,λf hf=> ?_⟩
   rcases List.mem_cons.1 hf with rfl|hf
   ·exact hg
   ·exact h3 f hf
theorem ldF_ok {dim:Int}:∀{l ch:List (Int×VL)},keysOK (ch++l)→(∀e∈l,goodC dim e)→ldF dim ch l=some (ch++l)
 | [],ch,_,_=>by unfold ldF;rw[List.append_nil]
 |e::l,ch,hk,hg=>by
  have hn:lkL ch e.1=none:=lkL_none λu hu he=>by
   unfold keysOK at hk;rw[List.map_append,List.nodup_append] at hk;exact hk.2.2 u.1 (List.mem_map_of_mem hu) e.1 (by simp) he
  unfold ldF;rw[bad_good.2 ⟨hg e (by simp),hn⟩,if_neg (by simp)];have:=ldF_ok (l:=l) (ch:=ch++[e]) (by rwa [List.append_assoc]) (λf hf=>hg f (List.mem_cons_of_mem _ hf))
  rwa [List.append_assoc] at this
structure GS (st:VS):Prop where
 c:∀c∈st.ch,goodC st.dim c
 i:∀i∈st.its,∀o∈i.2.2,o.1≤1099511627776∧(0<o.2.length→rightV o.2=true∧(o.2.length:Int)=st.dim)
 m:st.mark≤1099511627776
theorem ldsw1_ne {s:Int}{u:List (Int×VL)×GL}(hk:keysOK u.1)(h:∀c∈u.1,0<c.2.length)(id:Int):∀c∈(sw1 s u id).1,0<c.2.length:=by
 intro c hc;unfold sw1 at hc;dsimp only at hc
 by_cases h0:((chV u.1 id).drop (cutN (chV u.1 id) s)).length=0
 ·rw[if_pos h0] at hc
  exact h c (List.mem_filter.1 hc).1
 ·rw[if_neg h0] at hc
  have h1:=(lkL_iff (putL_ok hk id _)).2 (show (c.1,c.2)∈_ from hc);rw[lkL_put hk] at h1
  by_cases he:c.1=id
  ·rw[if_pos he] at h1
   rw[←Option.some.inj h1];omega
  ·rw[if_neg he] at h1
   exact h _ (lk_memL h1)
theorem ldswF_ne {s:Int}:∀{ks:List Int} {u:List (Int×VL)×GL},keysOK u.1→(∀c∈u.1,0<c.2.length)→∀c∈(ks.foldl (sw1 s) u).1,0<c.2.length
 | [],_,_,h=>h
 |k::ks,u,hk,h=>ldswF_ne (ks:=ks) (sw1_ok hk k) (ldsw1_ne hk h k)
theorem okCh.drop {vs:VL}(h:okCh vs)(k:Nat):okCh (vs.drop k):=by
 refine ⟨?_,λv hv=>h.v v (List.mem_of_mem_drop hv)⟩;have:=h.s;unfold sortedV at this ⊢;rw[List.map_drop];exact this.sublist (List.drop_sublist _ _)
theorem chV_of {ch:List (Int×VL)}{id:Int}{vs:VL}(h:lkL ch id=some vs):chV ch id=vs:=by unfold chV;rw[h];rfl
theorem GS.do_ {st:VS}{n:Nat}(hw:WFK st n)(h:GS st)(o:DV)(ho:0≤o.stamp):GS (doS st o):=by
 unfold doS
 split
 ·exact ⟨h.c,λi hi=>h.i i (List.mem_filter.1 hi).1,h.m⟩
 split
 ·unfold applyS
  split
  ·exact h
  ·rename_i i hi
   split
   ·rename_i hE
    have hmi:=lk_memL hi;unfold applyE at hE;rw[hi] at hE;dsimp only at hE
    by_cases h1:o.stamp=0∨1099511627776<o.stamp∨o.stamp≤i.1
    ·rw[if_pos h1] at hE;cases hE
    rw[if_neg h1] at hE
    by_cases h2:(i.2.any λw=>decide (o.stamp≤lastS (chV st.ch w.1)))=true
    ·rw[if_pos h2] at hE;cases hE
    refine ⟨λc hc=> ?_,λj hj=>h.i j (List.mem_filter.1 hj).1,h.m⟩
    rcases applyC_mem hw.k1 (hw.wf.io _ hmi).2.1 hc with hc|⟨w,hwm,rfl⟩
    ·exact h.c c hc
    ·have hio:=h.i _ hmi w hwm
     have hlt:lastS (chV st.ch w.1)<o.stamp:=by
      by_cases hh:o.stamp≤lastS (chV st.ch w.1)
      ·exact absurd (List.any_eq_true.2 ⟨w,hwm,decide_eq_true hh⟩) h2
      ·omega
     have hcv:okCh (chV st.ch w.1)∧∀v∈chV st.ch w.1,0<v.2.length→(v.2.length:Int)=st.dim:=by
      unfold chV
      cases hz:lkL st.ch w.1 with
      |none=>exact ⟨⟨List.Pairwise.nil,by simp⟩,by simp⟩
      |some vs=>have:=h.c _ (lk_memL hz);exact ⟨this.p,this.d⟩
     refine ⟨hio.1,by simp,⟨sorted_snoc hcv.1.s hlt,λv hv=> ?_⟩,λv hv hl=> ?_⟩
     ·rcases List.mem_append.1 hv with hv|hv
      ·exact hcv.1.v v hv
      ·obtain rfl:=List.mem_singleton.1 hv
       exact ⟨by dsimp only;omega,by dsimp only;omega,λhl=>(hio.2 hl).1⟩
     ·rcases List.mem_append.1 hv with hv|hv
      ·exact hcv.2 v hv hl
      ·obtain rfl:=List.mem_singleton.1 hv
       exact (hio.2 hl).2
   ·exact h
 split
 ·unfold sweepS
  split
  ·exact h
  ·refine ⟨λc hc=> ?_,h.i,by dsimp only;omega⟩
   dsimp only at hc ⊢;have hk':=swF_ok (s:=min o.stamp 1099511627776) (ks:=swIds st.ch) (u:=(st.ch,[])) hw.k1;have h1:=(lkL_iff hk').2 (show (c.1,c.2)∈_ from hc);have h2:=ch_sweep (m:=min o.stamp 1099511627776) hw.k1 c.1;have h2':chV (swF (min o.stamp 1099511627776) (swIds st.ch) st.ch).1 c.1=c.2:=chV_of h1;rw[h2'] at h2;have hne:=ldswF_ne (s:=min o.stamp 1099511627776) (ks:=swIds st.ch) (u:=(st.ch,[])) hw.k1 (λc hc=>(h.c c hc).n) c hc
   cases hz:lkL st.ch c.1 with
   |none=>
    have:chV st.ch c.1=[]:=by unfold chV;rw[hz];rfl
    rw[this] at h2;rw[h2] at hne
    simp at hne
   |some vs=>
    have hg:=h.c _ (lk_memL hz);rw[chV_of hz] at h2;refine ⟨hg.i,hne,by rw[h2];exact hg.p.drop _,λv hv=> ?_⟩;rw[h2] at hv;exact hg.d v (List.mem_of_mem_drop hv)
 ·unfold lockS
  split
  ·rename_i hE
   refine ⟨h.c,λi hi=> ?_,h.m⟩
   rcases List.mem_append.1 hi with hi|hi
   ·exact h.i i hi
   ·obtain rfl:=List.mem_singleton.1 hi
    dsimp only;intro w hw2;generalize fewV 18 (o.ops.map OV.abs)=ops at hE hw2;unfold lockE at hE
    by_cases h1:1099511627776<o.after
    ·rw[if_pos h1] at hE;cases hE
    rw[if_neg h1] at hE
    by_cases h2:checkV st.dim ops≠0
    ·rw[if_pos h2] at hE;exact absurd hE h2
    have h3:=Decidable.not_not.1 h2;unfold checkV at h3
    by_cases g1:st.dim<1∨8<st.dim
    ·rw[if_pos g1] at h3;cases h3
    rw[if_neg g1] at h3
    by_cases g2:ops.length=0
    ·rw[if_pos g2] at h3;cases h3
    rw[if_neg g2] at h3
    by_cases g3:16<ops.length
    ·rw[if_pos g3] at h3;cases h3
    rw[if_neg g3] at h3
    by_cases g4:ops.any (badO st.dim)=true
    ·rw[if_pos g4] at h3;cases h3
    have g5:=List.any_eq_false.1 (by simpa using g4) w hw2;unfold badO at g5;simp only[Bool.or_eq_true,Bool.and_eq_true,decide_eq_true_eq,Bool.not_eq_true',not_or,not_and] at g5;refine ⟨by omega,λhl=> ?_⟩;have g6:=g5.2 hl;refine ⟨by simpa using g6.1,?_⟩;have:=g6.2;omega
  ·exact h
theorem load_ok {st:VS}{mark:Int}{l:List (Int×VL)}(h:loadE st mark l=0):keysOK l∧(∀e∈l,goodC st.dim e)∧mark≤1099511627776∧st.its=[]:=by
 unfold loadE at h
 by_cases h1:1099511627776<mark
 ·rw[if_pos h1] at h;cases h
 rw[if_neg h1] at h
 cases hl:ldF st.dim [] l with
 |none=>rw[hl] at h;cases h
 |some ch=>
  rw[hl] at h;simp only[Option.isNone_some,Bool.false_eq_true,if_false] at h
  by_cases h2:0<st.ch.length∨0<st.its.length∨0<st.mark
  ·rw[if_pos h2] at h;cases h
  obtain ⟨_,g2,g3⟩:=ldF_some (by simp[keysOK]) hl;exact ⟨by simpa using g2,g3,by omega,List.eq_nil_of_length_eq_zero zo⟩
theorem load_again {dim mark:Int}{l:List (Int×VL)}(hk:keysOK l)(hg:∀e∈l,goodC dim e)(hm:mark≤1099511627776):loadE ⟨dim,[],[],0⟩ mark l=0:=by
 unfold loadE;rw[if_neg zo,ldF_ok (ch:=[]) (by simpa using hk) hg]
 simp
abbrev IR :=Int×Int×List Int×VL
abbrev okVr (v:Int×List Int):Prop:=(0≤v.1∧v.1≤(1099511627776:Nat))∧v.2.length≤8∧∀n∈v.2,i32ok n
abbrev entE (e:Int×VL):List UInt8:=numI e.1++encL verE e.2
abbrev okEr (e:Int×VL):Prop:=(0≤e.1∧e.1≤(1099511627776:Nat))∧e.2.length≤1048576∧∀v∈e.2,okVr v
abbrev intE (i:IR):List UInt8:=numI i.1++(numI i.2.1++(encL numI i.2.2.1++encL verE i.2.2.2))
abbrev okIr (mp mq mo:Nat)(i:IR):Prop:=(0≤i.1∧i.1≤(18446744073709551615:Nat))∧(0≤i.2.1∧i.2.1≤(1099511627776:Nat))∧(i.2.2.1.length≤mp∧∀p∈i.2.2.1,0≤p∧p≤mq)∧(i.2.2.2.length≤mo∧∀v∈i.2.2.2,okVr v)
abbrev dnE (d:Int×Int):List UInt8:=numI d.1++numI d.2
abbrev okDr (d:Int×Int):Prop:=(0≤d.1∧d.1≤(18446744073709551615:Nat))∧(0≤d.2∧d.2≤(1099511627776:Nat))
def encJ (m:Int)(E:List (Int×VL))(I:List IR)(D:List (Int×Int)):List UInt8:=numI m++(encL entE E++(encL intE I++encL dnE D))
theorem app_ne {a b:List UInt8}(h:a.length≠0):(a++b).length≠0:=by rw[List.length_append];omega
theorem entE_ne (e:Int×VL):(entE e).length≠0:=app_ne (numI_ne _)
theorem intE_ne (i:IR):(intE i).length≠0:=app_ne (numI_ne _)
theorem dnE_ne (d:Int×Int):(dnE d).length≠0:=app_ne (numI_ne _)
theorem encL_ne {α:Type}(e:α→List UInt8)(xs:List α):(encL e xs).length≠0:=app_ne (numI_ne _)
def decB {α:Type}(most:Nat)(d:RS→α×RS)(s:RS):List α×RS:=let r:=brkF d (rdF most s).1 ((rdF most s).2,[]);(r.2,r.1)
abbrev entB :RS→(Int×VL)×RS:=pairD (numD 1099511627776) (decB 1048576 verD)
abbrev entL :RS→(Int×VL)×RS:=pairD (numD 1099511627776) (decL 1048576 verD)
abbrev intB :RS→IR×RS:=pairD (numD 18446744073709551615) (pairD (numD 1099511627776) (pairD (decL 4 (numD 16)) (decL 16 verD)))
abbrev dnB :RS→(Int×Int)×RS:=pairD (numD 18446744073709551615) (numD 1099511627776)
theorem entL_codec :Codec entE entL okEr:=(num_codec zd).pair (list_codec ver_codec zd)
theorem intB_codec :Codec intE intB (okIr 4 16 16):=(num_codec zd).pair ((num_codec zd).pair ((list_codec (num_codec zd) zd).pair (list_codec ver_codec zd)))
theorem dnB_codec :Codec dnE dnB okDr:=(num_codec zd).pair (num_codec zd)
theorem decB_mono {α:Type}{most:Nat}{d:RS→α×RS}(hm:∀s,(d s).2.bad=0→s.bad=0){s:RS}(h:(decB most d s).2.bad=0):s.bad=0:=by
 have key:∀(k:Nat) (s:RS×List α),(brkF d k s).1.bad=0→s.1.bad=0:=λk=>by
  induction k with
  |zero=>exact λ_ h=>h
  |succ k ih=>
   intro s h;rw[brkF_succ] at h
   split at h
   ·exact hm _ h
   ·exact hm _ (ih _ h)
 exact (rdF_inv (key _ _ h)).1
theorem decB_eq {α:Type}{most:Nat}{d d':RS→α×RS}(hm:∀s,(d s).2.bad=0→s.bad=0)(hd:∀s,(d s).2.bad=0→(d s).2.bs.length≠0→d s=d' s){s:RS}(hb:(decB most d s).2.bad=0)(h0:(decB most d s).2.bs.length≠0):decB most d s=decL most d' s:=by
 unfold decB decL at*;dsimp only at*;rw[(brkF_eq hm hd _ _ hb h0).1]
theorem entB_mono {s:RS}(h:(entB s).2.bad=0):s.bad=0:=(num_codec (most:=1099511627776) zd).mono (decB_mono (λs h=>ver_codec.mono h) h)
theorem entB_eq {s:RS}(hb:(entB s).2.bad=0)(h0:(entB s).2.bs.length≠0):entB s=entL s:=by
 unfold entB entL pairD at*;dsimp only at*;rw[decB_eq (d':=verD) (λs h=>ver_codec.mono h) (λs _ _=>rfl) hb h0]
theorem decB_fwd {α:Type}{e:α→List UInt8}{d:RS→α×RS}{ok:α→Prop}{most:Nat}(hm:most≤18446744073709551615)(hd:∀x rest g,ok x→rest.length≠0→d ⟨e x++rest,0,g⟩=(x,⟨rest,0,g⟩)){g:Bool}{rest:List UInt8}(hr:rest.length≠0)(xs:List α)(hl:xs.length≤most)(hx:∀x∈xs,ok x):
  decB most d ⟨encL e xs++rest,0,g⟩=(xs,⟨rest,0,g⟩):=by
 unfold decB encL;rw[List.append_assoc,rdF_ok (Int.natCast_nonneg _) zo zo];dsimp only;rw[Int.toNat_natCast,brkF_fwd hd hr xs [] hx];rfl
theorem entB_fwd (x:Int×VL)(rest:List UInt8)(g:Bool)(hx:okEr x)(hr:rest.length≠0):entB ⟨entE x++rest,0,g⟩=(x,⟨rest,0,g⟩):=by
 unfold entB entE pairD;rw[List.append_assoc,(num_codec (most:=1099511627776) zd).fwd _ _ _ hx.1];dsimp only;rw[decB_fwd zd (λx rest g hx _=>ver_codec.fwd x rest g hx) hr x.2 hx.2.1 hx.2.2]
structure UR where
 m:Int
 E:List (Int×VL)
 I:List IR
 D:List (Int×Int)
 s:RS
abbrev rs0 (bs:List UInt8):RS:=⟨bs,0,true⟩
def unR (bs:List UInt8):UR:=
 let a:=numD 1099511627776 (rs0 bs)
 let b:=decB 1048576 entB a.2
 let c:=decB 1048576 intB b.2
 let d:=decB 1048576 dnB c.2
 ⟨a.1,b.1,c.1,d.1,d.2⟩
theorem unR_fwd {m:Int}{E:List (Int×VL)}{I:List IR}{D:List (Int×Int)}(hm:0≤m∧m≤(1099511627776:Nat))(hE:E.length≤1048576∧∀e∈E,okEr e)(hI:I.length≤1048576∧∀i∈I,okIr 4 16 16 i)(hD:D.length≤1048576∧∀d∈D,okDr d):
  unR (encJ m E I D)=⟨m,E,I,D,rs0 []⟩:=by
 unfold unR encJ;dsimp only;rw[(num_codec (most:=1099511627776) zd).fwd _ _ _ hm];dsimp only;rw[decB_fwd zd entB_fwd (app_ne (encL_ne _ _)) E hE.1 hE.2];dsimp only;rw[decB_fwd zd (λx rest g hx _=>intB_codec.fwd x rest g hx) (encL_ne _ _) I hI.1 hI.2];dsimp only;have e:decB 1048576 dnB ⟨encL dnE D,0,true⟩=(D,⟨[],0,true⟩):=by
  unfold decB encL;rw[rdF_ok (Int.natCast_nonneg _) zo zo];dsimp only;rw[Int.toNat_natCast,brkF_end (λx rest g hx=>dnB_codec.fwd x rest g hx) dnE_ne D [] hD.2];rfl
 rw[e]
theorem decB_inv {α:Type}{e:α→List UInt8}{d:RS→α×RS}{ok:α→Prop}(h:Codec e d ok){most:Nat}{s:RS}(hb:(decB most d s).2.bad=0):s.bad=0∧s.bs.length≠0∧(decB most d s).1.length≤most∧∀x∈(decB most d s).1,ok x:=by
 unfold decB at hb ⊢;dsimp only at hb ⊢;obtain ⟨b1,xs,d1,d2,d3,d4⟩:=brkF_inv h _ _ hb;have hn:=(rdF_le most s).1;obtain ⟨a1,a2⟩:=rdF_inv b1;rw[List.nil_append] at d1;rw[d1];refine ⟨a1,?_,by omega,d4⟩;rw[a2,List.length_append];have:=numI_ne ((rdF most s).1:Int);omega
theorem unR_inv {bs:List UInt8}(h:(unR bs).s.bad=0):(0≤(unR bs).m∧(unR bs).m≤(1099511627776:Nat))∧((unR bs).E.length≤1048576∧∀e∈(unR bs).E,okEr e)∧((unR bs).I.length≤1048576∧∀i∈(unR bs).I,okIr 4 16 16 i)∧((unR bs).D.length≤1048576∧∀d∈(unR bs).D,okDr d):=by
 unfold unR at h ⊢;dsimp only at h ⊢;have iM:=(num_codec (most:=1099511627776) zd).inv (rs0 bs);generalize numD 1099511627776 (rs0 bs)=A at iM h ⊢;have iE:=λ(hb:(decB 1048576 entB A.2).2.bad=0) h0=>decB_eq (λs h=>entB_mono h) (λs h h0=>entB_eq h h0) (most:=1048576) (s:=A.2) hb h0
 generalize decB 1048576 entB A.2=Bq at iE h ⊢;have iI:=λ(hb:(decB 1048576 intB Bq.2).2.bad=0) h0=>decB_eq (d':=intB) (λs h=>intB_codec.mono h) (λs _ _=>rfl) (most:=1048576) (s:=Bq.2) hb h0
 generalize decB 1048576 intB Bq.2=Cq at iI h ⊢;obtain ⟨c0,c1,c2,c3⟩:=decB_inv dnB_codec h;have eI:=iI c0 c1;have jI:=(list_codec intB_codec (most:=1048576) zd).inv Bq.2 (by rw[←eI];exact c0);rw[←eI] at jI;have ce0:Bq.2.bs.length≠0:=by
  rw[jI.2.1,List.length_append];have:=encL_ne intE Cq.1;omega
 have eE:=iE jI.1 ce0;have jE:=(list_codec entL_codec (most:=1048576) zd).inv A.2 (by rw[←eE];exact jI.1);rw[←eE] at jE;exact ⟨(iM jE.1).2.2,jE.2.2,jI.2.2,c2,c3⟩
def riseB (l:List Int):Bool:=decide (Rise l)
theorem riseB_iff {l:List Int}:riseB l=true↔Rise l:=decide_eq_true_iff
def foldI (dim:Int):List IR→JS→Option JS
 | [],j=>some j
 |h::l,j=>if partsV h.2.2.1=true∧checkV dim h.2.2.2=0∧lockE j.v h.1 h.2.1 h.2.2.2=0 then foldI dim l ⟨lockS j.v h.1 h.2.1 h.2.2.2,putL j.parts h.1 h.2.2.1,j.done⟩ else none
def VS0 (dim:Int):VS:=⟨dim,[],[],0⟩
def unJ4 (dim:Int)(bs:List UInt8):Option JS:=
 if endF (unR bs).s.bs (unR bs).s.bad=0∧riseB ((unR bs).D.map (·.1))=true∧riseB ((unR bs).E.map (·.1))=true∧(unR bs).D.all (λd=>decide (d.2≠0))=true∧loadE (VS0 dim) (unR bs).m (unR bs).E=0 then
  match foldI dim (unR bs).I ⟨loadS (VS0 dim) (unR bs).m (unR bs).E,[],[]⟩ with
  |none=>none
  |some j=>if riseB ((unR bs).I.map (·.1))=true∧packV {j with done:=(unR bs).D.foldl (λm d=>putL m d.1 d.2) []}=bs then some {j with done:=(unR bs).D.foldl (λm d=>putL m d.1 d.2) []} else none
 else none
def cntF (s:RS):Nat×RS:=if (rdF 1048576 s).2.bs.length<(rdF 1048576 s).1 then (0,{(rdF 1048576 s).2 with bad:=1}) else (rdF 1048576 s)
def decN {α:Type}(cap:Nat)(d:RS→α×RS)(s:RS):List α×RS:=let r:=listF d (min (cntF s).1 cap) ((cntF s).2,[]);(r.2,r.1)
abbrev entC :RS→(Int×VL)×RS:=pairD (numD 1099511627776) (decN 1048576 verD)
abbrev intC :RS→IR×RS:=pairD (numD 18446744073709551615) (pairD (numD 1099511627776) (pairD (decN 5 (numD 15)) (decN 17 verD)))
def chF :Nat→RS×List (Int×VL)→RS×List (Int×VL)
 |0,s=>s
 |k+1,s=>chF k (if lastLt (s.2.map (·.1)) (entC s.1).1.1=true then (entC s.1).2 else {(entC s.1).2 with bad:=1},s.2++[(entC s.1).1])
abbrev prN (i:IR):NA:={NA.zero with kind:=12,txn:=i.1,after:=i.2.1,parts:=i.2.2.1,ops:=i.2.2.2}
def refI :Nat→RS×JS→Option (RS×JS)
 |0,s=>some s
 |k+1,s=>if (intC s.1).2.bad=0∧lastLt (s.2.parts.map (·.1)) (intC s.1).1.1=true∧rightN (prN (intC s.1).1)=true∧lockE s.2.v (intC s.1).1.1 (intC s.1).1.2.1 (intC s.1).1.2.2.2=0 then
   refI k ((intC s.1).2,⟨lockS s.2.v (intC s.1).1.1 (intC s.1).1.2.1 (intC s.1).1.2.2.2,s.2.parts++[((intC s.1).1.1,(intC s.1).1.2.2.1)],[]⟩) else none
def refN :Nat→RS×List (Int×Int)→Option (RS×List (Int×Int))
 |0,s=>some s
 |k+1,s=>if (dnB s.1).1.2≠0∧lastLt (s.2.map (·.1)) (dnB s.1).1.1=true then refN k ((dnB s.1).2,s.2++[(dnB s.1).1]) else none
def refQ (j:JS):Option (RS×List (Int×Int))→Option JS
 |none=>none
 |some t=>if t.1.bad=0∧t.1.bs.length=0 then some {j with done:=t.2} else none
def refX :Option (RS×JS)→Option JS
 |none=>none
 |some t=>refQ t.2 (refN (cntF t.1).1 ((cntF t.1).2,[]))
def refA (dim m:Int)(c:RS×List (Int×VL)):Option JS:=
 if c.1.bad=0∧loadE (VS0 dim) m c.2=0 then refX (refI (cntF c.1).1 ((cntF c.1).2,⟨loadS (VS0 dim) m c.2,[],[]⟩)) else none
def refUJ (dim:Int)(bs:List UInt8):Option JS:=
 refA dim (numD 1099511627776 (rs0 bs)).1 (chF (cntF (numD 1099511627776 (rs0 bs)).2).1 ((cntF (numD 1099511627776 (rs0 bs)).2).2,[]))
theorem cntF_inv {s:RS}(h:(cntF s).2.bad=0):s.bad=0∧s.bs=numI ((cntF s).1:Int)++(cntF s).2.bs∧(cntF s).1≤1048576:=by
 have hn:=(rdF_le 1048576 s).1;unfold cntF at h ⊢
 split at h
 ·simp at h
 ·rename_i hc
  rw[if_neg hc];obtain ⟨a,b⟩:=rdF_inv h;exact ⟨a,b,hn⟩
theorem cntF_fwd {n:Nat}{rest:List UInt8}{g:Bool}(hn:n≤1048576)(hl:n≤rest.length):cntF ⟨numI (n:Int)++rest,0,g⟩=(n,⟨rest,0,g⟩):=by
 unfold cntF;rw[rdF_ok (Int.natCast_nonneg _) zo zo];dsimp only;rw[Int.toNat_natCast,if_neg zo]
theorem decN_inv {α:Type}{e:α→List UInt8}{d:RS→α×RS}{ok:α→Prop}(h:Codec e d ok){cap:Nat}{s:RS}(hb:(decN cap d s).2.bad=0):s.bad=0∧∃n:Nat,(decN cap d s).1.length=min n cap∧n≤1048576∧s.bs=numI (n:Int)++((decN cap d s).1.flatMap e++(decN cap d s).2.bs)∧∀x∈(decN cap d s).1,ok x:=by
 unfold decN at hb ⊢;dsimp only at hb ⊢;obtain ⟨b1,xs,d1,d2,d3,d4⟩:=listF_inv h _ _ hb;dsimp only at b1 d1 d3;obtain ⟨a1,a2,a3⟩:=cntF_inv b1;rw[List.nil_append] at d1;rw[d1];exact ⟨a1,(cntF s).1,d2,a3,by rw[←d3];exact a2,d4⟩
theorem decN_fwd {α:Type}{e:α→List UInt8}{d:RS→α×RS}{ok:α→Prop}(h:Codec e d ok)(hne:∀x,(e x).length≠0){cap:Nat}{xs:List α}{rest:List UInt8}{g:Bool}(hc:xs.length≤cap)(hl:xs.length≤1048576)(hx:∀x∈xs,ok x):decN cap d ⟨encL e xs++rest,0,g⟩=(xs,⟨rest,0,g⟩):=by
 have hg:=flat_ge hne xs;unfold decN encL;rw[List.append_assoc,cntF_fwd hl (by rw[List.length_append];omega)];dsimp only;rw[Nat.min_eq_left hc,listF_fwd h xs [] hx];rfl
theorem decN_codec {α:Type}{e:α→List UInt8}{d:RS→α×RS}{ok:α→Prop}(h:Codec e d ok)(hne:∀x,(e x).length≠0):Codec (encL e) (decN 1048576 d) (λxs=>xs.length≤1048576∧∀x∈xs,ok x):=by
 refine ⟨λx rest g hx=>decN_fwd h hne hx.1 hx.1 hx.2,λs hb=> ?_⟩;obtain ⟨a,n,b,c,e1,f⟩:=decN_inv h hb;rw[Nat.min_eq_left c] at b;refine ⟨a,?_,by omega,f⟩;unfold encL;rw[b,List.append_assoc];exact e1
theorem entC_codec :Codec entE entC okEr:=(num_codec zd).pair (decN_codec ver_codec verE_ne)
theorem intC_fwd {x:IR}{rest:List UInt8}{g:Bool}(h:okIr 4 15 16 x):intC ⟨intE x++rest,0,g⟩=(x,⟨rest,0,g⟩):=by
 obtain ⟨h1,h2,h3,h4⟩:=h;unfold intC intE pairD;rw[List.append_assoc,(num_codec (most:=18446744073709551615) zd).fwd _ _ _ h1];dsimp only;rw[List.append_assoc,(num_codec (most:=1099511627776) zd).fwd _ _ _ h2];dsimp only;rw[List.append_assoc,decN_fwd (num_codec (most:=15) zd) numI_ne zo zo h3.2];dsimp only;rw[decN_fwd ver_codec verE_ne zo zo h4.2]
theorem intC_inv {s:RS}(h:(intC s).2.bad=0)(hp:(intC s).1.2.2.1.length≤4)(ho:(intC s).1.2.2.2.length≤16):s.bad=0∧s.bs=intE (intC s).1++(intC s).2.bs∧okIr 4 15 16 (intC s).1:=by
 unfold intC pairD at h hp ho ⊢;dsimp only at h hp ho ⊢;have i1:=(num_codec (most:=18446744073709551615) zd).inv s;generalize numD 18446744073709551615 s=A at*;have i2:=(num_codec (most:=1099511627776) zd).inv A.2;generalize numD 1099511627776 A.2=B2 at*;have i3:=decN_inv (cap:=5) (s:=B2.2) (num_codec (most:=15) zd);generalize decN 5 (numD 15) B2.2=C2 at*;have i4:=decN_inv (cap:=17) (s:=C2.2) ver_codec;generalize decN 17 verD C2.2=D2 at*;obtain ⟨a1,n4,a2,a3,a4,a5⟩:=i4 h;obtain ⟨b1,n3,b2,b3,b4,b5⟩:=i3 a1;obtain ⟨c1,c2,c3⟩:=i2 b1;obtain ⟨d1,d2,d3⟩:=i1 c1;have e4:n4=D2.1.length:=by omega
 have e3:n3=C2.1.length:=by omega
 refine ⟨d1,?_,d3,c3,⟨hp,b5⟩,ho,a5⟩;rw[d2,c2,b4,a4,e4,e3];unfold intE encL;simp only[List.append_assoc]
theorem chF_succ (k:Nat)(s:RS×List (Int×VL)):chF (k+1) s=chF k (if lastLt (s.2.map (·.1)) (entC s.1).1.1=true then (entC s.1).2 else {(entC s.1).2 with bad:=1},s.2++[(entC s.1).1]):=rfl
theorem chF_inv :∀(k:Nat) (s:RS×List (Int×VL)),(chF k s).1.bad=0→Rise (s.2.map (·.1))→s.1.bad=0∧∃es,(chF k s).2=s.2++es∧es.length=k∧s.1.bs=es.flatMap entE++(chF k s).1.bs∧(∀e∈es,okEr e)∧Rise ((chF k s).2.map (·.1))
 |0,s,h,hr=>⟨h,[],by simp[chF],rfl,by simp[chF],λ_ h=>(by cases h),hr⟩
 |k+1,s,h,hr=>by
  rw[chF_succ] at h ⊢
  by_cases hl:lastLt (s.2.map (·.1)) (entC s.1).1.1=true
  ·rw[if_pos hl] at h ⊢
   obtain ⟨b1,es,e1,e2,e3,e4,e5⟩:=chF_inv k _ h (by rw[List.map_append];exact rise_snoc hr hl);dsimp only at b1 e1 e3;obtain ⟨a1,a2,a3⟩:=entC_codec.inv _ b1;refine ⟨a1,_::es,by rw[e1,List.append_assoc];rfl,by rw[List.length_cons,e2],?_,λx hx=> ?_,e5⟩
   ·rw[List.flatMap_cons,List.append_assoc,←e3]
    exact a2
   ·rcases List.mem_cons.1 hx with rfl|hx
    ·exact a3
    ·exact e4 x hx
  ·rw[if_neg hl] at h
   have key:∀(k:Nat) (s:RS×List (Int×VL)),(chF k s).1.bad=0→s.1.bad=0:=λk=>by
    induction k with
    |zero=>exact λ_ h=>h
    |succ k ih=>
     intro s h;rw[chF_succ] at h;have:=ih _ h;dsimp only at this
     split at this
     ·exact entC_codec.mono this
     ·simp at this
   have:=key k _ h
   simp at this
theorem chF_fwd {rest:List UInt8}{g:Bool}:∀(es acc:List (Int×VL)),(∀e∈es,okEr e)→Rise ((acc++es).map (·.1))→chF es.length (⟨es.flatMap entE++rest,0,g⟩,acc)=(⟨rest,0,g⟩,acc++es)
 | [],acc,_,_=>by simp[chF]
 |e::es,acc,h,hr=>by
  have hl:lastLt (acc.map (·.1)) e.1=true:=by
   rw[List.map_append,List.map_cons] at hr;exact lastLt_rise hr
  rw[List.length_cons,chF_succ,List.flatMap_cons,List.append_assoc];dsimp only;rw[entC_codec.fwd e _ g (h e List.mem_cons_self)];dsimp only;rw[if_pos hl,chF_fwd es _ (λx hx=>h x (List.mem_cons_of_mem _ hx)) (by rw[List.append_assoc];exact hr),List.append_assoc];rfl
theorem pr_right {x:IR}{dim:Int}(h:okIr 4 16 16 x)(hp:partsV x.2.2.1=true)(hc:checkV dim x.2.2.2=0):rightN (prN x)=true:=by
 obtain ⟨h1,h2,h3,h4⟩:=h;obtain ⟨txn,after,parts,ops⟩:=x;dsimp only at h1 h2 h3 h4 hp hc;have hops:ops.any badOp=false:=by
  rw[List.any_eq_false];intro o ho;unfold checkV at hc
  split at hc
  ·cases hc
  split at hc
  ·cases hc
  split at hc
  ·cases hc
  split at hc
  ·cases hc
  rename_i hb;have hb:=List.any_eq_false.1 (by simpa using hb) o ho;unfold badO at hb;unfold badOp bareV;simp only[Bool.or_eq_true,Bool.and_eq_true,decide_eq_true_eq,Bool.not_eq_true',not_or,not_and,Bool.or_eq_false_iff,decide_eq_false_iff_not] at hb ⊢;refine ⟨hb.1,λhz=> ?_⟩;have:=(hb.2 zo).1
  simpa using this
 have hm:¬(1099511627776<max (max 0 after) 0):=by omega
 have hpl:¬4<parts.length:=by omega
 have hol:¬16<ops.length:=by omega
 unfold rightN boundN prN NA.zero NA.bits;dsimp only;rw[hp,hops];simp only[hm,hpl,hol]
 by_cases g1:0<txn<;>by_cases g2:0<after<;>by_cases g3:0<(parts.length:Int)<;>by_cases g4:0<(ops.length:Int)<;>simp[g1,g2,g3,g4,List.zipIdx,fldN,bareV,show Nat.testBit 6153 0=true by decide,show Nat.testBit 6153 3=true by decide,show Nat.testBit 6153 11=true by decide,show Nat.testBit 6153 12=true by decide]
theorem right_pr {x:IR}(h:rightN (prN x)=true):x.2.2.1.length≤4∧x.2.2.2.length≤16∧partsV x.2.2.1=true:=by
 unfold rightN boundN prN at h;simp only[Bool.and_eq_true,Bool.not_eq_true',Bool.or_eq_false_iff,decide_eq_false_iff_not] at h;exact ⟨by have:=h.2.1.1.1.2.1.1.1;omega,by have:=h.2.1.1.1.2.1.1.2;omega,h.2.1.1.2⟩
theorem parts_15 {l:List Int}(h:partsV l=true):∀p∈l,0≤p∧p≤15:=λp hp=>by
 obtain ⟨k,hk,rfl⟩:=List.mem_iff_getElem.1 hp;unfold partsV at h;have:=List.all_eq_true.1 h k (List.mem_range.2 hk);unfold okP at this;rw[List.getD_eq_getElem?_getD,List.getElem?_eq_getElem hk] at this;simp only[Bool.and_eq_true,decide_eq_true_eq,Option.getD_some] at this;omega
theorem lock_check {st:VS}{t a:Int}{ops:VL}(h:lockE st t a ops=0):checkV st.dim ops=0:=by
 unfold lockE at h
 split at h
 ·cases h
 split at h
 ·rename_i h1
  exact absurd h h1
 ·rename_i h1
  exact Decidable.not_not.1 h1
theorem lockS_eq {st:VS}{t a:Int}{ops:VL}(h:lockE st t a ops=0):lockS st t a ops={st with its:=st.its++[(t,a,ops)]}:=by unfold lockS;rw[if_pos h]
abbrev itA (i:IR):Int×Int×VL:=(i.1,i.2.1,i.2.2.2)
abbrev ptA (i:IR):Int×List Int:=(i.1,i.2.2.1)
theorem rise_none {α:Type}{m:List (Int×α)}{x:Int}(h:Rise (m.map (·.1)))(hl:lastLt (m.map (·.1)) x=true):∀u∈m,u.1≠x:=λu hu=>by
 have:=(List.pairwise_append.1 (rise_snoc h hl)).2.2 u.1 (List.mem_map_of_mem hu) x (List.mem_singleton.2 rfl);omega
theorem refI_succ (k:Nat)(s:RS×JS):refI (k+1) s=if (intC s.1).2.bad=0∧lastLt (s.2.parts.map (·.1)) (intC s.1).1.1=true∧rightN (prN (intC s.1).1)=true∧lockE s.2.v (intC s.1).1.1 (intC s.1).1.2.1 (intC s.1).1.2.2.2=0 then
   refI k ((intC s.1).2,⟨lockS s.2.v (intC s.1).1.1 (intC s.1).1.2.1 (intC s.1).1.2.2.2,s.2.parts++[((intC s.1).1.1,(intC s.1).1.2.2.1)],[]⟩) else none:=rfl
theorem foldI_cons (dim:Int)(h:IR)(l:List IR)(j:JS):foldI dim (h::l) j=if partsV h.2.2.1=true∧checkV dim h.2.2.2=0∧lockE j.v h.1 h.2.1 h.2.2.2=0 then foldI dim l ⟨lockS j.v h.1 h.2.1 h.2.2.2,putL j.parts h.1 h.2.2.1,j.done⟩ else none:=rfl
theorem refI_inv {dim:Int}:∀(k:Nat) (s r:RS×JS),refI k s=some r→r.1.bad=0→Rise (s.2.parts.map (·.1))→s.2.done=[]→s.2.v.dim=dim→
  s.1.bad=0∧∃is:List IR,is.length=k∧s.1.bs=is.flatMap intE++r.1.bs∧(∀i∈is,okIr 4 15 16 i)∧foldI dim is s.2=some r.2∧r.2.parts=s.2.parts++is.map ptA∧Rise (r.2.parts.map (·.1))
 |0,s,r,h,hb,hr,hd,hv=>by
  unfold refI at h
  cases h
  exact ⟨hb,[],rfl,by simp,λ_ h=>(by cases h),rfl,by simp,hr⟩
 |k+1,s,r,h,hb,hr,hd,hv=>by
  rw[refI_succ] at h
  split at h
  ·rename_i hc
   obtain ⟨c1,c2,c3,c4⟩:=hc;obtain ⟨p1,p2,p3⟩:=right_pr c3;have hnn:=rise_none hr c2;have hck:=lock_check c4;rw[hv] at hck;obtain ⟨b1,is,e1,e2,e3,e4,e5,e6⟩:=refI_inv (dim:=dim) k _ r h hb (by dsimp only;rw[List.map_append];exact rise_snoc hr c2) rfl (by dsimp only;rw[lockS_eq c4];exact hv);dsimp only at b1 e2 e4 e5;obtain ⟨a1,a2,a3⟩:=intC_inv c1 p1 p2;refine ⟨a1,(intC s.1).1::is,by rw[List.length_cons,e1],?_,λi hi=> ?_,?_,by rw[e5,List.append_assoc];rfl,e6⟩
   ·rw[List.flatMap_cons,List.append_assoc,←e2]
    exact a2
   ·rcases List.mem_cons.1 hi with rfl|hi
    ·exact a3
    ·exact e3 i hi
   ·rw[foldI_cons,if_pos ⟨p3,hck,c4⟩,putL_none hnn,hd]
    exact e4
  ·cases h
theorem refI_fwd {dim:Int}{rest:List UInt8}{g:Bool}:∀(is:List IR) (j r:JS),(∀i∈is,okIr 4 16 16 i)→foldI dim is j=some r→Rise ((j.parts++is.map ptA).map (·.1))→j.done=[]→refI is.length (⟨is.flatMap intE++rest,0,g⟩,j)=some (⟨rest,0,g⟩,r)
 | [],j,r,_,h,_,_=>by
  unfold foldI at h
  cases h
  simp[refI]
 |i::is,j,r,hi,h,hr,hd=>by
  rw[foldI_cons] at h
  split at h
  ·rename_i hc
   obtain ⟨c1,c2,c3⟩:=hc;have hk:=hi i List.mem_cons_self;have h15:=parts_15 c1;have hok:okIr 4 15 16 i:=⟨hk.1,hk.2.1,⟨hk.2.2.1.1,h15⟩,hk.2.2.2⟩;have hl:lastLt (j.parts.map (·.1)) i.1=true:=by
    rw[List.map_cons,List.map_append,List.map_cons] at hr;exact lastLt_rise hr
   have hrj:Rise (j.parts.map (·.1)):=by rw[List.map_append] at hr;exact (List.pairwise_append.1 hr).1
   rw[putL_none (rise_none hrj hl),hd] at h;rw[List.length_cons,refI_succ,List.flatMap_cons,List.append_assoc];dsimp only;rw[intC_fwd hok];dsimp only;rw[if_pos ⟨rfl,hl,pr_right hk c1 c2,c3⟩];exact refI_fwd is _ r (λx hx=>hi x (List.mem_cons_of_mem _ hx)) h (by dsimp only;rw[List.append_assoc];exact hr) rfl
  ·cases h
theorem foldI_res {dim:Int}:∀(is:List IR) (j r:JS),foldI dim is j=some r→Rise ((j.parts++is.map ptA).map (·.1))→r=⟨{j.v with its:=j.v.its++is.map itA},j.parts++is.map ptA,j.done⟩
 | [],j,r,h,_=>by
  unfold foldI at h
  cases h
  simp
 |i::is,j,r,h,hr=>by
  rw[foldI_cons] at h
  split at h
  ·rename_i hc
   obtain ⟨c1,c2,c3⟩:=hc;have hl:lastLt (j.parts.map (·.1)) i.1=true:=by
    rw[List.map_cons,List.map_append,List.map_cons] at hr;exact lastLt_rise hr
   have hrj:Rise (j.parts.map (·.1)):=by rw[List.map_append] at hr;exact (List.pairwise_append.1 hr).1
   rw[putL_none (rise_none hrj hl)] at h;have:=foldI_res is _ r h (by dsimp only;rw[List.append_assoc];exact hr);rw[this];dsimp only;rw[lockS_eq c3]
   simp
  ·cases h
theorem refN_succ (k:Nat)(s:RS×List (Int×Int)):refN (k+1) s=if (dnB s.1).1.2≠0∧lastLt (s.2.map (·.1)) (dnB s.1).1.1=true then refN k ((dnB s.1).2,s.2++[(dnB s.1).1]) else none:=rfl
theorem refN_inv :∀(k:Nat) (s r:RS×List (Int×Int)),refN k s=some r→r.1.bad=0→Rise (s.2.map (·.1))→s.1.bad=0∧∃ds,r.2=s.2++ds∧ds.length=k∧s.1.bs=ds.flatMap dnE++r.1.bs∧(∀d∈ds,okDr d∧d.2≠0)∧Rise (r.2.map (·.1))
 |0,s,r,h,hb,hr=>by
  unfold refN at h
  cases h
  exact ⟨hb,[],by simp,rfl,by simp,λ_ h=>(by cases h),hr⟩
 |k+1,s,r,h,hb,hr=>by
  rw[refN_succ] at h
  split at h
  ·rename_i hc
   obtain ⟨c1,c2⟩:=hc;obtain ⟨b1,ds,e1,e2,e3,e4,e5⟩:=refN_inv k _ r h hb (by rw[List.map_append];exact rise_snoc hr c2);dsimp only at b1 e1 e3;obtain ⟨a1,a2,a3⟩:=dnB_codec.inv _ b1;refine ⟨a1,_::ds,by rw[e1,List.append_assoc];rfl,by rw[List.length_cons,e2],?_,λx hx=> ?_,e5⟩
   ·rw[List.flatMap_cons,List.append_assoc,←e3]
    exact a2
   ·rcases List.mem_cons.1 hx with rfl|hx
    ·exact ⟨a3,c1⟩
    ·exact e4 x hx
  ·cases h
theorem refN_fwd {rest:List UInt8}{g:Bool}:∀(ds acc:List (Int×Int)),(∀d∈ds,okDr d∧d.2≠0)→Rise ((acc++ds).map (·.1))→refN ds.length (⟨ds.flatMap dnE++rest,0,g⟩,acc)=some (⟨rest,0,g⟩,acc++ds)
 | [],acc,_,_=>by simp[refN]
 |d::ds,acc,h,hr=>by
  have hl:lastLt (acc.map (·.1)) d.1=true:=by
   rw[List.map_append,List.map_cons] at hr;exact lastLt_rise hr
  have hd:=h d List.mem_cons_self;rw[List.length_cons,refN_succ,List.flatMap_cons,List.append_assoc];dsimp only;rw[dnB_codec.fwd d _ g hd.1];dsimp only;rw[if_pos ⟨hd.2,hl⟩,refN_fwd ds _ (λx hx=>h x (List.mem_cons_of_mem _ hx)) (by rw[List.append_assoc];exact hr),List.append_assoc];rfl
abbrev JF (dim m:Int)(E:List (Int×VL))(I:List IR)(D:List (Int×Int)):JS:=⟨⟨dim,E,I.map itA,m⟩,I.map ptA,D⟩
theorem rise_keys {α:Type}{m:List (Int×α)}(h:Rise (m.map (·.1))):keysOK m:=by
 unfold keysOK;exact h.imp λh=>by omega
theorem packI_eq {parts:List (Int×List Int)}{i:IR}(hl:lkL parts i.1=some i.2.2.1)(hp:∀p∈i.2.2.1,0≤p∧p≤15):packInt parts (itA i)=intE i:=by
 unfold packInt intE encL;dsimp only;rw[hl];dsimp only[Option.getD_some];have e:i.2.2.1.flatMap packPart=i.2.2.1.flatMap numI:=by
  have:∀l:List Int,(∀p∈l,0≤p∧p≤15)→l.flatMap packPart=l.flatMap numI:=λl=>by
   induction l with
   |nil=>exact λ_=>rfl
   |cons p l ih=>
    intro h;have hp:=h p List.mem_cons_self;rw[List.flatMap_cons,List.flatMap_cons,ih λq hq=>h q (List.mem_cons_of_mem _ hq)];unfold packPart;rw[wrap_u64 hp.1 zo]
  exact this _ hp
 rw[e];simp only[List.append_assoc]
theorem flat_congr {α:Type}{f g:α→List UInt8}:∀{l:List α},(∀x∈l,f x=g x)→l.flatMap f=l.flatMap g
 | [],_=>rfl
 |x::l,h=>by rw[List.flatMap_cons,List.flatMap_cons,h x List.mem_cons_self,flat_congr λy hy=>h y (List.mem_cons_of_mem _ hy)]
theorem packV_enc {dim m:Int}{E:List (Int×VL)}{I:List IR}{D:List (Int×Int)}(hE:Rise (E.map (·.1)))(hI:Rise (I.map (·.1)))(hD:Rise (D.map (·.1)))(hp:∀i∈I,∀p∈i.2.2.1,0≤p∧p≤15):packV (JF dim m E I D)=encJ m E I D:=by
 have e1:srtM E=E:=(srt_eq (rise_keys hE) (List.Perm.refl _) hE).symm;have kI:((I.map itA).map (·.1))=I.map (·.1):=List.map_map;have kP:((I.map ptA).map (·.1))=I.map (·.1):=List.map_map;have hI':Rise ((I.map itA).map (·.1)):=by rw[kI];exact hI
 have hP':Rise ((I.map ptA).map (·.1)):=by rw[kP];exact hI
 have e2:srtM (I.map itA)=I.map itA:=(srt_eq (rise_keys hI') (List.Perm.refl _) hI').symm;have e3:sortL (D.map (·.1))=D.map (·.1):=sort_id hD;unfold packV;dsimp only;rw[e1,e2,e3,List.flatMap_map,List.flatMap_map,List.length_map];have f1:E.flatMap packEnt=E.flatMap entE:=flat_congr λe _=>by unfold packEnt entE encL;simp only[List.append_assoc]
 have f2:(I.flatMap λi=>packInt (I.map ptA) (itA i))=I.flatMap intE:=flat_congr λi hi=>packI_eq ((lkL_iff (rise_keys hP')).2 (List.mem_map_of_mem (f:=ptA) hi)) (hp i hi)
 have f3:(D.flatMap λd=>packDone D d.1)=D.flatMap dnE:=flat_congr λd hd=>by
  unfold packDone;rw[(lkL_iff (rise_keys hD)).2 hd];rfl
 rw[f1,f2,f3];unfold encJ encL;simp only[List.append_assoc]
theorem put_fold :∀(D acc:List (Int×Int)),Rise ((acc++D).map (·.1))→D.foldl (λm d=>putL m d.1 d.2) acc=acc++D
 | [],acc,_=>by simp
 |d::D,acc,h=>by
  have hl:lastLt (acc.map (·.1)) d.1=true:=by
   rw[List.map_append,List.map_cons] at h;exact lastLt_rise h
  have hr:Rise (acc.map (·.1)):=by rw[List.map_append] at h;exact (List.pairwise_append.1 h).1
  rw[List.foldl_cons,putL_none (rise_none hr hl),put_fold D _ (by rw[List.append_assoc];exact h),List.append_assoc];rfl
structure OKJ (dim m:Int)(E:List (Int×VL))(I:List IR)(D:List (Int×Int)):Prop where
 hm:0≤m∧m≤(1099511627776:Nat)
 hE:E.length≤1048576∧∀e∈E,okEr e
 hI:I.length≤1048576∧∀i∈I,okIr 4 15 16 i
 hD:D.length≤1048576∧∀d∈D,okDr d∧d.2≠0
 rE:Rise (E.map (·.1))
 rI:Rise (I.map (·.1))
 rD:Rise (D.map (·.1))
 ld:loadE (VS0 dim) m E=0
 fo:foldI dim I ⟨loadS (VS0 dim) m E,[],[]⟩=some ⟨⟨dim,E,I.map itA,m⟩,I.map ptA,[]⟩
theorem loadS_eq {dim m:Int}{E:List (Int×VL)}(h:loadE (VS0 dim) m E=0):loadS (VS0 dim) m E=⟨dim,E,[],m⟩:=by
 unfold loadS VS0;unfold VS0 at h;rw[if_pos h]
theorem okI_16 {i:IR}(h:okIr 4 15 16 i):okIr 4 16 16 i:=⟨h.1,h.2.1,⟨h.2.2.1.1,λp hp=>by have:=h.2.2.1.2 p hp;omega⟩,h.2.2.2⟩
theorem OKJ.pack {dim m:Int}{E:List (Int×VL)}{I:List IR}{D:List (Int×Int)}(h:OKJ dim m E I D):packV (JF dim m E I D)=encJ m E I D:=packV_enc h.rE h.rI h.rD λi hi p hp=>by have:=(h.hI.2 i hi).2.2.1.2 p hp;omega
theorem OKJ.un {dim m:Int}{E:List (Int×VL)}{I:List IR}{D:List (Int×Int)}(h:OKJ dim m E I D):unJ4 dim (encJ m E I D)=some (JF dim m E I D):=by
 unfold unJ4;rw[unR_fwd h.hm h.hE ⟨h.hI.1,λi hi=>okI_16 (h.hI.2 i hi)⟩ ⟨h.hD.1,λd hd=>(h.hD.2 d hd).1⟩];dsimp only;rw[if_pos ⟨rfl,riseB_iff.2 h.rD,riseB_iff.2 h.rE,List.all_eq_true.2 λd hd=>decide_eq_true (h.hD.2 d hd).2,h.ld⟩,h.fo];dsimp only;rw[put_fold D [] (by rw[List.nil_append];exact h.rD),List.nil_append,if_pos ⟨riseB_iff.2 h.rI,h.pack⟩]
theorem OKJ.ref {dim m:Int}{E:List (Int×VL)}{I:List IR}{D:List (Int×Int)}(h:OKJ dim m E I D):refUJ dim (encJ m E I D)=some (JF dim m E I D):=by
 have gE:=flat_ge entE_ne E;have gI:=flat_ge intE_ne I;have gD:=flat_ge dnE_ne D;unfold refUJ encJ;rw[(num_codec (most:=1099511627776) zd).fwd _ _ _ h.hm];unfold encL;dsimp only;rw[List.append_assoc,cntF_fwd h.hE.1 (by rw[List.length_append];omega)];dsimp only;rw[chF_fwd E [] h.hE.2 (by rw[List.nil_append];exact h.rE),List.nil_append];unfold refA;dsimp only;rw[if_pos ⟨rfl,h.ld⟩,List.append_assoc,cntF_fwd h.hI.1 (by rw[List.length_append];omega)];dsimp only;have kP:((I.map ptA).map (·.1))=I.map (·.1):=List.map_map;rw[refI_fwd I _ _ (λi hi=>okI_16 (h.hI.2 i hi)) h.fo (by dsimp only;rw[List.nil_append,kP];exact h.rI) rfl];unfold refX;dsimp only;rw[cntF_fwd h.hD.1 gD];dsimp only;have:=refN_fwd (rest:=[]) (g:=true) D [] h.hD.2 (by rw[List.nil_append];exact h.rD);rw[List.append_nil,List.nil_append] at this;rw[this];unfold refQ;dsimp only;rw[if_pos ⟨rfl,rfl⟩]
theorem un_okj {dim:Int}{bs:List UInt8}{F:JS}(h:unJ4 dim bs=some F):∃m E I D,OKJ dim m E I D∧bs=encJ m E I D∧F=JF dim m E I D:=by
 unfold unJ4 at h
 split at h
 ·rename_i hc
  obtain ⟨c1,c2,c3,c4,c5⟩:=hc;have hb:(unR bs).s.bad=0:=by
   unfold endF at c1
   by_cases h1:(unR bs).s.bad≠0
   ·rw[if_pos h1] at c1;exact c1
   ·exact Decidable.not_not.1 h1
  obtain ⟨i1,i2,i3,i4⟩:=unR_inv hb
  split at h
  ·cases h
  ·rename_i j hj
   split at h
   ·rename_i hp
    obtain ⟨p1,p2⟩:=hp
    cases h
    have kP:(((unR bs).I.map ptA).map (·.1))=(unR bs).I.map (·.1):=List.map_map;have hr:=foldI_res _ _ _ hj (by dsimp only;rw[List.nil_append,kP];exact riseB_iff.1 p1);dsimp only at hr;rw[loadS_eq c5,List.nil_append] at hr;dsimp only at hr;rw[List.nil_append] at hr;have hd:=put_fold (unR bs).D [] (by rw[List.nil_append];exact riseB_iff.1 c2);rw[List.nil_append] at hd;rw[hd,hr] at p2 ⊢;have hpt:∀i∈(unR bs).I,partsV i.2.2.1=true:=by
     have key:∀(l:List IR) (j r:JS),foldI dim l j=some r→∀i∈l,partsV i.2.2.1=true:=λl=>by
      induction l with
      |nil=>exact λ_ _ _ _ h=>by cases h
      |cons a l ih=>
       intro j r h i hi;rw[foldI_cons] at h
       split at h
       ·rename_i hc
        rcases List.mem_cons.1 hi with rfl|hi
        ·exact hc.1
        ·exact ih _ _ h i hi
       ·cases h
     exact key _ _ _ hj
    have ho:OKJ dim (unR bs).m (unR bs).E (unR bs).I (unR bs).D:=⟨i1,i2,⟨i3.1,λi hi=>⟨(i3.2 i hi).1,(i3.2 i hi).2.1,⟨(i3.2 i hi).2.2.1.1,parts_15 (hpt i hi)⟩,(i3.2 i hi).2.2.2⟩⟩,⟨i4.1,λd hd=>⟨i4.2 d hd,by simpa using List.all_eq_true.1 c4 d hd⟩⟩,riseB_iff.1 c3,riseB_iff.1 p1,riseB_iff.1 c2,c5,by rw[hj,hr]⟩;refine ⟨_,_,_,_,ho,?_,rfl⟩;rw[←ho.pack];exact p2.symm
   ·cases h
 ·cases h
theorem ref_okj {dim:Int}{bs:List UInt8}{F:JS}(h:refUJ dim bs=some F):∃m E I D,OKJ dim m E I D∧bs=encJ m E I D:=by
 unfold refUJ refA at h
 split at h
 ·rename_i hc
  obtain ⟨c1,c2⟩:=hc;unfold refX at h
  split at h
  ·cases h
  ·rename_i t ht
   unfold refQ at h
   split at h
   ·cases h
   ·rename_i u hu
    split at h
    ·rename_i hd
     obtain ⟨d1,d2⟩:=hd;obtain ⟨b1,ds,e1,e2,e3,e4,e5⟩:=refN_inv _ _ _ hu d1 List.Pairwise.nil;dsimp only at b1 e1 e3;rw[List.nil_append] at e1;obtain ⟨f1,f2,f3⟩:=cntF_inv b1;obtain ⟨g1,is,g2,g3,g4,g5,g6,g7⟩:=refI_inv (dim:=dim) _ _ _ ht f1 List.Pairwise.nil rfl (by dsimp only;rw[loadS_eq c2]);dsimp only at g1 g3 g5 g6;rw[List.nil_append] at g6;obtain ⟨k1,k2,k3⟩:=cntF_inv g1;obtain ⟨l1,es,l2,l3,l4,l5,l6⟩:=chF_inv _ _ c1 List.Pairwise.nil;dsimp only at l1 l2 l4;rw[List.nil_append] at l2;obtain ⟨n1,n2,n3⟩:=cntF_inv l1;obtain ⟨q1,q2,q3⟩:=(num_codec (most:=1099511627776) zd).inv (rs0 bs) n1;have kP:((is.map ptA).map (·.1))=is.map (·.1):=List.map_map;have rI:Rise (is.map (·.1)):=by rw[g6,kP] at g7;exact g7
     rw[l2] at l6 c2 g5;have hr:=foldI_res _ _ _ g5 (by dsimp only;rw[List.nil_append,kP];exact rI);rw[loadS_eq c2] at hr;dsimp only at hr;rw[List.nil_append,List.nil_append] at hr;rw[e1] at e5;have hnil:u.1.bs=[]:=List.eq_nil_of_length_eq_zero d2;refine ⟨_,es,is,ds,⟨q3,⟨by omega,l5⟩,⟨by omega,g4⟩,⟨by omega,e4⟩,l6,rI,e5,c2,by rw[g5,hr]⟩,?_⟩;unfold encJ encL
     show (rs0 bs).bs=_
     rw[q2,n2,l4,k2,g3,f2,e3,hnil,l3,g2,e2,List.append_nil];simp only[List.append_assoc]
    ·cases h
 ·cases h
theorem refUJ_eq (dim:Int)(bs:List UInt8):refUJ dim bs=unJ4 dim bs:=by
 cases h:unJ4 dim bs with
 |some F=>
  obtain ⟨m,E,I,D,ho,rfl,rfl⟩:=un_okj h;exact ho.ref
 |none=>
  cases h2:refUJ dim bs with
  |none=>rfl
  |some F=>
   obtain ⟨m,E,I,D,ho,rfl⟩:=ref_okj h2;rw[ho.un] at h
   cases h
structure JPX (j:JS):Prop where
 g:GS j.v
 it:∀i∈j.v.its,(0≤i.1∧i.1≤18446744073709551615)∧(0≤i.2.1∧i.2.1≤1099511627776)∧checkV j.v.dim i.2.2=0∧∀o∈i.2.2,0≤o.1
 ch:∀c∈j.v.ch,0≤c.1
 pt:∀u∈j.parts,u.2.length≤4∧partsV u.2=true
 dn:∀d∈j.done,(0≤d.1∧d.1≤18446744073709551615)∧0<d.2∧d.2≤1099511627776
 pk:∀t,(lkL j.parts t).isSome=(lkL j.v.its t).isSome
theorem JPX.zero (dim:Int):JPX ⟨⟨dim,[],[],0⟩,[],[]⟩:=⟨⟨λ_ h=>(by cases h),λ_ h=>(by cases h),(show (0:Int)≤_ by decide)⟩,λ_ h=>(by cases h),λ_ h=>(by cases h),λ_ h=>(by cases h),λ_ h=>(by cases h),λ_=>rfl⟩
theorem check_ops {dim:Int}{ops:VL}(h:checkV dim ops=0):0<ops.length∧ops.length≤16∧(ops.map (·.1)).Nodup∧∀o∈ops,o.1≤1099511627776∧(0<o.2.length→rightV o.2=true∧(o.2.length:Int)=dim):=by
 unfold checkV at h
 by_cases g1:dim<1∨8<dim
 ·rw[if_pos g1] at h;cases h
 rw[if_neg g1] at h
 by_cases g2:ops.length=0
 ·rw[if_pos g2] at h;cases h
 rw[if_neg g2] at h
 by_cases g3:16<ops.length
 ·rw[if_pos g3] at h;cases h
 rw[if_neg g3] at h
 by_cases g4:ops.any (badO dim)=true
 ·rw[if_pos g4] at h;cases h
 rw[if_neg g4] at h
 by_cases g5:(ops.map (·.1)).Nodup
 ·refine ⟨by omega,by omega,g5,λo ho=> ?_⟩
  have g6:=List.any_eq_false.1 (by simpa using g4) o ho;unfold badO at g6;simp only[Bool.or_eq_true,Bool.and_eq_true,decide_eq_true_eq,Bool.not_eq_true',not_or,not_and] at g6;refine ⟨by omega,λhl=> ?_⟩;have g7:=g6.2 hl;exact ⟨by simpa using g7.1,by have:=g7.2;omega⟩
 ·rw[if_neg g5] at h;cases h
theorem lock_after {st:VS}{t a:Int}{ops:VL}(h:lockE st t a ops=0):a≤1099511627776∧lkL st.its t=none∧∀o∈ops,∀i∈st.its,holdsV i.2.2 o.1=false:=by
 unfold lockE at h
 by_cases h1:1099511627776<a
 ·rw[if_pos h1] at h;cases h
 rw[if_neg h1] at h
 by_cases h2:checkV st.dim ops≠0
 ·rw[if_pos h2] at h;exact absurd h h2
 rw[if_neg h2] at h
 cases hz:lkL st.its t with
 |some w=>rw[hz] at h;cases h
 |none=>
  rw[hz] at h;rw[if_neg zd] at h
  by_cases h3:(ops.any λo=>st.its.any λi=>holdsV i.2.2 o.1)=true
  ·rw[if_pos h3] at h;cases h
  ·refine ⟨by omega,rfl,λo ho i hi=> ?_⟩
   have h4:=List.any_eq_false.1 ((Bool.not_eq_true _).mp h3) o ho;have h5:=List.any_eq_false.1 ((Bool.not_eq_true _).mp h4) i hi;exact (Bool.not_eq_true _).mp h5
theorem GS.lock {st:VS}(h:GS st){t a:Int}{ops:VL}(hE:lockE st t a ops=0):GS (lockS st t a ops):=by
 rw[lockS_eq hE];refine ⟨h.c,λi hi=> ?_,h.m⟩
 rcases List.mem_append.1 hi with hi|hi
 ·exact h.i i hi
 ·rw[List.mem_singleton.1 hi]
  exact (check_ops (lock_check hE)).2.2.2
theorem apply_eq {st:VS}{t s:Int}(hE:applyE st t s=0):∃i,lkL st.its t=some i∧applyS st t s={st with ch:=applyC s st.ch i.2,its:=delL st.its t}∧0≠s∧s≤1099511627776:=by
 unfold applyE at hE;unfold applyS applyE
 cases hz:lkL st.its t with
 |none=>rw[hz] at hE;dsimp only at hE;split at hE<;>cases hE
 |some i=>
  rw[hz] at hE;dsimp only at hE ⊢
  by_cases h1:s=0∨1099511627776<s∨s≤i.1
  ·rw[if_pos h1] at hE;cases hE
  ·exact ⟨i,rfl,by rw[if_pos hE],λe=>h1 (.inl e.symm),by omega⟩
theorem lkL_del2 {κ α:Type}[DecidableEq κ](m:List (κ×α))(x y:κ):lkL (delL m x) y=if y=x then none else lkL m y:=by
 by_cases h:y=x
 ·rw[if_pos h]
  subst h;exact lkL_none λu hu e=>by
   have:=(List.mem_filter.1 hu).2
   simp[e] at this
 ·rw[if_neg h];exact lkL_del x y h
theorem lk_snoc {α:Type}{m:List (Int×α)}{t:Int}{a:α}(h:lkL m t=none)(x:Int):lkL (m++[(t,a)]) x=if x=t then some a else lkL m x:=by
 unfold lkL at h ⊢;rw[List.find?_append]
 by_cases hx:x=t
 ·subst hx
  have h2:m.find? (λu=>decide (u.1=x))=none:=by
   cases hz:m.find? (λu=>decide (u.1=x)) with
   |none=>rfl
   |some w=>rw[hz] at h;cases h
  simp[h2]
 ·simp[hx,Ne.symm hx]
theorem JPX.app {j:JS}{k:Nat}(hj:JOW j k)(h:JPX j){n:NA}(u:NumA n)(no:∀o∈n.ops,0≤o.1):JPX (appS j n):=by
 have u1:=u.txn;have u2:=u.after;have u3:=u.stamp;have u4:=u.mark;unfold appS
 split
 ·exact h
 rename_i hE;have hE:appE j n=0:=Decidable.not_not.1 hE;have hr:rightN n=true:=by
  cases hz:rightN n with
  |true=>rfl
  |false=>unfold appE at hE;rw[if_pos hz] at hE;cases hE
 have hro:=right_ops hr;have hpv:partsV n.parts=true:=by
  unfold rightN boundN at hr;simp only[Bool.and_eq_true] at hr;exact hr.2.1.1.2
 unfold appE at hE;rw[if_neg (by rw[hr];decide)] at hE
 split
 ·rename_i c1
  rw[if_pos c1] at hE;obtain ⟨l1,l2,l3⟩:=lock_after hE;have hL:=lockS_eq hE;refine ⟨h.g.lock hE,λi hi=> ?_,?_,λv hv=> ?_,h.dn,λt=> ?_⟩
  ·rw[hL] at hi ⊢
   rcases List.mem_append.1 hi with hi|hi
   ·exact h.it i hi
   ·rw[List.mem_singleton.1 hi]
    exact ⟨u1,⟨u2.1,l1⟩,lock_check (st:=j.v) hE,no⟩
  ·rw[hL];exact h.ch
  ·rcases putL_mem hv with hv|rfl
   ·exact h.pt v hv
   ·exact ⟨hro.1,hpv⟩
  ·dsimp only
   rw[hL];dsimp only;rw[lkL_put hj.kp,lk_snoc l2]
   by_cases ht:t=n.txn
   ·rw[if_pos ht,if_pos ht];rfl
   ·rw[if_neg ht,if_neg ht];exact h.pk t
 rename_i c1;rw[if_neg c1] at hE
 split
 ·rename_i c2
  rw[if_pos c2] at hE;obtain ⟨i,hi,hA,hs0,hs1⟩:=apply_eq hE;have hG:GS (applyS j.v n.txn n.stamp):=h.g.do_ hj.w ⟨5,n.txn,0,none,0,[],n.stamp,0,0,none,0,[]⟩ u3.1;refine ⟨hG,λx hx=> ?_,λc hc=> ?_,λv hv=>h.pt v (List.mem_filter.1 hv).1,λd hd=> ?_,λt=> ?_⟩
  ·rw[hA] at hx ⊢
   exact h.it x (List.mem_filter.1 hx).1
  ·rw[hA] at hc
   rcases applyC_mem hj.w.k1 (hj.w.wf.io _ (lk_memL hi)).2.1 hc with hc|⟨o,ho,rfl⟩
   ·exact h.ch c hc
   ·exact (h.it _ (lk_memL hi)).2.2.2 o ho
  ·rcases putL_mem hd with hd|rfl
   ·exact h.dn d hd
   ·exact ⟨u1,by dsimp only;omega,hs1⟩
  ·dsimp only
   rw[hA];dsimp only;rw[lkL_del2,lkL_del2]
   split
   ·rfl
   ·exact h.pk t
 split
 ·refine ⟨h.g.do_ hj.w ⟨4,n.txn,0,none,0,[],n.stamp,0,0,none,0,[]⟩ u3.1,λx hx=>h.it x (List.mem_filter.1 hx).1,h.ch,λv hv=>h.pt v (List.mem_filter.1 hv).1,h.dn,λt=> ?_⟩
  dsimp only;rw[lkL_del2,lkL_del2]
  split
  ·rfl
  ·exact h.pk t
 split
 ·have hG:GS (sweepS j.v n.mark):=h.g.do_ hj.w ⟨8,n.txn,0,none,0,[],n.mark,0,0,none,0,[]⟩ u4.1
  have hi:(sweepS j.v n.mark).its=j.v.its:=by unfold sweepS;split<;>rfl
  have hd:(sweepS j.v n.mark).dim=j.v.dim:=by unfold sweepS;split<;>rfl
  refine ⟨hG,λx hx=> ?_,λc hc=> ?_,h.pt,h.dn,λt=> ?_⟩
  ·dsimp only at hx ⊢
   rw[hi] at hx;rw[hd];exact h.it x hx
  ·dsimp only at hc
   unfold sweepS at hc
   split at hc
   ·exact h.ch c hc
   ·obtain ⟨c0,h0,e0,_⟩:=swF_mem (u:=(j.v.ch,[])) hc
    rw[e0];exact h.ch c0 h0
  ·dsimp only
   rw[hi];exact h.pk t
 ·exact h
theorem JPX.step {j:JS}{k:Nat}(hj:JOW j k)(h:JPX j){n:NA}(u:NumA n)(no:∀o∈n.ops,0≤o.1)(f:Int)(w raw:Bool):JPX (stepS j f n w raw):=by
 have z0:(0:Int)≤0∧(0:Int)≤18446744073709551615:=by decide
 have z1:(0:Int)≤9223372036854775807:=by decide
 unfold stepS
 split
 ·exact h.app hj u no
 split
 ·rcases plan_one hj u.txn.1 f with he|⟨r,he,_,_,_,hr⟩
  ·rw[he];exact h
  ·rw[he,foldl_one]
   rcases hr with ⟨rfl,_⟩|rfl|rfl
   ·exact h.app hj ⟨by show (0:Int)≤12∧(12:Int)≤255;decide,u.txn,u.batch,u.stamp,u.after,u.mark,u.query,u.id,u.k,u.ef,u.code,u.who⟩ no
   ·exact h.app hj ⟨by show (0:Int)≤13∧(13:Int)≤255;decide,u.txn,z0,u.stamp,z0,z0,z0,z0,z1,z1,z1,z1⟩ λ_ h=>by cases h
   ·exact h.app hj ⟨by show (0:Int)≤14∧(14:Int)≤255;decide,u.txn,z0,z0,z0,z0,z0,z0,z1,z1,z1,z1⟩ λ_ h=>by cases h
 ·exact h
theorem srt_mem {α:Type}{m:List (Int×α)}(hk:keysOK m):(srtM m).Perm m:=by
 unfold srtM;refine ((sortL_perm _).filterMap _).trans ?_;have:∀l:List (Int×α),(∀u∈l,u∈m)→(l.map (·.1)).filterMap (λk=>(lkL m k).map λa=>(k,a))=l:=λl=>by
  induction l with
  |nil=>exact λ_=>rfl
  |cons u l ih=>
   intro h;rw[List.map_cons,List.filterMap_cons,(lkL_iff hk).2 (h u List.mem_cons_self)];dsimp only[Option.map_some];rw[ih λv hv=>h v (List.mem_cons_of_mem _ hv)]
 rw[this m λ_ h=>h]
theorem srt_rise {α:Type}{m:List (Int×α)}(hk:keysOK m):Rise ((srtM m).map (·.1)):=by
 have h1:((srtM m).map (·.1))=sortL (m.map (·.1)):=by
  unfold srtM;have:∀l:List Int,(∀x∈l,∃a,lkL m x=some a)→(l.filterMap λk=>(lkL m k).map λa=>(k,a)).map (·.1)=l:=λl=>by
   induction l with
   |nil=>exact λ_=>rfl
   |cons x l ih=>
    intro h;obtain ⟨a,ha⟩:=h x List.mem_cons_self;rw[List.filterMap_cons,ha];dsimp only[Option.map_some];rw[List.map_cons,ih λy hy=>h y (List.mem_cons_of_mem _ hy)]
  refine this _ λx hx=> ?_
  obtain ⟨u,hu,rfl⟩:=List.mem_map.1 ((sortL_perm _).mem_iff.1 hx);exact ⟨u.2,(lkL_iff hk).2 hu⟩
 rw[h1];have h2:(sortL (m.map (·.1))).Nodup:=(sortL_perm _).nodup_iff.2 hk;exact List.Pairwise.imp₂ (λa b h3 h4=>by omega) (sortL_sorted _) h2
def canI (j:JS):List IR:=(srtM j.v.its).map λi=>(i.1,i.2.1,(lkL j.parts i.1).getD [],i.2.2)
def canD (j:JS):List (Int×Int):=(sortL (j.done.map (·.1))).map λt=>(t,(lkL j.done t).getD 0)
abbrev canJ (j:JS):JS:=JF j.v.dim j.v.mark (srtM j.v.ch) (canI j) (canD j)
theorem holds_iff {ops:VL}{x:Int}:holdsV ops x=true↔x∈ops.map (·.1):=by
 unfold holdsV;rw[List.any_eq_true]
 constructor
 ·rintro ⟨o,ho,he⟩
  exact List.mem_map.2 ⟨o,ho,by simpa using he⟩
 ·intro h
  obtain ⟨o,ho,rfl⟩:=List.mem_map.1 h;exact ⟨o,ho,by simp⟩
theorem foldI_ok {dim m:Int}{E:List (Int×VL)}:∀(is ps:List IR),Rise ((ps++is).map (·.1))→(∀i∈is,partsV i.2.2.1=true∧i.2.1≤1099511627776∧checkV dim i.2.2.2=0)→
  (∀a∈ps++is,∀b∈ps++is,a.1≠b.1→∀x∈a.2.2.2.map (·.1),x∉b.2.2.2.map (·.1))→foldI dim is ⟨⟨dim,E,ps.map itA,m⟩,ps.map ptA,[]⟩=some ⟨⟨dim,E,(ps++is).map itA,m⟩,(ps++is).map ptA,[]⟩
 | [],ps,_,_,_=>by simp[foldI]
 |i::is,ps,hr,hi,hd=>by
  obtain ⟨h1,h2,h3⟩:=hi i List.mem_cons_self;have hr2:=hr;rw[List.map_append,List.map_cons] at hr2;have hl:=lastLt_rise hr2;have hrp:=(List.pairwise_append.1 hr2).1;have kP:((ps.map ptA).map (·.1))=ps.map (·.1):=List.map_map;have kI:((ps.map itA).map (·.1))=ps.map (·.1):=List.map_map;have hnP:∀u∈ps.map ptA,u.1≠i.1:=rise_none (by rw[kP];exact hrp) (by rw[kP];exact hl);have hnI:∀u∈ps.map itA,u.1≠i.1:=rise_none (by rw[kI];exact hrp) (by rw[kI];exact hl);have hE:lockE ⟨dim,E,ps.map itA,m⟩ i.1 i.2.1 i.2.2.2=0:=by
   unfold lockE;dsimp only;rw[if_neg zo,if_neg (by rw[h3];decide),lkL_none hnI,if_neg zd,if_neg];intro ha;obtain ⟨o,ho,ha⟩:=List.any_eq_true.1 ha;obtain ⟨u,hu,ha⟩:=List.any_eq_true.1 ha;obtain ⟨p,hp,rfl⟩:=List.mem_map.1 hu;exact hd i (by simp) p (by simp[hp]) (λe=>hnI _ hu e.symm) o.1 (List.mem_map_of_mem ho) (holds_iff.1 ha)
  have e1:ps++i::is=(ps++[i])++is:=by simp
  rw[foldI_cons,if_pos ⟨h1,h3,hE⟩,lockS_eq hE,putL_none hnP];have:=foldI_ok is (ps++[i]) (by rw[←e1];exact hr) (λx hx=>hi x (List.mem_cons_of_mem _ hx)) (by rw[←e1];exact hd) (E:=E) (m:=m);rw[←e1,List.map_append,List.map_append] at this;exact this
theorem vec_ok {v:List Int}(h:0<v.length→rightV v=true):v.length≤8∧∀n∈v,i32ok n:=by
 by_cases h0:0<v.length
 ·have h1:=h h0
  unfold rightV at h1;simp only[Bool.and_eq_true,decide_eq_true_eq,Bool.not_eq_true'] at h1;refine ⟨h1.1.2,λn hn=> ?_⟩;have:=List.any_eq_false.1 h1.2 n hn;unfold badC at this;simp only[Bool.or_eq_true,decide_eq_true_eq,not_or] at this;exact ⟨by omega,by omega⟩
 ·have:v=[]:=List.eq_nil_of_length_eq_zero zo
  subst this;exact ⟨Nat.zero_le _,λ_ h=>by cases h⟩
theorem mem_srt {α:Type}{m:List (Int×α)}(hk:keysOK m){u:Int×α}(h:u∈srtM m):u∈m:=(srt_mem hk).mem_iff.1 h
theorem canD_mem {j:JS}(hk:keysOK j.done){d:Int×Int}(h:d∈canD j):d∈j.done:=by
 obtain ⟨t,ht,rfl⟩:=List.mem_map.1 h;obtain ⟨u,hu,rfl⟩:=List.mem_map.1 ((sortL_perm _).mem_iff.1 ht);rw[(lkL_iff hk).2 hu];exact hu
theorem canD_rise {j:JS}(hk:keysOK j.done):Rise ((canD j).map (·.1)):=by
 have e:(canD j).map (·.1)=sortL (j.done.map (·.1)):=by
  unfold canD;rw[List.map_map];exact List.map_id' _
 rw[e];have h2:(sortL (j.done.map (·.1))).Nodup:=(sortL_perm _).nodup_iff.2 hk;exact List.Pairwise.imp₂ (λa b h3 h4=>by omega) (sortL_sorted _) h2
theorem can_okj {j:JS}{k:Nat}(hk:k≤1000)(hj:JOW j k)(h:JPX j):OKJ j.v.dim j.v.mark (srtM j.v.ch) (canI j) (canD j):=by
 have hw:=hj.w.wf;have kc:=hj.w.k1;have ki:=hj.w.k2;have kI:(canI j).map (·.1)=(srtM j.v.its).map (·.1):=by unfold canI;rw[List.map_map];rfl
 have hparts:∀t,((lkL j.parts t).getD []).length≤4∧partsV ((lkL j.parts t).getD [])=true:=λt=>by
  cases hz:lkL j.parts t with
  |none=>exact ⟨Nat.zero_le _,rfl⟩
  |some p=>exact h.pt _ (lk_memL hz)
 have hvr:∀v:Int×List Int,0≤v.1→v.1≤1099511627776→(0<v.2.length→rightV v.2=true)→okVr v:=λv a b c=>⟨⟨a,by omega⟩,vec_ok c⟩
 refine ⟨⟨hj.m,by have:=h.g.m;omega⟩,⟨?_,λe he=> ?_⟩,⟨?_,λi hi=> ?_⟩,⟨?_,λd hd=> ?_⟩,srt_rise kc,by rw[kI];exact srt_rise ki,canD_rise hj.kd,?_,?_⟩
 ·rw[(srt_mem kc).length_eq]
  have:=hw.cl;omega
 ·have hm:=mem_srt kc he
  have hg:=h.g.c e hm;have hco:=hw.co e hm;refine ⟨⟨h.ch e hm,by have:=hg.i;omega⟩,by omega,λv hv=> ?_⟩;have:=hg.p.v v hv;exact hvr v zo this.2.1 this.2.2
 ·unfold canI
  rw[List.length_map,(srt_mem ki).length_eq];have:=hw.il;omega
 ·obtain ⟨i0,hi0,rfl⟩:=List.mem_map.1 hi
  have hm:=mem_srt ki hi0;obtain ⟨g1,g2,g3,g4⟩:=h.it i0 hm;obtain ⟨q1,q2,q3,q4⟩:=check_ops g3;refine ⟨⟨g1.1,by dsimp only;omega⟩,⟨g2.1,by dsimp only;omega⟩,⟨(hparts i0.1).1,λp hp=>by have:=parts_15 (hparts i0.1).2 p hp;omega⟩,q2,λo ho=>hvr o (g4 o ho) (q4 o ho).1 λhl=>((q4 o ho).2 hl).1⟩
 ·have:(canD j).length=j.done.length:=by unfold canD;rw[List.length_map,sortL_len,List.length_map]
  have:=hj.dl;omega
 ·have hm:=canD_mem hj.kd hd
  obtain ⟨g1,g2,g3⟩:=h.dn d hm;exact ⟨⟨⟨g1.1,by omega⟩,by omega,by omega⟩,by omega⟩
 ·exact load_again (rise_keys (srt_rise kc)) (λe he=>h.g.c e (mem_srt kc he)) h.g.m
 ·rw[loadS_eq (load_again (rise_keys (srt_rise kc)) (λe he=>h.g.c e (mem_srt kc he)) h.g.m)]
  have := foldI_ok (dim := j.v.dim) (m := j.v.mark) (E := srtM j.v.ch) (canI j) [] (by rw [List.nil_append,kI];exact srt_rise ki) (fun i hi => by
   obtain ⟨i0,hi0,rfl⟩ := List.mem_map.1 hi;have hm := mem_srt ki hi0;obtain ⟨g1,g2,g3,g4⟩ := h.it i0 hm;exact ⟨(hparts i0.1).2,g2.2,g3⟩) (fun a ha b hb hne x hx => by
   rw[List.nil_append] at ha hb;obtain ⟨a0,ha0,rfl⟩:=List.mem_map.1 ha;obtain ⟨b0,hb0,rfl⟩:=List.mem_map.1 hb;exact hj.dj a0 (mem_srt ki ha0) b0 (mem_srt ki hb0) hne x hx)
  rw[List.nil_append] at this;exact this
theorem can_pack {j:JS}{k:Nat}(hk:k≤1000)(hj:JOW j k)(h:JPX j):packV j=encJ j.v.mark (srtM j.v.ch) (canI j) (canD j):=by
 have ho:=can_okj hk hj h;have f1:(srtM j.v.ch).flatMap packEnt=(srtM j.v.ch).flatMap entE:=flat_congr λe _=>by unfold packEnt entE encL;simp only[List.append_assoc]
 have f2:(srtM j.v.its).flatMap (packInt j.parts)=(canI j).flatMap intE:=by
  unfold canI;rw[List.flatMap_map];refine flat_congr λi hi=> ?_
  have hp:∀p∈(lkL j.parts i.1).getD [],0≤p∧p≤15:=λp hp=>by
   have:=(ho.hI.2 _ (List.mem_map_of_mem (f:=λi:Int×Int×VL=>(i.1,i.2.1,(lkL j.parts i.1).getD [],i.2.2)) hi)).2.2.1.2 p hp;omega
  have:=packI_eq (parts:=[(i.1,(lkL j.parts i.1).getD [])]) (i:=(i.1,i.2.1,(lkL j.parts i.1).getD [],i.2.2)) (by unfold lkL;simp) hp;rw[←this];unfold packInt;dsimp only;rw[show lkL [(i.1,(lkL j.parts i.1).getD [])] i.1=some ((lkL j.parts i.1).getD []) by unfold lkL;simp];rfl
 have f3:(sortL (j.done.map (·.1))).flatMap (packDone j.done)=(canD j).flatMap dnE:=by
  unfold canD;rw[List.flatMap_map]
 have l1:(canI j).length=(srtM j.v.its).length:=by unfold canI;rw[List.length_map]
 have l2:(canD j).length=j.done.length:=by unfold canD;rw[List.length_map,sortL_len,List.length_map]
 unfold packV;rw[f1,f2,f3];unfold encJ encL;rw[l1,l2];simp only[List.append_assoc]
theorem can_un {j:JS}{k:Nat}(hk:k≤1000)(hj:JOW j k)(h:JPX j):unJ4 j.v.dim (packV j)=some (canJ j):=by
 rw[can_pack hk hj h];exact (can_okj hk hj h).un
theorem flat_mem {α:Type}{e:α→List UInt8}{x:α}:∀{xs:List α},x∈xs→(e x).length≤(xs.flatMap e).length
 |y::ys,h=>by
  rw[List.flatMap_cons,List.length_append]
  rcases List.mem_cons.1 h with rfl|h
  ·omega
  ·have:=flat_mem (e:=e) h;omega
theorem encL_ge {α:Type}{e:α→List UInt8}(hne:∀x,(e x).length≠0)(xs:List α):xs.length≤(encL e xs).length:=by
 have:=flat_ge hne xs;unfold encL;rw[List.length_append];omega
theorem unR_size {bs:List UInt8}(h:(unR bs).s.bad=0):(unR bs).E.length≤bs.length∧(∀e∈(unR bs).E,e.2.length≤bs.length)∧(unR bs).I.length≤bs.length∧(unR bs).D.length≤bs.length:=by
 unfold unR at h ⊢;dsimp only at h ⊢;have iM:=(num_codec (most:=1099511627776) zd).inv (rs0 bs);generalize numD 1099511627776 (rs0 bs)=A at iM h ⊢;have iE:=λ(hb:(decB 1048576 entB A.2).2.bad=0) h0=>decB_eq (λs h=>entB_mono h) (λs h h0=>entB_eq h h0) (most:=1048576) (s:=A.2) hb h0
 generalize decB 1048576 entB A.2=Bq at iE h ⊢;have iI:=λ(hb:(decB 1048576 intB Bq.2).2.bad=0) h0=>decB_eq (d':=intB) (λs h=>intB_codec.mono h) (λs _ _=>rfl) (most:=1048576) (s:=Bq.2) hb h0
 generalize decB 1048576 intB Bq.2=Cq at iI h ⊢;obtain ⟨c0,c1,c2,c3⟩:=decB_inv dnB_codec h;have hD:(decB 1048576 dnB Cq.2).1.length≤Cq.2.bs.length:=by
  unfold decB at h ⊢;dsimp only at h ⊢;obtain ⟨b1,xs,d1,d2,d3,d4⟩:=brkF_inv dnB_codec _ _ h;dsimp only at b1 d1 d3;obtain ⟨a1,a2⟩:=rdF_inv b1;rw[d1,List.nil_append];have:=flat_ge dnE_ne xs;have e:=congrArg List.length d3;have e2:=congrArg List.length a2;rw[List.length_append] at e e2;omega
 have eI:=iI c0 c1;have jI:=(list_codec intB_codec (most:=1048576) zd).inv Bq.2 (by rw[←eI];exact c0);rw[←eI] at jI;have lI:=congrArg List.length jI.2.1;have gI:=encL_ge intE_ne Cq.1;have ce0:Bq.2.bs.length≠0:=by
  rw[jI.2.1,List.length_append];have:=encL_ne intE Cq.1;omega
 have eE:=iE jI.1 ce0;have jE:=(list_codec entL_codec (most:=1048576) zd).inv A.2 (by rw[←eE];exact jI.1);rw[←eE] at jE;have lE:=congrArg List.length jE.2.1;have gE:=encL_ge entE_ne Bq.1;have lM:=congrArg List.length (iM jE.1).2.1;rw[List.length_append] at lI lE lM;dsimp only at lM;refine ⟨by omega,λe he=> ?_,by omega,by omega⟩;have h1:=flat_mem (e:=entE) he;have h2:(Bq.1.flatMap entE).length≤(encL entE Bq.1).length:=by unfold encL;rw[List.length_append];omega
 have h3:e.2.length≤(entE e).length:=by
  have:=encL_ge verE_ne e.2;rw[List.length_append];omega
 omega
theorem foldI_dj {dim:Int}:∀(is:List IR) (j r:JS),foldI dim is j=some r→DJ j.v→DJ r.v
 | [],j,r,h,hd=>by
  unfold foldI at h
  cases h
  exact hd
 |i::is,j,r,h,hd=>by
  rw[foldI_cons] at h
  split at h
  ·rename_i hc
   refine foldI_dj is _ r h ?_;obtain ⟨l1,l2,l3⟩:=lock_after hc.2.2;dsimp only;rw[lockS_eq hc.2.2];intro a ha b hb hne x hx hy;dsimp only at ha hb
   rcases List.mem_append.1 ha with ha|ha<;>rcases List.mem_append.1 hb with hb|hb
   ·exact hd a ha b hb hne x hx hy
   ·rw[List.mem_singleton.1 hb] at hy
    obtain ⟨o,ho,rfl⟩:=List.mem_map.1 hy;have:=l3 o ho a ha;rw[holds_iff.2 hx] at this
    cases this
   ·rw[List.mem_singleton.1 ha] at hx
    obtain ⟨o,ho,rfl⟩:=List.mem_map.1 hx;have:=l3 o ho b hb;rw[holds_iff.2 hy] at this
    cases this
   ·rw[List.mem_singleton.1 ha,List.mem_singleton.1 hb] at hne
    exact absurd rfl hne
  ·cases h
theorem foldI_check {dim:Int}:∀(is:List IR) (j r:JS),foldI dim is j=some r→∀i∈is,partsV i.2.2.1=true∧checkV dim i.2.2.2=0
 | [],_,_,_,_,h=>by cases h
 |a::is,j,r,h,i,hi=>by
  rw[foldI_cons] at h
  split at h
  ·rename_i hc
   rcases List.mem_cons.1 hi with rfl|hi
   ·exact ⟨hc.1,hc.2.1⟩
   ·exact foldI_check is _ r h i hi
  ·cases h
theorem okj_jow {dim m:Int}{E:List (Int×VL)}{I:List IR}{D:List (Int×Int)}{n:Nat}(h:OKJ dim m E I D)(d1:1≤dim)(d2:dim≤8)(hE:E.length≤16*n)(hc:∀e∈E,e.2.length≤n)(hI:I.length≤n)(hD:D.length≤n):
  JOW (JF dim m E I D) n∧JPK (JF dim m E I D)∧JPX (JF dim m E I D):=by
 obtain ⟨k1,k2,k3,k4⟩:=load_ok h.ld;have kP:((I.map ptA).map (·.1))=I.map (·.1):=List.map_map;have kI:((I.map itA).map (·.1))=I.map (·.1):=List.map_map;have kp:keysOK (I.map ptA):=rise_keys (by rw[kP];exact h.rI);have ki:keysOK (I.map itA):=rise_keys (by rw[kI];exact h.rI);have kd:keysOK D:=rise_keys h.rD;have hck:=foldI_check _ _ _ h.fo;have hdj:DJ (JF dim m E I D).v:=foldI_dj I _ (⟨⟨dim,E,I.map itA,m⟩,I.map ptA,[]⟩:JS) h.fo (by rw[loadS_eq h.ld];exact λ_ h=>by cases h);have hwf:WF (JF dim m E I D).v n:=by
  refine ⟨d1,d2,by dsimp only;rw[List.length_map];exact hI,λi hi=> ?_,hE,λc hm=> ?_⟩
  ·obtain ⟨i0,hi0,rfl⟩:=List.mem_map.1 hi
   obtain ⟨q1,q2,q3,q4⟩:=check_ops (hck i0 hi0).2;exact ⟨q2,q3,λo ho=>⟨((h.hI.2 i0 hi0).2.2.2.2 o ho).2.1,λhl=>((q4 o ho).2 hl).1⟩⟩
  ·have hg:=k2 c hm
   exact ⟨hg.p.s,hc c hm,λv hv=>((h.hE.2 c hm).2.2 v hv).2.1⟩
 refine ⟨⟨⟨hwf,k1,ki⟩,kp,kd,λt s hs=> ?_,h.hm.1,λc hm=>(k2 c hm).n,hdj,by rw[List.length_map];exact hI,hD⟩,⟨by have:=h.hm.2;dsimp only;omega,λi hi=> ?_,λc hm=> ?_,λd hd=> ?_,λu hu=> ?_⟩,⟨⟨k2,λi hi=> ?_,k3⟩,λi hi=> ?_,λc hm=>(h.hE.2 c hm).1.1,λu hu=> ?_,λd hd=> ?_,λt=> ?_⟩⟩
 ·have:=h.hD.2 _ (lk_memL hs)
  omega
 ·obtain ⟨i0,hi0,rfl⟩:=List.mem_map.1 hi
  obtain ⟨g1,g2,g3,g4⟩:=h.hI.2 i0 hi0;exact ⟨by dsimp only;omega,by dsimp only;omega,λo ho=>by have:=(g4.2 o ho).1;omega⟩
 ·obtain ⟨g1,g2,g3⟩:=h.hE.2 c hm
  exact ⟨by omega,λv hv=>by have:=(g3 v hv).1;omega⟩
 ·have:=(h.hD.2 d hd).1
  exact ⟨by omega,by omega⟩
 ·obtain ⟨i0,hi0,rfl⟩:=List.mem_map.1 hu
  exact (h.hI.2 i0 hi0).2.2.1.1
 ·obtain ⟨i0,hi0,rfl⟩:=List.mem_map.1 hi
  exact (check_ops (hck i0 hi0).2).2.2.2
 ·obtain ⟨i0,hi0,rfl⟩:=List.mem_map.1 hi
  obtain ⟨g1,g2,g3,g4⟩:=h.hI.2 i0 hi0;exact ⟨⟨g1.1,by dsimp only;omega⟩,⟨g2.1,by dsimp only;omega⟩,(hck i0 hi0).2,λo ho=>(g4.2 o ho).1.1⟩
 ·obtain ⟨i0,hi0,rfl⟩:=List.mem_map.1 hu
  exact ⟨(h.hI.2 i0 hi0).2.2.1.1,(hck i0 hi0).1⟩
 ·have:=h.hD.2 d hd
  exact ⟨⟨this.1.1.1,by omega⟩,by omega,by omega⟩
 ·cases hz:lkL (I.map itA) t with
  |none=>
   have hz2:lkL (I.map ptA) t=none:=lkL_none λu hu e=>by
    obtain ⟨i0,hi0,rfl⟩:=List.mem_map.1 hu;have:=(lkL_iff ki).2 (List.mem_map_of_mem (f:=itA) hi0);rw[show (itA i0).1=t from e] at this;rw[hz] at this
    cases this
   dsimp only;rw[hz2];rfl
  |some a=>
   obtain ⟨i0,hi0,he⟩:=List.mem_map.1 (lk_memL hz);have:=(lkL_iff kp).2 (List.mem_map_of_mem (f:=ptA) hi0);have e1:i0.1=t:=congrArg Prod.fst he;rw[show (ptA i0).1=t from e1] at this;dsimp only;rw[this];rfl
theorem lk_perm {α:Type}{m m':List (Int×α)}(h:keysOK m)(h':keysOK m')(he:∀t,lkL m t=lkL m' t):m.Perm m':=by
 have nd:∀{l:List (Int×α)},keysOK l→l.Nodup:=λh=>List.Pairwise.of_map _ (λa b hn e=>hn (by rw[e])) h
 refine (List.perm_ext_iff_of_nodup (nd h) (nd h')).2 λu=> ?_
 rw[←lkL_iff h,←lkL_iff h',he]
theorem can_perm {j:JS}{k:Nat}(hj:JOW j k)(h:JPX j):(canJ j).v.ch.Perm j.v.ch∧(canJ j).v.its.Perm j.v.its∧(canJ j).parts.Perm j.parts∧(canJ j).done.Perm j.done:=by
 have ki:=hj.w.k2;have e1:(canI j).map itA=srtM j.v.its:=by
  unfold canI;rw[List.map_map];exact List.map_id' _
 refine ⟨srt_mem hj.w.k1,by dsimp only;rw[e1];exact srt_mem ki,?_,?_⟩
 ·have kP:(((canI j).map ptA).map (·.1))=(srtM j.v.its).map (·.1):=by
   rw[List.map_map];unfold canI;rw[List.map_map];rfl
  have kk:keysOK ((canI j).map ptA):=rise_keys (by rw[kP];exact srt_rise ki);refine lk_perm kk hj.kp λt=> ?_
  have hpk:=h.pk t;have hs:=lkL_perm ki (srt_mem ki) t
  cases hz:lkL j.v.its t with
  |none=>
   rw[hz] at hpk hs;have h1:lkL j.parts t=none:=by
    cases hq:lkL j.parts t with
    |none=>rfl
    |some w=>rw[hq] at hpk;cases hpk
   rw[h1];refine lkL_none λu hu e=> ?_
   have hm:u.1∈((canI j).map ptA).map (·.1):=List.mem_map_of_mem hu;rw[kP] at hm;obtain ⟨w,hw,hwe⟩:=List.mem_map.1 hm;have:=(lkL_iff (keys_perm ki (srt_mem ki))).2 hw;rw[hwe,e,hs] at this
   cases this
  |some a=>
   rw[hz] at hpk hs
   cases hq:lkL j.parts t with
   |none=>rw[hq] at hpk;cases hpk
   |some w=>
    have hm:=lk_memL hs;refine (lkL_iff kk).2 ?_;have:=List.mem_map_of_mem (f:=λi:Int×Int×VL=>(i.1,i.2.1,(lkL j.parts i.1).getD [],i.2.2)) hm;have:=List.mem_map_of_mem (f:=ptA) (show _∈canI j from this);dsimp only at this;rw[hq] at this;exact this
 ·have kk:keysOK (canD j):=rise_keys (canD_rise hj.kd)
  refine lk_perm kk hj.kd λt=> ?_
  cases hz:lkL j.done t with
  |none=>
   refine lkL_none λu hu e=> ?_
   have:=canD_mem hj.kd hu;have:=(lkL_iff hj.kd).2 this;rw[e,hz] at this
   cases this
  |some s=>
   refine (lkL_iff kk).2 ?_;have hm:=lk_memL hz;have ht:t∈sortL (j.done.map (·.1)):=(sortL_perm _).mem_iff.2 (List.mem_map_of_mem hm);have:=List.mem_map_of_mem (f:=λt=>(t,(lkL j.done t).getD 0)) ht;rw[hz] at this;exact this
theorem ref_perm {p:Nat}{st st':VS}(hd:st'.dim=st.dim)(hm:st'.mark=st.mark)(hc:st'.ch.Perm st.ch)(hi:st'.its.Perm st.its){L:HL}:Ent (refH p st::L) (refH p st'::L):=
 Ent.ex fun x => Ent.open_all.trans (Ent.pure fun hx => by
  have h:ROK x.M st' x.a x.c x.es x.a' x.c' x.is:=⟨hx.ch.trans hc.symm,hx.cs,hx.its.trans hi.symm,hx.ss,hx.oe,hx.oi,hx.sE,hx.sI,hx.cE,hx.cI,keys_perm hx.k1 hc,keys_perm hx.k2 hi,hx.oc⟩;have e:=ref_shut (p:=p) (L:=L) h;rw[hd,hm] at e;exact e)
theorem rj_perm {p:Nat}{j j':JS}(hd:j'.v.dim=j.v.dim)(hm:j'.v.mark=j.v.mark)(hc:j'.v.ch.Perm j.v.ch)(hi:j'.v.its.Perm j.v.its)(hp:j'.parts.Perm j.parts)(hn:j'.done.Perm j.done){L:HL}:Ent (rjH p j::L) (rjH p j'::L):=
 Ent.ex fun x => Ent.open_all.trans (Ent.pure fun hx => by
  refine Ent.trans (M:=refH x.v j.v::rjP p x.self x.v x.pa x.ps x.pc x.da x.ds x.dc::roM x.M::L) (Ent.perm (.swap _ _ _)) ?_;refine Ent.trans (ref_perm hd hm hc hi) ?_;refine Ent.trans (Ent.perm (.swap _ _ _)) ?_;exact rj_shut ⟨hx.s1,hx.s2.trans hd.symm,hx.pp.trans hp.symm,hx.po,hx.pS,hx.dp.trans hn.symm,hx.sd,hx.dS,hx.dc,keys_perm hx.kp hp,keys_perm hx.kd hn⟩)
end Go.Proofs.YtjlgabojhnnbaaaGreatDoor
namespace Go.Proofs.YtjlgabojhnnbaaaGreatDoor
open Go Go.SX
attribute [local irreducible] swp opsS thenS blockS retS CallsS St Ent YieldS anyS drawS
theorem Whole_spec (n:Int)(L:HL)(h:i32ok n):
  CallsS Tryz.prog 125 [I32 n] L (λr L'=>∃a c,r=.slice a (numI (zzI n)).length c∧L'=slB a c (numI (zzI n))::L):=by
 obtain ⟨h1,h2⟩:=h;rw[zzI_eq zo zo];refine CallsS.of_body Tryz.func125 rfl rfl rfl ?_;refine Q.r ?_;refine S.y (Y.cvi rfl) ?_;rw[wrap_i64 zo zo]
 by_cases hn:n<0
 ·rw[if_pos hn]
  refine Q.r ?_;refine S.y (Y.mul rfl rfl) ?_;rw[wrap_i64 zo zo];refine Q.r ?_;refine S.y (Y.cvi rfl) ?_;rw[wrap_u64 zo zo];refine S.cr rfl (RNum (-2*n - 1) _ zo zo) ?_;rintro _ _ ⟨a,c,rfl,rfl⟩;refine Q.r ?_;exact N.t rfl (Ent.refl _) ⟨a,c,rfl,rfl⟩
 ·rw[if_neg hn]
  refine Q.r ?_;refine S.y (Y.mul rfl rfl) ?_;rw[wrap_i64 zo zo];refine Q.r ?_;refine S.y (Y.cvi rfl) ?_;rw[wrap_u64 zo zo];refine S.cr rfl (RNum (2*n) _ zo zo) ?_;rintro _ _ ⟨a,c,rfl,rfl⟩;refine Q.r ?_;exact N.t rfl (Ent.refl _) ⟨a,c,rfl,rfl⟩
theorem zz_len {n:Int}(h:i32ok n):(numI (zzI n)).length≤10:=by
 obtain ⟨h1,h2⟩:=h;refine numI_len ?_;rw[zzI_eq zo zo]
 split<;>omega
theorem VecW_spec (a:OA)(c:Nat)(v:List Int)(M:OM)(L:HL)[hM:HasM M L](hs:SlM M a v.length 1 (v.map I32))(hv:v.length≤8)(hi:∀n∈v,i32ok n):
  CallsS Tryz.prog 67 [.slice a v.length c] L (λr L'=>∃a' c',r=.slice a' (vecI v).length c'∧L'=slB a' c' (vecI v)::L):=by
 have n0:=numI_len (z:=(v.length:Int)) zo;unfold vecI;refine CallsS.of_body Tryz.func67 rfl rfl rfl ?_;refine Q.r ?_;refine S.y (Y.cvi rfl) ?_;rw[wrap_u64 zo zo];refine S.cr rfl (RNum (v.length:Int) _ zo zo) ?_;rintro _ L2 ⟨a1,c1,rfl,eL⟩;rw[eL];clear eL L2;refine Q.r ?_;refine swp_cutB (σ:=OA×Nat) (λs=> [(3,.slice s.1 (numI (v.length:Int)++v.flatMap λn=>numI (zzI n)).length s.2)]) (λs=>slB s.1 s.2 (numI (v.length:Int)++v.flatMap λn=>numI (zzI n))::L) (λ_=>True) ?_ ?_
 ·refine swp_loop (σ:=Nat×OA×Nat) (λs=> [(10,.slice a v.length c),(11,.int .i64 v.length),(3,.slice s.2.1 (numI (v.length:Int)++(v.take s.1).flatMap λn=>numI (zzI n)).length s.2.2),(12,.int .i64 s.1)])
   (λs=>slB s.2.1 s.2.2 (numI (v.length:Int)++(v.take s.1).flatMap λn=>numI (zzI n))::L) (λs=>s.1≤v.length) (λs=>v.length - s.1) (0,a1,c1) ⟨rfl,rfl,by simp only[List.take_zero,List.flatMap_nil,List.append_nil];rfl,rfl,trivial⟩ (by simp only[List.take_zero,List.flatMap_nil,List.append_nil];exact eG) (Nat.zero_le _) ?_
  rintro ⟨k,a2,c2⟩ hk;dsimp only at hk ⊢
  by_cases hlt:k<v.length
  ·obtain ⟨q,hq⟩:=mem_get hlt
   have hqi:=hi q (List.mem_of_getElem? hq);obtain ⟨b,o,hia,cr⟩:=SlM.cm1 (g:=I32) hs hq rfl;have hXl:((v.take k).flatMap λn=>numI (zzI n)).length≤v.length*10:=take_le k λn hn=>zz_len (hi n hn)
   have hnx:numI (v.length:Int)++(v.take (k+1)).flatMap (λn=>numI (zzI n))=numI (v.length:Int)++(v.take k).flatMap (λn=>numI (zzI n))++numI (zzI q):=by rw[flat1 hq,List.append_assoc]
   have hl:(numI (v.length:Int)++(v.take k).flatMap λn=>numI (zzI n)).length≤1000:=by rw[List.length_append];omega
   generalize numI (v.length:Int)++(v.take k).flatMap (λn=>numI (zzI n))=X at hnx hl ⊢;have hz:=zz_len hqi;rw[hia];refine Q.r ?_;refine S.cr rfl (Whole_spec q _ hqi) ?_;rintro _ _ ⟨y1,cy1,rfl,rfl⟩;refine Q.r ?_;refine opsS_addr y1 (λha=> ?_);refine S.appB (a:=a2) (X:=X) (Y:=numI (zzI q)) rfl rfl (RdS.own ha (by rw[List.length_map,Nat.mul_one])) zo (λy2 cy2=> ?_);rw[←hnx];refine Q.r ?_;exact ⟨(k+1,y2,cy2),⟨by rw[←hia];rfl,rfl,rfl,rfl,trivial⟩,by exact eG,hlt,Nat.sub_succ_lt_self v.length k hlt⟩
  ·have hke:k=v.length:=by omega
   subst hke;rw[List.take_length];refine Q.r ?_;exact ⟨(a2,c2),zt,by exact eG,trivial⟩
 rintro ⟨a2,c2⟩ _;dsimp only;refine Q.r ?_;exact N.t rfl eG ⟨a2,c2,rfl,rfl⟩
theorem PartsOf_spec (p v:Nat)(sf:Int)(pa:OA)(pc:Nat)(us:List QV)(da:OA)(dc:Nat)(ds:List (Int×Int))(t:Int)(M:OM)(L:HL)(hS:SlM M pa us.length 2 (us.flatMap QV.cells))(ho:∀u∈us,SlM M u.a u.l.length 1 (u.l.map I64))(hk:keysOK (us.map QV.abs))(hn:us.length≤1000000):
  CallsS Tryz.prog 68 [.pointer (some ⟨p,0,none⟩),.int .u64 t] (rjP p sf v pa us pc da ds dc::roM M::L) (λr L'=>∃a c,r=.slice a ((lkL (us.map QV.abs) t).getD []).length c∧SlM M a ((lkL (us.map QV.abs) t).getD []).length 1 (((lkL (us.map QV.abs) t).getD []).map I64)∧L'=rjP p sf v pa us pc da ds dc::roM M::L):=by
 refine CallsS.of_body Tryz.func68 rfl rfl rfl ?_;refine Q.r ?_;refine swp_loop (σ:=Nat) (λk=> [(1,.int .u64 t),(10,.slice pa us.length pc),(11,.int .i64 us.length),(12,.int .i64 k)]) (λ_=>rjP p sf v pa us pc da ds dc::roM M::L) (λk=>k≤us.length∧∀u∈us.take k,u.txn≠t) (λk=>us.length - k) 0 zt (Ent.refl _) ⟨Nat.zero_le _,λu hu=>by simp at hu⟩ ?_;rintro k ⟨hk1,hne⟩
 by_cases hlt:k<us.length
 ·obtain ⟨u,hu⟩:=mem_get hlt
  have hum:=List.mem_of_getElem? hu;obtain ⟨b,o,hia,cr⟩:=SlM.cm (g:=QV.cells) (λ_=>rfl) hS hu rfl;rw[hia]
  by_cases he:u.txn=t
  ·have hl:lkL (us.map QV.abs) t=some u.l:=(lkL_iff hk).2 (by rw[←he];exact List.mem_map_of_mem (f:=QV.abs) hum)
   rw[hl];refine Q.r ?_;(repeat (intro b1;refine Q.r ?_));exact N.t rfl eG ⟨u.a,u.c,rfl,ho u hum,rfl⟩
  ·refine Q.r ?_;(repeat (intro b1;refine Q.r ?_))
   refine ⟨k+1,⟨rfl,by rw[←hia];rfl,rfl,rfl,trivial⟩,by exact eG,⟨hlt,λw hw=> ?_⟩,Nat.sub_succ_lt_self us.length k hlt⟩;rw[take_snoc hu] at hw
   rcases List.mem_append.1 hw with hw|hw
   ·exact hne w hw
   ·rw[List.mem_singleton.1 hw];exact he
 ·have hke:k=us.length:=by omega
  subst hke;rw[List.take_length] at hne;have hl:lkL (us.map QV.abs) t=none:=lkL_none λw hw e=>by
   obtain ⟨u,hu,rfl⟩:=List.mem_map.1 hw;exact hne u hu e
  rw[hl];refine Q.r ?_;exact N.t rfl eG ⟨none,0,rfl,⟨rfl,.inl rfl⟩,rfl⟩
abbrev qN (t:Int):NA:={NA.zero with kind:=7,txn:=t}
def wkP (sf t:Int)(P:List Int):List (Int×NA):=(P.filter λq=>decide (q≠sf)&&decide (q≠0)).map λq=>(q,qN t)
def wkQ (sf t:Int)(P:List Int):List (Int×NA):=(0,qN t)::wkP sf t P
def wakeJ (j:JS):List (Int×NA):=(srtM j.v.its).flatMap λi=>wkQ j.v.dim i.1 ((lkL j.parts i.1).getD [])
theorem wkP_snoc {sf t:Int}{P:List Int}{m:Nat}{q:Int}(h:P[m]? =some q):wkP sf t (P.take (m+1))=wkP sf t (P.take m)++if q≠sf∧q≠0 then [(q,qN t)] else []:=by
 unfold wkP;rw[take_snoc h,List.filter_append,List.map_append,List.filter_cons,List.filter_nil]
 by_cases h1:q=sf
 ·have h:¬(q≠sf∧q≠0):=λh=>h.1 h1
  rw[if_neg h];simp[h1]
 ·by_cases h2:q=0
  ·have h:¬(q≠sf∧q≠0):=λh=>h.2 h2
   rw[if_neg h];simp[h2]
  ·have h:q≠sf∧q≠0:=⟨h1,h2⟩
   rw[if_pos h];simp[h1,h2]
theorem wkP_len (sf t:Int)(P:List Int):(wkP sf t P).length≤P.length:=by
 unfold wkP;rw[List.length_map];exact List.length_filter_le _ _
theorem flatM {α β:Type}{l:List α}{k:Nat}{x:α}{f:α→List β}(h:l[k]? =some x):(l.take (k+1)).flatMap f=(l.take k).flatMap f++f x:=by rw[take_snoc h,List.flatMap_append];simp
theorem flatM_le {α β:Type}{f:α→List β}{c:Nat}:∀{l:List α},(∀x∈l,(f x).length≤c)→(l.flatMap f).length≤l.length*c
 | [],_=>by simp
 |x::l,h=>by
  have h1:=h x (by simp);have h2:=flatM_le (f:=f) (c:=c) (l:=l) λy hy=>h y (List.mem_cons_of_mem _ hy)
  rw[List.flatMap_cons,List.length_append,List.length_cons,Nat.add_mul,Nat.one_mul];omega
theorem flat_mail1 (us:List (Int×NA))(m:Int×NA):(us++[m]).flatMap mailC=us.flatMap mailC++mailC m:=by rw[List.flatMap_append];simp
theorem JWake_spec (M:OM)(p:Nat)(j:JS)(k:Nat)(L:HL)(hj:JOW j k)(hk:k≤1000)(hp4:∀u∈j.parts,u.2.length≤4):
  CallsS Tryz.prog 47 [ptrJ p] (jurH M p j::roM M::L) (λr L'=>∃(a:OA) (c:Nat) (M':OM),r=.slice a (wakeJ j).length c∧leM M M'∧L'=slO 55 17 a (wakeJ j).length c ((wakeJ j).flatMap mailC)::jurH M' p j::roM M'::L):=by
 have hpl4:∀t,((lkL j.parts t).getD []).length≤4:=λt=>by
  cases h:lkL j.parts t with
  |none=>exact Nat.zero_le _
  |some l=>exact hp4 _ (lk_memL h)
 refine CallsS.of_body Tryz.func47 rfl rfl rfl ?_;refine Q.r ?_;refine S.cj p rfl (JIntentsS_spec M p j k _ hj.w.wf zo) ?_;rintro _ _ ⟨ia,ic,is,M1,rfl,hl1,hsI,hoI,hpI,hsrt,rfl⟩;have hI:is.map IV.abs=srtM j.v.its:=srt_eq hj.w.k2 hpI (by rw[List.map_map];exact hsrt);have hil:is.length≤1000:=by have h1:=hpI.length_eq;rw[List.length_map] at h1;have:=hj.w.wf.il;omega
 have hW:wakeJ j=is.flatMap λi=>wkQ j.v.dim i.txn ((lkL j.parts i.txn).getD []):=by
  unfold wakeJ;rw[←hI,List.flatMap_map]
 refine Q.r ?_;refine swp_jur p (λv mp md sf ps hq=> ?_);have hsf:=hq.s2;refine swp_cutB (σ:=OA×Nat) (λs=> [(3,.slice s.1 (wakeJ j).length s.2)])
  (λs=>slO 55 17 s.1 (wakeJ j).length s.2 ((wakeJ j).flatMap mailC)::jP p v sf j.v.dim mp md::vaultH v j.v::jT mp ps::jD md j.done::roM M1::L) (λ_=>True) ?_ ?_
 ·refine swp_loop (σ:=Nat×OA×Nat×List (Int×NA)) (λs=> [(0,ptrJ p),(12,.slice ia is.length ic),(13,.int .i64 is.length),(3,.slice s.2.1 s.2.2.2.length s.2.2.1),(14,.int .i64 s.1)])
   (λs=>slO 55 17 s.2.1 s.2.2.2.length s.2.2.1 (s.2.2.2.flatMap mailC)::jP p v sf j.v.dim mp md::vaultH v j.v::jT mp ps::jD md j.done::roM M1::L) (λs=>s.1≤is.length∧s.2.2.2=(is.take s.1).flatMap (λi=>wkQ j.v.dim i.txn ((lkL j.parts i.txn).getD []))∧s.2.2.2.length≤s.1*5) (λs=>is.length - s.1) (0,none,0,[]) zt (Ent.trans slO_nil eG) ⟨Nat.zero_le _,rfl,Nat.zero_le _⟩ ?_
  rintro ⟨i,a3,c3,us⟩ ⟨hi,hus,hul⟩;dsimp only at hi hus hul ⊢
  by_cases hlt:i<is.length
  ·obtain ⟨e,he⟩:=mem_get hlt
   obtain ⟨b5,o5,hia5,cr5⟩:=SlM.cm (g:=IV.cells) (λ_=>rfl) hsI he rfl;obtain ⟨pa,pc,pl,hval,hpl,hsl⟩:=parts_of hq e.txn;have hlen:=hpl4 e.txn;have hN:=flatM (f:=λi:IV=>wkQ j.v.dim i.txn ((lkL j.parts i.txn).getD [])) he;rw[hpl] at hN hlen;rw[hia5];refine Q.r ?_;(repeat (intro b1;refine Q.r ?_));refine S.app rfl rfl (SrcS.sl RdC.row zr zr) zr zo zo (λa4 c4=> ?_);refine Q.r ?_;rename_i bi bn;refine swp_ent (L':=pt bi (cl [.int .u64 e.txn,.int .u64 e.after,.slice e.a e.ops.length e.c] 100)::jP p v sf j.v.dim mp md::jT mp ps::pt bn (cl (qN e.txn).nv.cells 53)::slO 55 17 a4 (us.length+1) c4 (us.flatMap mailC++mailC (0,qN e.txn))::vaultH v j.v::jD md j.done::roM M1::L) eG ?_;refine Q.dgo [true,true,true] [] [] [0,1,2,3,4,5,6,7,8] ?_;refine Q.rd ?_;refine D.y rfl rfl rfl zk (Ycast (v':=.slice pa pl.length pc) (Y.lk false rfl rfl (λw=>Tryz.zeroValue32 w)) (by rcases hval with ⟨h1,rfl,rfl,rfl⟩|⟨v,h1,rfl,rfl,rfl⟩<;>rw[h1]<;>rfl)) ?_;refine Q.rd ?_;refine Q.r ?_;refine swp_loop (σ:=Nat×OA×Nat×List (Int×NA)) (λs=> [(0,ptrJ p),(6,.pointer (some ⟨bn,0,none⟩)),(12,.slice (some ⟨b5,o5,none⟩) is.length ic),(13,.int .i64 is.length),(14,.int .i64 i),(32,.slice pa pl.length pc),(33,.int .i64 pl.length),(3,.slice s.2.1 s.2.2.2.length s.2.2.1),(34,.int .i64 s.1)])
    (λs=>pt bn (cl (qN e.txn).nv.cells 53)::slO 55 17 s.2.1 s.2.2.2.length s.2.2.1 (s.2.2.2.flatMap mailC)::jP p v sf j.v.dim mp md::vaultH v j.v::jT mp ps::jD md j.done::roM M1::L) (λs=>s.1≤pl.length∧s.2.2.2=us++[(0,qN e.txn)]++wkP j.v.dim e.txn (pl.take s.1)) (λs=>pl.length - s.1) (0,a4,c4,us++[(0,qN e.txn)]) ⟨rfl,rfl,rfl,rfl,rfl,rfl,rfl,congrArg some (by simp[List.filter_append]),rfl,trivial⟩ ?_ ⟨Nat.zero_le _,by simp[wkP]⟩ ?_
   ·dsimp only
    rw[len_snoc,flat_mail1];exact eG
   rintro ⟨m,a6,c6,ws⟩ ⟨hm,hws⟩;dsimp only at hm hws ⊢;have hwl:ws.length≤10000:=by
    have h1:=wkP_len j.v.dim e.txn (pl.take m);rw[List.length_take] at h1;rw[hws,List.length_append,List.length_append,List.length_singleton];omega
   by_cases hmt:m<pl.length
   ·obtain ⟨q,hq1⟩:=mem_get hmt
    obtain ⟨bp,op,hpa,cp⟩:=SlM.cm1 (g:=I64) hsl hq1 rfl;have hS:=wkP_snoc (sf:=j.v.dim) (t:=e.txn) hq1;rw[hpa]
    by_cases h1:q=sf
    ·rw[if_neg (λh=>h.1 (h1.trans hsf)),List.append_nil] at hS
     refine Q.r ?_;refine ⟨(m+1,a6,c6,ws),⟨rfl,rfl,rfl,rfl,rfl,by rw[←hpa];rfl,rfl,rfl,rfl,trivial⟩,by exact eG,⟨hmt,by dsimp only;rw[hS,hws]⟩,Nat.sub_succ_lt_self pl.length m hmt⟩
    ·by_cases h2:q=0
     ·rw[if_neg (λh=>h.2 h2),List.append_nil] at hS
      refine Q.r ?_;refine ⟨(m+1,a6,c6,ws),⟨rfl,rfl,rfl,rfl,rfl,by rw[←hpa];rfl,rfl,rfl,rfl,trivial⟩,by exact eG,⟨hmt,by dsimp only;rw[hS,hws]⟩,Nat.sub_succ_lt_self pl.length m hmt⟩
     ·rw[if_pos ⟨λh=>h1 (h.trans hsf.symm),h2⟩] at hS
      refine Q.r ?_;(repeat (intro b1;refine Q.r ?_));refine S.app rfl rfl (SrcS.sl RdC.row zr zr) zr zo zo (λa7 c7=> ?_);refine Q.r ?_;refine ⟨(m+1,a7,c7,ws++[(q,qN e.txn)]),⟨rfl,rfl,rfl,rfl,rfl,by rw[←hpa];rfl,rfl,congrArg some (by simp[List.filter_append]),rfl,trivial⟩,?_,⟨hmt,by dsimp only;rw[hS,hws,List.append_assoc]⟩,Nat.sub_succ_lt_self pl.length m hmt⟩;dsimp only;rw[len_snoc,flat_mail1];exact eG
   ·have hme:m=pl.length:=by omega
    subst hme;rw[List.take_length] at hws;have hfin:ws=(is.take (i+1)).flatMap (λi=>wkQ j.v.dim i.txn ((lkL j.parts i.txn).getD [])):=by
     rw[hN,hws,←hus,List.append_assoc];rfl
    have hpw:=wkP_len j.v.dim e.txn pl;refine Q.r ?_;refine ⟨(i+1,a6,c6,ws),⟨rfl,by rw[←hia5];rfl,rfl,rfl,rfl,trivial⟩,by exact eG,⟨hlt,hfin,?_⟩,Nat.sub_succ_lt_self is.length i hlt⟩;dsimp only;rw[hws,List.length_append,List.length_append,List.length_singleton];omega
  ·have hie:i=is.length:=by omega
   subst hie;rw[List.take_length,←hW] at hus;subst hus;refine Q.r ?_;exact ⟨(a3,c3),zt,by exact eG,trivial⟩
 rintro ⟨a3,c3⟩ _;dsimp only;refine Q.r ?_;exact N.t rfl (Ent.trans (M:=jP p v sf j.v.dim mp md::vaultH v j.v::jT mp ps::jD md j.done::slO 55 17 a3 (wakeJ j).length c3 ((wakeJ j).flatMap mailC)::roM M1::L) eG (Ent.trans (jur_shut hq rfl) (Ent.perm (.swap _ _ _)))) ⟨a3,c3,M1,rfl,hl1,rfl⟩
end Go.Proofs.YtjlgabojhnnbaaaGreatDoor
