/- The scroll's reader: peek, take, step, Num, Left, End, NewReader. slices.Equal of bytes; what is read back of a number's bytes. The document's Take and num. The judge's Unpack: what it reads; how it reads a stamp. What Unpack reads: bounds. The judge's Unpack. What Pack wrote Unpack reads again. What is unpacked of a judge's bytes. What the document reads of a judge's bytes, and that it is what the program reads. No condition. -/
import Derived.Laws.MakeOwn
import Derived.Test.YtiampehfpgcogaaGreatDoorPk09
set_option linter.unusedVariables false
set_option linter.unusedSimpArgs false
set_option linter.unusedSectionVars false
namespace Go.SX
open Go
section
variable {P : Program} {n : Nat} {ops rest : List Oper} {Q : Post} {f : Env} {A L : List HP} {d : Tmp} {ty : TypeId} {pos : String} {af : Array Edge}
theorem Y.anI {x y : Operand} {t t' : TypeId} {k : IntKind} {a b : Int} (hx : ev f x = some (.int k a)) (hy : ev f y = some (.int k b)) : YieldS P n ops ⟨some d,.binOp .andNot t x y t',ty,pos,af,none⟩ f A ((.int k (k.wrap ((BitVec.ofInt k.bits a) &&& ~~~(BitVec.ofInt k.bits b)).toNat))) := Y.of (fun _ w s => by simp [execOp,s.eval hx,s.eval hy,eqGuard,binOp,Op.intBits])
theorem S.mks {x y : Operand} {t e : TypeId} {sz bts : Nat} {ag : Bool} {zs : List Value} {kx ky : IntKind} {m : Nat} [h : SlTy P t e] [h2 : Ty P e ag sz zs bts] (hx : ev f x = some (.int kx m)) (hy : ev f y = some (.int ky m)) (hz : zs.length = sz)
  (hb : bts * m ≤ 281474976710656) (h63 : m ≤ 9223372036854775807) (hs : m * sz ≤ 16777216) (hk : ∀ b,opsS P n ops rest Q (upd f d (.slice (some ⟨b,0,none⟩) m m)) (pt b (cl (rep m zs) e) :: L)) :
  opsS P n ops (⟨some d,.makeSlice t x y,ty,pos,af,none⟩ :: rest) Q f L := by
 obtain ⟨i,z,hi,hisz,hib,hiz,hzz⟩ := h2.raw
 refine opsS_value (R := fun v L1 => ∃ b,v = .slice (some ⟨b,0,none⟩) m m ∧ L1 = pt b (cl (rep m zs) e) :: L) (fun F ac w s t1 => ?_) (by rintro _ _ ⟨b,rfl,rfl⟩;exact hk b)
 have hr := run_makeSlice (P := P) w t e i z h.raw hi hiz kx ky (m : Int) m (by omega) (by omega) (by rw [hisz];simpa using hs) (by rw [hib];omega) (by omega)
 have hzl : z.cells.size = sz := by rw [← hz,← hzz];simp
 have e1 : madeCells z.cells (m * sz) = (rep m zs).toArray := by
  have := zero_row z.cells m sz hzl
  rw [hzz] at this
  exact this
 rw [hisz,Int.toNat_natCast,e1] at hr
 refine ⟨_,w.alloc (.cells (rep m zs).toArray e),pt w.heap.size (cl (rep m zs) e) :: L,?_,?_,_,rfl,rfl⟩
 ·simp [execOp,s.eval hx,s.eval hy,hr]
 ·exact St.pt_new t1 rfl
theorem S.cpy0 {x y : Operand} {t tx e : TypeId} {sz bts : Nat} {ag : Bool} {zs : List Value} {b o dl dc kc : Nat} {a : Option Addr} [h : SlTy P t e] [h2 : Ty P e ag sz zs bts]
  (hx : ev f x = some (.slice (some ⟨b,o,none⟩) dl dc)) (hy : ev f y = some (.slice a 0 kc)) (hk : opsS P n ops rest Q (upd f d (.int .i64 0)) L) :
  opsS P n ops (⟨some d,.call ⟨.builtin .copy,#[x,y],#[t,tx]⟩,ty,pos,af,none⟩ :: rest) Q f L := by
 refine opsS_value (R := fun v L1 => v = .int .i64 0 ∧ L1 = L) (fun F ac w s t1 => ?_) (by rintro _ _ ⟨rfl,rfl⟩;exact hk)
 have hst : (storeCells ⟨b,o,none⟩ []).run P w = .ok () w := rfl
 have hrun : (Builtin.copy_ #[t,tx] ty #[.slice (some ⟨b,o,none⟩) dl dc,.slice a 0 kc]).run P w = .ok (goInt 0) w := by
  cases a with
  | none => simp [Builtin.copy_,run_underlying h.raw,Builtin.lenOf,Builtin.firstCells,h2.size,hst]
  | some ad =>
   have hld := run_loadCells_list (P := P) w ad [] (fun j v e => by simp at e)
   simp only [List.length_nil] at hld
   simp [Builtin.copy_,run_underlying h.raw,Builtin.lenOf,Builtin.firstCells,h2.size,hld,hst]
 refine ⟨_,w,_,?_,t1,rfl,rfl⟩
 simp [execOp,resolve,invoke,s.eval hx,s.eval hy,builtin,hrun,goInt]
end
theorem SlM.fromA {M : Nat → Option Obj} {a : Option Addr} {m c l sz : Nat} {cs : List Value} (h : SlM M a m sz cs) (h1 : l ≤ m) (h2 : m ≤ c) : SlM M (Go.Proofs.YtiampehfpgcogaaGreatDoor.subA a c l sz) (m - l) sz (cs.drop (l * sz)) := by
 by_cases h0 : l = 0
 ·subst h0
  unfold Go.Proofs.YtiampehfpgcogaaGreatDoor.subA
  rw [if_pos rfl,Nat.zero_mul,List.drop_zero]
  exact h
 ·refine ⟨by rw [List.length_drop,h.1,Nat.sub_mul],?_⟩
  rcases h.2 with h3 | ⟨b,o,l',t,fz,e,e1,e2⟩
  ·omega
  ·by_cases hc : c = l
   ·exact .inl (by omega)
   ·subst e
    unfold Go.Proofs.YtiampehfpgcogaaGreatDoor.subA
    rw [if_neg h0]
    refine .inr ⟨b,o + l * sz,l',t,fz,by simp [hc],e1,fun j v hj => ?_⟩
    rw [List.getElem?_drop] at hj
    have := e2 _ v hj
    rwa [← Nat.add_assoc] at this
end Go.SX
namespace Go.Proofs.YtiampehfpgcogaaGreatDoor
open Go Go.SX
attribute [local irreducible] swp opsS thenS blockS retS CallsS St Ent YieldS anyS drawS
def peekF : List UInt8 → Nat → Nat → Nat × Nat × Int
 | [],_,_ => (0,0,2)
 | b :: bs,i,n => if i = 9 ∧ 1 < b.toNat then (0,0,4) else if b.toNat < 128 then (if b.toNat = 0 ∧ 0 < i then (0,0,4) else (n + b.toNat % 128 * 2 ^ (7 * i),i + 1,0)) else peekF bs (i + 1) (n + b.toNat % 128 * 2 ^ (7 * i))
theorem peekF_cons (b : UInt8) (bs : List UInt8) (i n : Nat) : peekF (b :: bs) i n = if i = 9 ∧ 1 < b.toNat then (0,0,4) else if b.toNat < 128 then (if b.toNat = 0 ∧ 0 < i then (0,0,4) else (n + b.toNat % 128 * 2 ^ (7 * i),i + 1,0)) else peekF bs (i + 1) (n + b.toNat % 128 * 2 ^ (7 * i)) := rfl
theorem peekF_size : ∀ (bs : List UInt8) (i n : Nat),(peekF bs i n).2.1 ≤ i + bs.length
 | [],i,n => by simp [peekF]
 | b :: bs,i,n => by
  unfold peekF
  have := peekF_size bs (i + 1) (n + b.toNat % 128 * 2 ^ (7 * i))
  rw [List.length_cons]
  repeat' split
  all_goals ((try dsimp only);omega)
set_option maxRecDepth 100000 in
theorem u8an (b : Nat) (hb : b < 256) : IntKind.u8.wrap (((BitVec.ofInt IntKind.u8.bits (b : Int)) &&& ~~~(BitVec.ofInt IntKind.u8.bits 128)).toNat : Int) = ((b % 128 : Nat) : Int) := by
 show IntKind.u8.wrap (((BitVec.ofInt 8 (b : Int)) &&& ~~~(BitVec.ofInt 8 128)).toNat : Int) = _
 rw [BitVec.toNat_and,show (BitVec.ofInt 8 (b : Int)).toNat = b by simp;omega,show (~~~(BitVec.ofInt 8 128)).toNat = 127 by decide]
 have e3 : b &&& 127 = b % 128 := (by decide : ∀ x,x < 256 → x &&& 127 = x % 128) b hb
 rw [e3,wrap_u8 (by omega) (by omega)]
theorem acc_lt {n b i : Nat} (hn : n < 2 ^ (7 * i)) (hb : b < 128) : n + b * 2 ^ (7 * i) < 2 ^ (7 * (i + 1)) := by
 have e : 2 ^ (7 * (i + 1)) = 128 * 2 ^ (7 * i) := by rw [Nat.mul_add,Nat.pow_add,Nat.mul_comm]
 have := Nat.mul_le_mul_right (2 ^ (7 * i)) (show b ≤ 127 by omega)
 omega
theorem acc_or {n b i : Nat} (hn : n < 2 ^ (7 * i)) (hi : i ≤ 9) (hb : b < 128) (h9 : i = 9 → b ≤ 1) : n + b * 2 ^ (7 * i) < 18446744073709551616 ∧
  IntKind.u64.wrap (((BitVec.ofInt IntKind.u64.bits (n : Int)) ||| (BitVec.ofInt IntKind.u64.bits (IntKind.u64.wrap ((b : Int) * 2 ^ (7 * i))))).toNat : Int) = ((n + b * 2 ^ (7 * i) : Nat) : Int) := by
 have h1 : n + b * 2 ^ (7 * i) < 18446744073709551616 := by
  by_cases h : i = 9
  ·subst h
   have := h9 rfl
   have e : (2 : Nat) ^ (7 * 9) = 9223372036854775808 := by decide
   rw [e] at hn ⊢
   omega
  ·have := acc_lt hn hb
   have h2 : 2 ^ (7 * (i + 1)) ≤ 2 ^ (7 * 9) := Nat.pow_le_pow_right (by omega) (by omega)
   have e : (2 : Nat) ^ (7 * 9) = 9223372036854775808 := by decide
   omega
 refine ⟨h1,?_⟩
 have e2 : IntKind.u64.wrap ((b : Int) * 2 ^ (7 * i)) = ((b * 2 ^ (7 * i) : Nat) : Int) := by
  have : ((b : Int) * 2 ^ (7 * i)) = ((b * 2 ^ (7 * i) : Nat) : Int) := by push_cast;rfl
  rw [this,wrap_u64 (by omega) (by omega)]
 have e : ∀ x : Nat,x < 18446744073709551616 → (BitVec.ofInt IntKind.u64.bits (x : Int)).toNat = x := fun x hx => by
  show (BitVec.ofInt 64 (x : Int)).toNat = x
  simp;omega
 have e5 : n ||| b * 2 ^ (7 * i) = n + b * 2 ^ (7 * i) := by rw [Nat.or_comm,Nat.mul_comm b,← Nat.two_pow_add_eq_or_of_lt hn,Nat.add_comm]
 rw [e2,BitVec.toNat_or,e _ (by omega),e _ (by omega),e5,wrap_u64 (by omega) (by omega)]
abbrev cB (b : UInt8) : List Value := [B b]
theorem flat_B (xs : List UInt8) : xs.flatMap cB = xs.map B := by induction xs with
 | nil => rfl
 | cons x xs ih => simp [List.flatMap_cons,ih]
set_option maxHeartbeats 2000000 in
set_option maxRecDepth 100000 in
theorem peek_spec (a : Option Addr) (c : Nat) (bs : List UInt8) (L : List HP) (h : RdS L a bs.length 1 (bs.map B)) (hb : bs.length ≤ 1000000000000) :
  CallsS Tryz.prog 131 [.slice a bs.length c] L (fun v L' => v = .tuple #[.int .u64 (peekF bs 0 0).1,.int .i64 (peekF bs 0 0).2.1,.int .i64 (peekF bs 0 0).2.2] ∧ L' = L) := by
 refine CallsS.of_body Tryz.func131 rfl rfl rfl ?_
 refine Q.r ?_;(repeat (intro b1;refine Q.r ?_))
 refine swp_cutB (σ := Unit) (fun _ => []) (fun _ => L) (fun _ => peekF bs 0 0 = (0,0,2)) ?_ ?_
 ·refine swp_loop (σ := Nat × Nat) (fun s => [(8,.slice a bs.length c),(9,.int .i64 bs.length),(5,.int .u64 s.2),(10,.int .i64 s.1)]) (fun _ => L)
   (fun s => s.1 ≤ bs.length ∧ s.1 ≤ 9 ∧ s.2 < 2 ^ (7 * s.1) ∧ peekF (bs.drop s.1) s.1 s.2 = peekF bs 0 0) (fun s => bs.length - s.1) (0,0) ⟨rfl,rfl,rfl,rfl,trivial⟩ (Ent.refl _) ⟨by omega,by omega,by simp,rfl⟩ ?_
  rintro ⟨k,n⟩ ⟨hk,h9,hn,hp⟩
  dsimp only at hk h9 hn hp ⊢
  by_cases hlt : k < bs.length
  ·obtain ⟨x,hx⟩ := mem_get hlt
   have hd : bs.drop k = x :: bs.drop (k + 1) := by
    rw [List.drop_eq_getElem_cons hlt]
    congr 1
    exact (List.getElem?_eq_some_iff.1 hx).2
   rw [hd,peekF_cons] at hp
   have hx8 : x.toNat < 256 := x.toNat_lt
   have hrs : RdS L a bs.length 1 (bs.flatMap cB) := by rw [flat_B];exact h
   obtain ⟨b,o,hia,hr⟩ := RdS.elem (g := cB) (fun _ => rfl) hrs hx rfl
   clear hrs
   rw [hia]
   have em : IntKind.i64.wrap (7 * (k : Int)) = ((7 * k : Nat) : Int) := by rw [wrap_i64 (by omega) (by omega)];push_cast;rfl
   by_cases c9 : k = 9 ∧ 1 < x.toNat
   ·rw [if_pos c9] at hp
    obtain ⟨c91,c92⟩ := c9
    rw [← hp]
    refine Q.r ?_;(repeat (intro b1;refine Q.r ?_))
    exact N.r3 (RV.tmp rfl (RV.tmp rfl (RV.tmp rfl RV.nil))) (Ent.refl _) ⟨rfl,rfl⟩
   ·rw [if_neg c9] at hp
    have hm9 : k = 9 → x.toNat % 128 ≤ 1 := fun e => by omega
    obtain ⟨ho1,ho2⟩ := acc_or (b := x.toNat % 128) hn h9 (by omega) hm9
    have hm2 := acc_lt (b := x.toNat % 128) hn (by omega)
    generalize hm : n + x.toNat % 128 * 2 ^ (7 * k) = m at *
    have hpw : (2 : Nat) ^ (7 * (k + 1)) = 2 ^ (7 * (k + 1)) := rfl
    clear hpw hn hm
    have hgo : ∀ {R : Prop},(k = 9 → x.toNat ≤ 1 → R) → (k ≠ 9 → R) → R := fun h1 h2 => by
     by_cases e : k = 9
     ·exact h1 e (by omega)
     ·exact h2 e
    refine hgo (fun c91 c92 => ?_) (fun c91 => ?_)
    all_goals refine Q.r ?_;(repeat (intro b1;refine Q.r ?_))
    all_goals refine S.y (Y.anI rfl rfl) ?_
    all_goals rw [u8an _ hx8]
    all_goals refine Q.r ?_;(repeat (intro b1;refine Q.r ?_))
    all_goals refine S.y (Y.cvi rfl) ?_
    all_goals rw [wrap_u64 (by omega) (by omega)]
    all_goals refine Q.r ?_;(repeat (intro b1;refine Q.r ?_))
    all_goals refine S.y (Y.mul rfl rfl) ?_
    all_goals rw [em]
    all_goals refine S.y (Y.shlI (b := 7 * k) rfl rfl (by show 7 * k ≤ 64;omega)) ?_
    all_goals refine S.y (Y.or rfl rfl) ?_
    all_goals rw [ho2]
    all_goals clear ho2 hgo hm9 em c9 hd hia ho1
    ·rw [if_pos (by omega)] at hp
     by_cases hx0 : x.toNat = 0
     ·rw [if_pos ⟨hx0,by omega⟩] at hp
      rw [← hp]
      clear hp
      refine Q.r ?_;(repeat (intro b1;refine Q.r ?_))
      exact N.r3 (RV.tmp rfl (RV.tmp rfl (RV.tmp rfl RV.nil))) (Ent.refl _) ⟨rfl,rfl⟩
     ·rw [if_neg (by omega)] at hp
      rw [← hp]
      clear hp
      refine Q.r ?_;(repeat (intro b1;refine Q.r ?_))
      exact N.r3 (RV.tmp rfl (RV.tmp rfl (RV.tmp rfl RV.nil))) (Ent.refl _) ⟨rfl,rfl⟩
    ·by_cases hx1 : x.toNat < 128
     ·rw [if_pos hx1] at hp
      by_cases hx0 : x.toNat = 0
      ·by_cases hk0 : 0 < k
       ·rw [if_pos ⟨hx0,hk0⟩] at hp
        rw [← hp]
        clear hp
        refine Q.r ?_;(repeat (intro b1;refine Q.r ?_))
        exact N.r3 (RV.tmp rfl (RV.tmp rfl (RV.tmp rfl RV.nil))) (Ent.refl _) ⟨rfl,rfl⟩
       ·rw [if_neg (by omega)] at hp
        rw [← hp]
        clear hp
        refine Q.r ?_;(repeat (intro b1;refine Q.r ?_))
        exact N.r3 (RV.tmp rfl (RV.tmp rfl (RV.tmp rfl RV.nil))) (Ent.refl _) ⟨rfl,rfl⟩
      ·rw [if_neg (by omega)] at hp
       rw [← hp]
       clear hp
       refine Q.r ?_;(repeat (intro b1;refine Q.r ?_))
       exact N.r3 (RV.tmp rfl (RV.tmp rfl (RV.tmp rfl RV.nil))) (Ent.refl _) ⟨rfl,rfl⟩
     ·rw [if_neg hx1] at hp
      refine Q.r ?_;(repeat (intro b1;refine Q.r ?_))
      exact ⟨(k + 1,m),⟨rfl,rfl,rfl,rfl,trivial⟩,Ent.refl _,⟨by omega,by omega,hm2,hp⟩,by dsimp only;omega⟩
  ·have hke : k = bs.length := by omega
   subst hke
   rw [List.drop_length] at hp
   refine Q.r ?_;(repeat (intro b1;refine Q.r ?_))
   exact ⟨(),trivial,Ent.refl _,hp.symm⟩
 ·rintro _ hp
  (try dsimp only at hp)
  rw [hp]
  refine Q.r ?_;(repeat (intro b1;refine Q.r ?_))
  exact N.r3 (RV.tmp rfl (RV.tmp rfl (RV.tmp rfl RV.nil))) (Ent.refl _) ⟨rfl,rfl⟩
def takeF (bs : List UInt8) (most : Nat) : Nat × Nat × Int := if (peekF bs 0 0).2.2 ≠ 0 then (0,0,(peekF bs 0 0).2.2) else if most < (peekF bs 0 0).1 then (0,0,3) else ((peekF bs 0 0).1,(peekF bs 0 0).2.1,0)
def restV (a : Option Addr) (c : Nat) (bs : List UInt8) (q : Nat × Nat × Int) : Value := if q.2.2 ≠ 0 then .slice none 0 0 else .slice (subA a c q.2.1 1) (bs.length - q.2.1) (c - q.2.1)
theorem takeF_size (bs : List UInt8) (most : Nat) : (takeF bs most).2.1 ≤ bs.length := by
 unfold takeF
 have := peekF_size bs 0 0
 split
 ·simp
 ·split
  ·simp
  ·dsimp only;omega
theorem RdS.atA {L : List HP} {a : Option Addr} {m sz : Nat} {cs : List Value} (h : RdS L a m sz cs) : m = 0 ∨ ∃ b o,a = some ⟨b,o,none⟩ := by
 rcases h.2 with h0 | ⟨b,o,e,_⟩
 ·exact .inl h0
 ·exact .inr ⟨b,o,e⟩
set_option maxHeartbeats 2000000 in
set_option maxRecDepth 100000 in
theorem take_spec (a : Option Addr) (c : Nat) (bs : List UInt8) (most : Nat) (L : List HP) (h : RdS L a bs.length 1 (bs.map B)) (hb : bs.length ≤ 1000000000000) :
  CallsS Tryz.prog 110 [.slice a bs.length c,.int .u64 most] L (fun v L' => v = .tuple #[.int .u64 (takeF bs most).1,restV a c bs (takeF bs most),.int .i64 (takeF bs most).2.2] ∧ L' = L) := by
 have hsz := peekF_size bs 0 0
 have hat := RdS.atA h
 have hp := peek_spec a c bs L h hb
 unfold takeF
 generalize peekF bs 0 0 = q at *
 obtain ⟨v,sz,e⟩ := q
 dsimp only at *
 refine CallsS.of_body Tryz.func110 rfl rfl rfl ?_
 refine Q.r ?_;(repeat (intro b1;refine Q.r ?_))
 refine S.cr rfl hp ?_
 rintro _ _ ⟨rfl,rfl⟩
 clear hp
 by_cases he : e = 0
 ·subst he
  by_cases hm : most < v
  ·rw [if_neg (by decide),if_pos hm]
   refine Q.r ?_;(repeat (intro b1;refine Q.r ?_))
   exact N.r3 (RV.tmp rfl (RV.tmp rfl (RV.tmp rfl RV.nil))) (Ent.refl _) ⟨rfl,rfl⟩
  ·rw [if_neg (by decide),if_neg hm]
   refine Q.r ?_;(repeat (intro b1;refine Q.r ?_))
   refine Q.dgo [] [] [] [0,1,2,3,4,5,6] ?_
   refine Q.rd ?_;(repeat (intro b1;refine Q.rd ?_))
   refine D.y rfl rfl rfl (by kernel_rfl) (Y.slFa rfl rfl rfl (by omega) hat) ?_
   refine Q.rd ?_;(repeat (intro b1;refine Q.rd ?_))
   refine Q.r ?_;(repeat (intro b1;refine Q.r ?_))
   exact N.r3 (RV.tmp rfl (RV.tmp rfl (RV.tmp rfl RV.nil))) (Ent.refl _) ⟨rfl,rfl⟩
 ·rw [if_pos he]
  refine Q.r ?_;(repeat (intro b1;refine Q.r ?_))
  refine N.r3 (RV.tmp rfl (RV.tmp rfl (RV.tmp rfl RV.nil))) (Ent.refl _) ⟨?_,rfl⟩
  unfold restV
  rw [if_pos he]
  rfl
abbrev rdP (r : Nat) (a : Option Addr) (m c : Nat) (bad : Int) : HP := pt r (cl [.slice a m c,.int .i64 bad] 182)
set_option maxHeartbeats 1000000 in
theorem fail_spec (r : Nat) (a : Option Addr) (m c : Nat) (bad e : Int) (L : List HP) :
  CallsS Tryz.prog 132 [.pointer (some ⟨r,0,none⟩),.int .i64 e] (rdP r a m c bad :: L) (fun v L' => v = .tuple #[] ∧ L' = rdP r a m c (if bad = 0 then e else bad) :: L) := by
 refine CallsS.of_body Tryz.func132 rfl rfl rfl ?_
 by_cases hb : bad = 0
 ·rw [if_pos hb]
  refine Q.r ?_;(repeat (intro b1;refine Q.r ?_))
  exact N.n0 RV.nil (Ent.refl _) ⟨rfl,rfl⟩
 ·rw [if_neg hb]
  refine Q.r ?_;(repeat (intro b1;refine Q.r ?_))
  exact N.n0 RV.nil (Ent.refl _) ⟨rfl,rfl⟩
set_option maxHeartbeats 1000000 in
theorem rstep_spec (r : Nat) (a a2 : Option Addr) (m c m2 c2 : Nat) (bad e : Int) (L : List HP) :
  CallsS Tryz.prog 111 [.pointer (some ⟨r,0,none⟩),.slice a2 m2 c2,.int .i64 e] (rdP r a m c bad :: L)
   (fun v L' => v = .bool (decide (e = 0)) ∧ L' = (if e = 0 then rdP r a2 m2 c2 bad else rdP r a m c (if bad = 0 then e else bad)) :: L) := by
 refine CallsS.of_body Tryz.func111 rfl rfl rfl ?_
 by_cases he : e = 0
 ·rw [if_pos he]
  refine Q.r ?_;(repeat (intro b1;refine Q.r ?_))
  exact N.r1 (RV.tmp rfl RV.nil) (Ent.refl _) ⟨by rw [decide_eq_true he],rfl⟩
 ·rw [if_neg he]
  refine Q.r ?_;(repeat (intro b1;refine Q.r ?_))
  refine S.cr rfl (fail_spec r a m c bad e L) ?_
  rintro _ _ ⟨rfl,rfl⟩
  refine Q.r ?_;(repeat (intro b1;refine Q.r ?_))
  exact N.r1 (RV.tmp rfl RV.nil) (Ent.refl _) ⟨by rw [decide_eq_false he],rfl⟩
set_option maxHeartbeats 1000000 in
theorem dead_spec (r : Nat) (a : Option Addr) (m c : Nat) (bad : Int) (L : List HP) :
  CallsS Tryz.prog 109 [.pointer (some ⟨r,0,none⟩)] (rdP r a m c bad :: L) (fun v L' => v = .bool (!decide (bad = 0)) ∧ L' = rdP r a m c bad :: L) := by
 refine CallsS.of_body Tryz.func109 rfl rfl rfl ?_
 refine Q.r ?_;(repeat (intro b1;refine Q.r ?_))
 exact N.r1 (RV.tmp rfl RV.nil) (Ent.refl _) ⟨rfl,rfl⟩
def numF (most : Nat) (bs : List UInt8) (bad : Int) : Nat × List UInt8 × Int := if bad ≠ 0 then (0,bs,bad) else if (takeF bs most).2.2 ≠ 0 then (0,bs,(takeF bs most).2.2) else ((takeF bs most).1,bs.drop (takeF bs most).2.1,0)
set_option maxHeartbeats 2000000 in
set_option maxRecDepth 100000 in
theorem rNum_spec (r : Nat) (a : Option Addr) (c : Nat) (bs : List UInt8) (bad : Int) (most : Nat) (M : Nat → Option Obj) (L : List HP) [hM : HasM M L] (h : SlM M a bs.length 1 (bs.map B)) (hc : bs.length ≤ c) (hb : bs.length ≤ 1000000000000) :
  CallsS Tryz.prog 66 [.pointer (some ⟨r,0,none⟩),.int .u64 most] (rdP r a bs.length c bad :: L)
   (fun v L' => v = .int .u64 (numF most bs bad).1 ∧ ∃ a' c',SlM M a' (numF most bs bad).2.1.length 1 ((numF most bs bad).2.1.map B) ∧ (numF most bs bad).2.1.length ≤ c' ∧ L' = rdP r a' (numF most bs bad).2.1.length c' (numF most bs bad).2.2 :: L) := by
 refine CallsS.of_body Tryz.func66 rfl rfl rfl ?_
 refine Q.r ?_;(repeat (intro b1;refine Q.r ?_))
 refine S.cr rfl (dead_spec r a bs.length c bad L) ?_
 rintro _ _ ⟨rfl,rfl⟩
 unfold numF
 by_cases hd : bad = 0
 ·subst hd
  rw [if_neg (by decide)]
  refine Q.r ?_;(repeat (intro b1;refine Q.r ?_))
  refine S.cr rfl (take_spec a c bs most (rdP r a bs.length c 0 :: L) (h.rd (hm := HasM.there)) hb) ?_
  rintro _ _ ⟨rfl,rfl⟩
  have hsz := takeF_size bs most
  generalize takeF bs most = q at *
  obtain ⟨v,sz,e⟩ := q
  dsimp only at *
  refine Q.r ?_;(repeat (intro b1;refine Q.r ?_))
  unfold restV
  dsimp only
  by_cases he : e = 0
  ·subst he
   rw [if_neg (by decide),if_neg (by decide)]
   refine S.cr rfl (rstep_spec r a (subA a c sz 1) bs.length c (bs.length - sz) (c - sz) 0 0 L) ?_
   rintro _ _ ⟨rfl,rfl⟩
   rw [if_pos rfl]
   refine Q.r ?_;(repeat (intro b1;refine Q.r ?_))
   have hs := h.fromA (l := sz) hsz hc
   rw [Nat.mul_one,← List.map_drop] at hs
   refine N.r1 (RV.tmp rfl RV.nil) (Ent.refl _) ⟨rfl,subA a c sz 1,c - sz,?_,?_,?_⟩
   ·dsimp only
    rw [List.length_drop]
    exact hs
   ·dsimp only
    rw [List.length_drop]
    omega
   ·dsimp only
    rw [List.length_drop]
  ·rw [if_pos he,if_pos he]
   refine S.cr rfl (rstep_spec r a none bs.length c 0 0 0 e L) ?_
   rintro _ _ ⟨rfl,rfl⟩
   rw [if_neg he,if_pos rfl]
   refine Q.r ?_;(repeat (intro b1;refine Q.r ?_))
   exact N.r1 (RV.tmp rfl RV.nil) (Ent.refl _) ⟨rfl,a,c,h,hc,rfl⟩
 ·rw [if_pos hd]
  refine Q.r ?_;(repeat (intro b1;refine Q.r ?_))
  exact N.r1 (RV.tmp rfl RV.nil) (Ent.refl _) ⟨rfl,a,c,h,hc,rfl⟩
set_option maxHeartbeats 1000000 in
theorem rLeft_spec (r : Nat) (a : Option Addr) (m c : Nat) (bad : Int) (L : List HP) :
  CallsS Tryz.prog 68 [.pointer (some ⟨r,0,none⟩)] (rdP r a m c bad :: L) (fun v L' => v = .int .i64 m ∧ L' = rdP r a m c bad :: L) := by
 refine CallsS.of_body Tryz.func68 rfl rfl rfl ?_
 refine Q.r ?_;(repeat (intro b1;refine Q.r ?_))
 exact N.r1 (RV.tmp rfl RV.nil) (Ent.refl _) ⟨rfl,rfl⟩
def endF (bs : List UInt8) (bad : Int) : Int := if bad ≠ 0 then bad else if bs.length = 0 then 0 else 4
set_option maxHeartbeats 1000000 in
theorem rEnd_spec (r : Nat) (a : Option Addr) (c : Nat) (bs : List UInt8) (bad : Int) (L : List HP) :
  CallsS Tryz.prog 69 [.pointer (some ⟨r,0,none⟩)] (rdP r a bs.length c bad :: L) (fun v L' => v = .int .i64 (endF bs bad) ∧ L' = rdP r a bs.length c bad :: L) := by
 refine CallsS.of_body Tryz.func69 rfl rfl rfl ?_
 unfold endF
 by_cases hd : bad = 0
 ·rw [if_neg (by simpa using hd)]
  by_cases hl : bs.length = 0
  ·rw [if_pos hl]
   refine Q.r ?_;(repeat (intro b1;refine Q.r ?_))
   exact N.r1 (RV.tmp rfl RV.nil) (Ent.refl _) ⟨rfl,rfl⟩
  ·rw [if_neg hl]
   refine Q.r ?_;(repeat (intro b1;refine Q.r ?_))
   exact N.r1 (RV.tmp rfl RV.nil) (Ent.refl _) ⟨rfl,rfl⟩
 ·rw [if_pos hd]
  refine Q.r ?_;(repeat (intro b1;refine Q.r ?_))
  exact N.r1 (RV.tmp rfl RV.nil) (Ent.refl _) ⟨rfl,rfl⟩
set_option maxHeartbeats 1000000 in
theorem rNew_spec (a : Option Addr) (c : Nat) (bs : List UInt8) (M : Nat → Option Obj) (L L0 : List HP) [hP : PickM L M L0] (h : RdS L a bs.length 1 (bs.map B)) (hb : bs.length ≤ 1000000) :
  CallsS Tryz.prog 65 [.slice a bs.length c] L (fun v L' => ∃ r a' M',v = .pointer (some ⟨r,0,none⟩) ∧ leM M M' ∧ SlM M' a' bs.length 1 (bs.map B) ∧ L' = rdP r a' bs.length bs.length 0 :: roM M' :: L0) := by
 refine CallsS.of_body Tryz.func65 rfl rfl rfl ?_
 refine Q.r ?_;(repeat (intro b1;refine Q.r ?_))
 refine S.mks (m := bs.length) rfl rfl (by rfl) (by omega) (by omega) (by omega) (fun b1 => ?_)
 refine Q.r ?_;(repeat (intro b1;refine Q.r ?_))
 have hput : putAt (rep bs.length [.int .u8 0]) 0 (bs.map B) = bs.map B := by
  have hl : (rep bs.length [Value.int .u8 0]).length = bs.length := by rw [rep_length];simp
  unfold putAt
  rw [List.take_zero,List.nil_append,Nat.zero_add,List.drop_eq_nil_of_le (by rw [hl,List.length_map];exact Nat.le_refl _),List.append_nil]
 rcases h.2 with h0 | ⟨b2,o2,rfl,hr⟩
 ·have hn : bs = [] := List.eq_nil_of_length_eq_zero h0
  subst hn
  refine S.cpy0 rfl rfl ?_
  refine opsS_ent (slO_fold (sz := 1) (m := 0) rfl) ?_
  refine opsS_absorb (fun M' hl hs => ?_)
  refine Q.r ?_;(repeat (intro b1;refine Q.r ?_))
  exact N.r1 (RV.tmp rfl RV.nil) (Ent.refl _) ⟨b1,_,M',rfl,hl,hs,rfl⟩
 ·refine S.cpy (l' := bs.map B) rfl rfl hr.sub (by simp) (by rw [rep_length];simp) (B_one _) hput ?_
  refine opsS_ent (slO_fold (sz := 1) (m := bs.length) (by simp)) ?_
  refine opsS_absorb (fun M' hl hs => ?_)
  refine Q.r ?_;(repeat (intro b1;refine Q.r ?_))
  exact N.r1 (RV.tmp rfl RV.nil) (Ent.refl _) ⟨b1,_,M',rfl,hl,hs,rfl⟩
end Go.Proofs.YtiampehfpgcogaaGreatDoor
namespace Go.Proofs.YtiampehfpgcogaaGreatDoor
open Go Go.SX
attribute [local irreducible] swp opsS thenS blockS retS CallsS St Ent YieldS anyS drawS
set_option maxHeartbeats 2000000 in
set_option maxRecDepth 100000 in
theorem equalB_spec (a a2 : Option Addr) (c c2 : Nat) (xs ys : List UInt8) (M : Nat → Option Obj) (L : List HP) (h1 : SlM M a xs.length 1 (xs.map B)) (h2 : SlM M a2 ys.length 1 (ys.map B)) (hb0 : ys.length ≤ 1000000000000) :
  CallsS Tryz.prog 70 [.slice a xs.length c,.slice a2 ys.length c2] (roM M :: L) (fun v L' => v = .bool (decide (xs = ys)) ∧ L' = roM M :: L) := by
 refine CallsS.of_body Tryz.func70 rfl rfl rfl ?_
 by_cases hl : xs.length = ys.length
 ·have hb : xs.length ≤ 1000000000000 := by omega
  refine Q.r ?_;(repeat (intro b1;refine Q.r ?_))
  refine swp_cutB (σ := Unit) (fun _ => []) (fun _ => roM M :: L) (fun _ => xs = ys) ?_ ?_
  ·refine swp_loop (σ := Nat) (fun k => [(0,.slice a xs.length c),(1,.slice a2 ys.length c2),(12,.int .i64 xs.length),(13,.int .i64 k)]) (fun _ => roM M :: L)
    (fun k => k ≤ xs.length ∧ xs.take k = ys.take k) (fun k => xs.length - k) 0 ⟨rfl,rfl,rfl,rfl,trivial⟩ (Ent.refl _) ⟨by omega,rfl⟩ ?_
   rintro k ⟨hk,ht⟩
   by_cases hlt : k < xs.length
   ·obtain ⟨x,hx⟩ := mem_get hlt
    obtain ⟨y,hy⟩ := mem_get (l := ys) (k := k) (by omega)
    obtain ⟨b,o,hia,cr1⟩ := SlM.cm1 (g := B) h1 hx rfl
    obtain ⟨b',o',hia2,cr2⟩ := SlM.cm1 (g := B) h2 hy rfl
    have hr := cr1.rd (L := roM M :: L)
    have hr' := cr2.rd (L := roM M :: L)
    have hrA := cr1.rd (L := [roM M])
    have hrA' := cr2.rd (L := [roM M])
    rw [hia,hia2]
    by_cases he : x = y
    ·subst he
     refine Q.r ?_;(repeat (intro b1;refine Q.r ?_))
     refine Q.dgo [true] [] [] [0,1,2,3,4,5,6,7,8] ?_
     refine Q.rd ?_;(repeat (intro b1;refine Q.rd ?_))
     refine Q.r ?_;(repeat (intro b1;refine Q.r ?_))
     exact ⟨k + 1,⟨rfl,rfl,rfl,rfl,trivial⟩,Ent.refl _,⟨by omega,by rw [take_snoc hx,take_snoc hy,ht]⟩,by omega⟩
    ·have hne : ¬ x.toNat = y.toNat := fun e => he (UInt8.toNat_inj.1 e)
     refine Q.r ?_;(repeat (intro b1;refine Q.r ?_))
     refine Q.dgo [true] [] [] [0,1,2,3,4,5,6,7,8] ?_
     refine Q.rd ?_;(repeat (intro b1;refine Q.rd ?_))
     refine Q.r ?_;(repeat (intro b1;refine Q.r ?_))
     refine N.r1 (RV.tmp rfl RV.nil) (Ent.refl _) ⟨?_,rfl⟩
     rw [decide_eq_false]
     intro e
     subst e
     rw [hx] at hy
     exact he (Option.some.inj hy)
   ·have hke : k = xs.length := by omega
    subst hke
    rw [List.take_length,hl,List.take_length] at ht
    refine Q.r ?_;(repeat (intro b1;refine Q.r ?_))
    exact ⟨(),trivial,Ent.refl _,ht⟩
  ·rintro _ he
   refine Q.r ?_;(repeat (intro b1;refine Q.r ?_))
   exact N.r1 (RV.tmp rfl RV.nil) (Ent.refl _) ⟨by rw [decide_eq_true he],rfl⟩
 ·refine Q.r ?_;(repeat (intro b1;refine Q.r ?_))
  exact N.r1 (RV.tmp rfl RV.nil) (Ent.refl _) ⟨by rw [decide_eq_false (fun e => hl (by rw [e]))],rfl⟩
theorem peekF_numB : ∀ (m : Nat) (i n : Nat) (rest : List UInt8),i ≤ 9 → m * 2 ^ (7 * i) < 18446744073709551616 → (0 < i → 0 < m) → peekF (numB m ++ rest) i n = (n + m * 2 ^ (7 * i),i + (numB m).length,0) := by
 intro m
 induction m using Nat.strongRecOn with
 | ind m ih =>
  intro i n rest hi hm hp
  by_cases hl : m < 128
  ·rw [numB_lo hl]
   show peekF (UInt8.ofNat m :: rest) i n = _
   have e : (UInt8.ofNat m).toNat = m := by rw [UInt8.toNat_ofNat'];omega
   have h9 : ¬ (i = 9 ∧ 1 < m) := by
    rintro ⟨rfl,h1⟩
    have e2 : (2 : Nat) ^ (7 * 9) = 9223372036854775808 := by decide
    rw [e2] at hm
    omega
   rw [peekF_cons,e,if_neg h9,if_pos hl,if_neg (by omega),Nat.mod_eq_of_lt hl]
   rfl
  ·rw [numB_hi hl]
   show peekF (UInt8.ofNat (m % 128 + 128) :: (numB (m / 128) ++ rest)) i n = _
   have e : (UInt8.ofNat (m % 128 + 128)).toNat = m % 128 + 128 := by rw [UInt8.toNat_ofNat'];omega
   have hp2 : 2 ^ (7 * (i + 1)) = 128 * 2 ^ (7 * i) := by rw [Nat.mul_add,Nat.pow_add,Nat.mul_comm]
   have hi9 : i < 9 := by
    by_cases h : i = 9
    ·subst h
     have e2 : (2 : Nat) ^ (7 * 9) = 9223372036854775808 := by decide
     rw [e2] at hm
     omega
    ·omega
   have hdm : m = 128 * (m / 128) + m % 128 := (Nat.div_add_mod m 128).symm
   have hmul : m / 128 * 2 ^ (7 * (i + 1)) + m % 128 * 2 ^ (7 * i) = m * 2 ^ (7 * i) := by
    rw [hp2]
    conv => rhs;rw [hdm,Nat.add_mul]
    rw [Nat.mul_left_comm,Nat.mul_assoc]
   rw [peekF_cons,e,if_neg (by omega),if_neg (by omega),ih (m / 128) (by omega) (i + 1) _ rest (by omega) (by omega) (by omega),List.length_cons]
   have e4 : (m % 128 + 128) % 128 = m % 128 := by omega
   rw [e4,Nat.add_assoc,Nat.add_comm (m % 128 * 2 ^ (7 * i)),hmul]
   congr 2
   omega
theorem takeF_num {m most : Nat} (rest : List UInt8) (hm : m < 18446744073709551616) (h : m ≤ most) : takeF (numB m ++ rest) most = (m,(numB m).length,0) := by
 unfold takeF
 rw [peekF_numB m 0 0 rest (by omega) (by simpa using hm) (by omega),if_neg (by simp),if_neg (by simpa using h)]
 simp
theorem numF_num {m most : Nat} (rest : List UInt8) (hm : m < 18446744073709551616) (h : m ≤ most) : numF most (numB m ++ rest) 0 = (m,rest,0) := by
 unfold numF
 rw [takeF_num rest hm h,if_neg (by simp),if_neg (by simp),List.drop_left]
theorem numF_numI {z : Int} {most : Nat} (rest : List UInt8) (h0 : 0 ≤ z) (hm : z ≤ 18446744073709551615) (h : z ≤ most) : numF most (numI z ++ rest) 0 = (z.toNat,rest,0) := by
 unfold numI
 rw [if_neg (by omega)]
 exact numF_num rest (by omega) (by omega)
def hv : List UInt8 → Nat
 | [] => 0
 | b :: l => b.toNat % 128 + 128 * hv l
theorem hv_snoc : ∀ (l : List UInt8) (b : UInt8),hv (l ++ [b]) = hv l + b.toNat % 128 * 2 ^ (7 * l.length)
 | [],b => by simp [hv]
 | x :: l,b => by
  have hp2 : 2 ^ (7 * (l.length + 1)) = 128 * 2 ^ (7 * l.length) := by rw [Nat.mul_add,Nat.pow_add,Nat.mul_comm]
  show x.toNat % 128 + 128 * hv (l ++ [b]) = x.toNat % 128 + 128 * hv l + b.toNat % 128 * 2 ^ (7 * (l.length + 1))
  rw [hv_snoc l b,hp2,Nat.mul_add,Nat.mul_left_comm 128]
  omega
theorem hv_drop : ∀ (m : Nat) (l : List UInt8),hv (l.drop m) ≤ hv l
 | 0,l => by simp
 | m + 1,[] => by simp
 | m + 1,b :: l => by
  rw [List.drop_succ_cons]
  have := hv_drop m l
  show _ ≤ b.toNat % 128 + 128 * hv l
  omega
set_option maxHeartbeats 4000000 in
set_option maxRecDepth 100000 in
theorem RTake_spec (a : Option Addr) (c : Nat) (bs : List UInt8) (most : Nat) (L : List HP) (h : RdS L a bs.length 1 (bs.map B)) (hb : bs.length ≤ 1000000000000) :
  CallsS Tryz.prog 112 [.slice a bs.length c,.int .u64 most] L (fun v L' => v = .tuple #[.int .u64 (takeF bs most).1,restV a c bs (takeF bs most),.int .i64 (takeF bs most).2.2] ∧ L' = L) := by
 have hat := RdS.atA h
 have hrs : RdS L a bs.length 1 (bs.flatMap cB) := by rw [flat_B];exact h
 unfold takeF
 refine CallsS.of_body Tryz.func112 rfl rfl rfl ?_
 refine Q.r ?_;(repeat (intro b1;refine Q.r ?_))
 refine swp_loop (σ := Nat) (fun i => [(0,.slice a bs.length c),(1,.int .u64 most),(7,.int .i64 (i + 1 : Nat))]) (fun _ => L)
  (fun i => i ≤ bs.length ∧ i ≤ 9 ∧ hv (bs.take i) < 2 ^ (7 * i) ∧ peekF (bs.drop i) i (hv (bs.take i)) = peekF bs 0 0) (fun i => bs.length - i) 0 ⟨rfl,rfl,rfl,trivial⟩ (Ent.refl _) ⟨Nat.zero_le _,Nat.zero_le _,by simp [hv],rfl⟩ ?_
 rintro i ⟨hi,h9,hn,hp⟩
 by_cases hlt : i < bs.length
 ·obtain ⟨x,hx⟩ := mem_get hlt
  have hd : bs.drop i = x :: bs.drop (i + 1) := by
   rw [List.drop_eq_getElem_cons hlt]
   congr 1
   exact (List.getElem?_eq_some_iff.1 hx).2
  have htk : hv (bs.take (i + 1)) = hv (bs.take i) + x.toNat % 128 * 2 ^ (7 * i) := by
   rw [take_snoc hx,hv_snoc,List.length_take,Nat.min_eq_left hi]
  rw [hd,peekF_cons,← htk] at hp
  have hx8 : x.toNat < 256 := x.toNat_lt
  obtain ⟨b,o,hia,hr⟩ := RdS.elem (g := cB) (fun _ => rfl) hrs hx rfl
  have hgo : ∀ {R : Prop},(i = 9 → 1 < x.toNat → R) → (i = 9 → x.toNat ≤ 1 → x.toNat < 128 → R) → (i ≠ 9 → 128 ≤ x.toNat → R) → (i ≠ 9 → x.toNat < 128 → R) → R := fun h1 h2 h3 h4 => by
   by_cases e : i = 9
   ·by_cases e2 : 1 < x.toNat
    ·exact h1 e e2
    ·exact h2 e (by omega) (by omega)
   ·by_cases e2 : 128 ≤ x.toNat
    ·exact h3 e e2
    ·exact h4 e (by omega)
  have hm9 : (i = 9 → x.toNat % 128 ≤ 1) → hv (bs.take (i + 1)) < 18446744073709551616 := fun e => by
   rw [htk]
   exact (acc_or (b := x.toNat % 128) hn h9 (by omega) e).1
  have hm2 : hv (bs.take (i + 1)) < 2 ^ (7 * (i + 1)) := by
   rw [htk]
   exact acc_lt (b := x.toNat % 128) hn (by omega)
  have hle : ∀ (m : Nat),hv ((bs.take (i + 1)).drop m) ≤ hv (bs.take (i + 1)) := fun m => hv_drop m _
  have hcn : ∀ (m : Nat),m ≤ i → ∃ y,bs[m]? = some y ∧ (bs.take (i + 1)).drop m = y :: (bs.take (i + 1)).drop (m + 1) := fun m hm => by
   have h1 : m < (bs.take (i + 1)).length := by rw [List.length_take];omega
   refine ⟨(bs.take (i + 1))[m],?_,List.drop_eq_getElem_cons h1⟩
   have h2 := List.getElem?_eq_getElem h1
   rw [List.getElem?_take,if_pos (by omega)] at h2
   exact h2
  have hi9 : ((i + 1 : Nat) : Int) - 1 = (i : Int) := by omega
  rw [hia]
  by_cases c9 : i = 9 ∧ 1 < x.toNat
  ·obtain ⟨c91,c92⟩ := c9
   rw [if_pos ⟨c91,c92⟩] at hp
   rw [← hp]
   subst c91
   refine Q.r ?_;(repeat (intro b1;refine Q.r ?_))
   exact N.r3 (RV.tmp rfl (RV.tmp rfl (RV.tmp rfl RV.nil))) (Ent.refl _) ⟨rfl,rfl⟩
  rw [if_neg c9] at hp
  by_cases c8 : 128 ≤ x.toNat
  ·have c91 : ¬ i = 9 := by omega
   rw [if_neg (by omega)] at hp
   refine Q.r ?_;(repeat (intro b1;refine Q.r ?_))
   rw [hi9]
   refine Q.r ?_;(repeat (intro b1;refine Q.r ?_))
   exact ⟨i + 1,⟨rfl,rfl,rfl,trivial⟩,Ent.refl _,⟨by omega,by omega,hm2,hp⟩,by omega⟩
  have c7 : x.toNat < 128 := by omega
  rw [if_pos c7] at hp
  have hm := hm9 fun _ => by omega
  have hgo : ∀ {R : Prop},(i = 9 → R) → (i ≠ 9 → R) → R := fun h1 h2 => by
   by_cases e : i = 9
   ·exact h1 e
   ·exact h2 e
  have hgk : ∀ {R : Prop},(0 < i → R) → (i = 0 → R) → R := fun h1 h2 => by
   by_cases e : i = 0
   ·exact h2 e
   ·exact h1 (by omega)
  have h9r : i = 9 → RdC L b (o + 9 * 1) [B x] := fun e => by have := hr;rw [e] at this;exact this
  refine hgo (fun c91 => ?_) (fun c91 => ?_)
  ·have hr9 := h9r c91
   have c6 : x.toNat ≤ 1 := by omega
   have h9l : 9 < bs.length := by omega
   refine Q.r ?_;(repeat (intro b1;refine Q.r ?_))
   rw [hi9]
   refine Q.r ?_;(repeat (intro b1;refine Q.r ?_))
   rw [hi9]
   refine swp_cutB (σ := Unit) (fun _ => [(0,.slice (some ⟨b,o,none⟩) bs.length c),(1,.int .u64 most),(7,.int .i64 (i + 1 : Nat)),(8,.int .u64 (hv (bs.take (i + 1))))]) (fun _ => L) (fun _ => True) ?_ ?_
   ·refine swp_loop (σ := Nat) (fun m => [(0,.slice (some ⟨b,o,none⟩) bs.length c),(1,.int .u64 most),(7,.int .i64 (i + 1 : Nat)),(8,.int .u64 (hv ((bs.take (i + 1)).drop m))),(9,.int .i64 ((m : Int) - 1))]) (fun _ => L)
     (fun m => m ≤ i + 1) (fun m => m) (i + 1) ⟨rfl,rfl,rfl,congrArg some (congrArg (Value.int .u64) (by rw [List.drop_eq_nil_of_le (by rw [List.length_take];omega)];rfl)),congrArg some (congrArg (Value.int .i64) (by omega)),trivial⟩ (Ent.refl _) (Nat.le_refl _) ?_
    intro m hmi
    cases m with
    | zero =>
     refine Q.r ?_;(repeat (intro b1;refine Q.r ?_))
     exact ⟨(),⟨rfl,rfl,rfl,rfl,trivial⟩,Ent.refl _,trivial⟩
    | succ m =>
     have hm1 : ((m + 1 : Nat) : Int) - 1 = (m : Int) := by omega
     obtain ⟨y,hy,hdr⟩ := hcn m (by omega)
     obtain ⟨b',o',hia',hry⟩ := RdS.elem (g := cB) (fun _ => rfl) hrs hy rfl
     rw [hia] at hia'
     obtain ⟨rfl,rfl⟩ : b = b' ∧ o = o' := by
      injection hia' with e
      injection e with e1 e2
      exact ⟨e1,e2⟩
     clear hia'
     have hl := hle m
     have hl2 := hle (m + 1)
     rw [hdr] at hl
     have hv1 : hv (y :: (bs.take (i + 1)).drop (m + 1)) = y.toNat % 128 + 128 * hv ((bs.take (i + 1)).drop (m + 1)) := rfl
     rw [hv1] at hl
     have hy8 : y.toNat < 256 := y.toNat_lt
     rw [hm1]
     refine Q.r ?_;(repeat (intro b1;refine Q.r ?_))
     refine S.y (Y.mul rfl rfl) ?_
     rw [wrap_u64 (by omega) (by omega)]
     refine Q.r ?_;(repeat (intro b1;refine Q.r ?_))
     refine S.y (Y.rem rfl rfl (by decide)) ?_
     rw [Int.tmod_eq_emod_of_nonneg (by omega)]
     refine Q.r ?_;(repeat (intro b1;refine Q.r ?_))
     refine S.y (Y.cvi rfl) ?_
     rw [wrap_u64 (by omega) (by omega)]
     refine Q.r ?_;(repeat (intro b1;refine Q.r ?_))
     refine S.y (Y.add rfl rfl) ?_
     rw [wrap_u64 (by omega) (by omega)]
     refine Q.r ?_;(repeat (intro b1;refine Q.r ?_))
     exact ⟨m,⟨rfl,rfl,rfl,congrArg some (congrArg (Value.int .u64) (by rw [hdr,hv1];push_cast;omega)),rfl,trivial⟩,Ent.refl _,by omega,by omega⟩
   rintro _ _
   refine hgk (fun ck => ?_) (fun ck => ?_)
   ·refine Q.r ?_;(repeat (intro b1;refine Q.r ?_))
    rw [hi9]
    refine Q.r ?_;(repeat (intro b1;refine Q.r ?_))
    by_cases c0 : x.toNat = 0
    ·rw [if_pos ⟨c0,ck⟩] at hp
     rw [← hp]
     refine Q.r ?_;(repeat (intro b1;refine Q.r ?_))
     exact N.r3 (RV.tmp rfl (RV.tmp rfl (RV.tmp rfl RV.nil))) (Ent.refl _) ⟨rfl,rfl⟩
    ·rw [if_neg (fun h => c0 h.1)] at hp
     rw [← hp]
     dsimp only
     by_cases cm : most < hv (bs.take (i + 1))
     ·rw [if_neg (by decide),if_pos cm]
      refine Q.r ?_;(repeat (intro b1;refine Q.r ?_))
      exact N.r3 (RV.tmp rfl (RV.tmp rfl (RV.tmp rfl RV.nil))) (Ent.refl _) ⟨rfl,rfl⟩
     ·rw [if_neg (by decide),if_neg cm]
      refine Q.r ?_;(repeat (intro b1;refine Q.r ?_))
      refine Q.dgo [] [] [] [0,1,2,3,4,5,6] ?_
      refine Q.rd ?_;(repeat (intro b1;refine Q.rd ?_))
      refine D.y rfl rfl rfl (by kernel_rfl) (Y.slFa rfl rfl rfl (by omega) (.inr ⟨b,o,rfl⟩)) ?_
      refine Q.rd ?_;(repeat (intro b1;refine Q.rd ?_))
      refine Q.r ?_;(repeat (intro b1;refine Q.r ?_))
      exact N.r3 (RV.tmp rfl (RV.tmp rfl (RV.tmp rfl RV.nil))) (Ent.refl _) ⟨rfl,rfl⟩
   ·exact absurd ck (by omega)
  ·refine Q.r ?_;(repeat (intro b1;refine Q.r ?_))
   rw [hi9]
   refine Q.r ?_;(repeat (intro b1;refine Q.r ?_))
   rw [hi9]
   refine swp_cutB (σ := Unit) (fun _ => [(0,.slice (some ⟨b,o,none⟩) bs.length c),(1,.int .u64 most),(7,.int .i64 (i + 1 : Nat)),(8,.int .u64 (hv (bs.take (i + 1))))]) (fun _ => L) (fun _ => True) ?_ ?_
   ·refine swp_loop (σ := Nat) (fun m => [(0,.slice (some ⟨b,o,none⟩) bs.length c),(1,.int .u64 most),(7,.int .i64 (i + 1 : Nat)),(8,.int .u64 (hv ((bs.take (i + 1)).drop m))),(9,.int .i64 ((m : Int) - 1))]) (fun _ => L)
     (fun m => m ≤ i + 1) (fun m => m) (i + 1) ⟨rfl,rfl,rfl,congrArg some (congrArg (Value.int .u64) (by rw [List.drop_eq_nil_of_le (by rw [List.length_take];omega)];rfl)),congrArg some (congrArg (Value.int .i64) (by omega)),trivial⟩ (Ent.refl _) (Nat.le_refl _) ?_
    intro m hmi
    cases m with
    | zero =>
     refine Q.r ?_;(repeat (intro b1;refine Q.r ?_))
     exact ⟨(),⟨rfl,rfl,rfl,rfl,trivial⟩,Ent.refl _,trivial⟩
    | succ m =>
     have hm1 : ((m + 1 : Nat) : Int) - 1 = (m : Int) := by omega
     obtain ⟨y,hy,hdr⟩ := hcn m (by omega)
     obtain ⟨b',o',hia',hry⟩ := RdS.elem (g := cB) (fun _ => rfl) hrs hy rfl
     rw [hia] at hia'
     obtain ⟨rfl,rfl⟩ : b = b' ∧ o = o' := by
      injection hia' with e
      injection e with e1 e2
      exact ⟨e1,e2⟩
     clear hia'
     have hl := hle m
     have hl2 := hle (m + 1)
     rw [hdr] at hl
     have hv1 : hv (y :: (bs.take (i + 1)).drop (m + 1)) = y.toNat % 128 + 128 * hv ((bs.take (i + 1)).drop (m + 1)) := rfl
     rw [hv1] at hl
     have hy8 : y.toNat < 256 := y.toNat_lt
     rw [hm1]
     refine Q.r ?_;(repeat (intro b1;refine Q.r ?_))
     refine S.y (Y.mul rfl rfl) ?_
     rw [wrap_u64 (by omega) (by omega)]
     refine Q.r ?_;(repeat (intro b1;refine Q.r ?_))
     refine S.y (Y.rem rfl rfl (by decide)) ?_
     rw [Int.tmod_eq_emod_of_nonneg (by omega)]
     refine Q.r ?_;(repeat (intro b1;refine Q.r ?_))
     refine S.y (Y.cvi rfl) ?_
     rw [wrap_u64 (by omega) (by omega)]
     refine Q.r ?_;(repeat (intro b1;refine Q.r ?_))
     refine S.y (Y.add rfl rfl) ?_
     rw [wrap_u64 (by omega) (by omega)]
     refine Q.r ?_;(repeat (intro b1;refine Q.r ?_))
     exact ⟨m,⟨rfl,rfl,rfl,congrArg some (congrArg (Value.int .u64) (by rw [hdr,hv1];push_cast;omega)),rfl,trivial⟩,Ent.refl _,by omega,by omega⟩
   rintro _ _
   refine hgk (fun ck => ?_) (fun ck => ?_)
   ·refine Q.r ?_;(repeat (intro b1;refine Q.r ?_))
    rw [hi9]
    refine Q.r ?_;(repeat (intro b1;refine Q.r ?_))
    by_cases c0 : x.toNat = 0
    ·rw [if_pos ⟨c0,ck⟩] at hp
     rw [← hp]
     refine Q.r ?_;(repeat (intro b1;refine Q.r ?_))
     exact N.r3 (RV.tmp rfl (RV.tmp rfl (RV.tmp rfl RV.nil))) (Ent.refl _) ⟨rfl,rfl⟩
    ·rw [if_neg (fun h => c0 h.1)] at hp
     rw [← hp]
     dsimp only
     by_cases cm : most < hv (bs.take (i + 1))
     ·rw [if_neg (by decide),if_pos cm]
      refine Q.r ?_;(repeat (intro b1;refine Q.r ?_))
      exact N.r3 (RV.tmp rfl (RV.tmp rfl (RV.tmp rfl RV.nil))) (Ent.refl _) ⟨rfl,rfl⟩
     ·rw [if_neg (by decide),if_neg cm]
      refine Q.r ?_;(repeat (intro b1;refine Q.r ?_))
      refine Q.dgo [] [] [] [0,1,2,3,4,5,6] ?_
      refine Q.rd ?_;(repeat (intro b1;refine Q.rd ?_))
      refine D.y rfl rfl rfl (by kernel_rfl) (Y.slFa rfl rfl rfl (by omega) (.inr ⟨b,o,rfl⟩)) ?_
      refine Q.rd ?_;(repeat (intro b1;refine Q.rd ?_))
      refine Q.r ?_;(repeat (intro b1;refine Q.r ?_))
      exact N.r3 (RV.tmp rfl (RV.tmp rfl (RV.tmp rfl RV.nil))) (Ent.refl _) ⟨rfl,rfl⟩
   ·rw [if_neg (fun h => by omega)] at hp
    rw [← hp]
    dsimp only
    by_cases cm : most < hv (bs.take (i + 1))
    ·rw [if_neg (by decide),if_pos cm]
     refine Q.r ?_;(repeat (intro b1;refine Q.r ?_))
     exact N.r3 (RV.tmp rfl (RV.tmp rfl (RV.tmp rfl RV.nil))) (Ent.refl _) ⟨rfl,rfl⟩
    ·rw [if_neg (by decide),if_neg cm]
     refine Q.r ?_;(repeat (intro b1;refine Q.r ?_))
     refine Q.dgo [] [] [] [0,1,2,3,4,5,6] ?_
     refine Q.rd ?_;(repeat (intro b1;refine Q.rd ?_))
     refine D.y rfl rfl rfl (by kernel_rfl) (Y.slFa rfl rfl rfl (by omega) (.inr ⟨b,o,rfl⟩)) ?_
     refine Q.rd ?_;(repeat (intro b1;refine Q.rd ?_))
     refine Q.r ?_;(repeat (intro b1;refine Q.r ?_))
     exact N.r3 (RV.tmp rfl (RV.tmp rfl (RV.tmp rfl RV.nil))) (Ent.refl _) ⟨rfl,rfl⟩
 ·have hke : i = bs.length := by omega
  subst hke
  rw [List.drop_length] at hp
  rw [← hp]
  refine Q.r ?_;(repeat (intro b1;refine Q.r ?_))
  exact N.r3 (RV.tmp rfl (RV.tmp rfl (RV.tmp rfl RV.nil))) (Ent.refl _) ⟨rfl,rfl⟩
structure RS where
 bs : List UInt8
 bad : Int
 good : Bool
def rdF (most : Nat) (s : RS) : Nat × RS := ((numF most s.bs s.bad).1,⟨(numF most s.bs s.bad).2.1,(numF most s.bs s.bad).2.2,s.good⟩)
def stF (last : Nat) (s : RS) : Nat × RS := ((rdF 1099511627776 s).1,{ (rdF 1099511627776 s).2 with good := s.good && decide (0 < (rdF 1099511627776 s).1) && decide ((rdF 1099511627776 s).1 ≤ last) })
def dnF (last : Nat) : Nat → RS × List (Int × Int) → RS × List (Int × Int)
 | 0,s => s
 | k + 1,s => if (stF last (rdF 18446744073709551615 s.1).2).2.bs.length = 0 then ((stF last (rdF 18446744073709551615 s.1).2).2,putL s.2 ((rdF 18446744073709551615 s.1).1 : Int) ((stF last (rdF 18446744073709551615 s.1).2).1 : Int))
  else dnF last k ((stF last (rdF 18446744073709551615 s.1).2).2,putL s.2 ((rdF 18446744073709551615 s.1).1 : Int) ((stF last (rdF 18446744073709551615 s.1).2).1 : Int))
def ptF (sh : Nat) : Nat → RS × List Int → RS × List Int
 | 0,s => s
 | k + 1,s => ptF sh k ((rdF sh s.1).2,s.2 ++ [((rdF sh s.1).1 : Int)])
def riseK (ps : List Int) (k : Nat) : Bool := decide (∀ i,i < k → i = 0 ∨ ps.getD (i - 1) 0 < ps.getD i 0)
def headK (ps : List Int) : Bool := decide (0 < ps.length) && decide (0 < ps.getD 0 0)
def triF (sh last : Nat) (s : RS) : RS × TR :=
 let x := rdF 18446744073709551615 s
 let y := rdF 18446744073709551615 x.2
 let z := stF last y.2
 let n := rdF 4 z.2
 let q := ptF sh n.1 (n.2,[])
 ({ q.1 with good := q.1.good && headK q.2 && riseK q.2 q.2.length },⟨x.1,y.1,z.1,0,0,q.2,[],[],[]⟩)
def trF (sh last : Nat) : Nat → RS × List (Int × TR) → RS × List (Int × TR)
 | 0,s => s
 | k + 1,s => trF sh last k ((triF sh last s.1).1,putL s.2 (triF sh last s.1).2.txn (triF sh last s.1).2)
theorem rdF_len (most : Nat) (s : RS) : (rdF most s).2.bs.length ≤ s.bs.length := by
 unfold rdF numF
 split
 ·exact Nat.le_refl _
 ·split
  ·exact Nat.le_refl _
  ·simp only [List.length_drop];omega
theorem peekF_lt : ∀ (bs : List UInt8) (i n : Nat),(peekF bs i n).2.2 = 0 → n < 2 ^ (7 * i) → i ≤ 9 → (peekF bs i n).1 < 18446744073709551616
 | [],i,n,h,_,_ => by simp [peekF] at h
 | b :: bs,i,n,h,hn,hi => by
  rw [peekF_cons] at h ⊢
  have hb : b.toNat % 128 < 128 := Nat.mod_lt _ (by decide)
  split at h
  ·simp at h
  ·rename_i h9
   rw [if_neg h9]
   split at h
   ·rename_i h1
    rw [if_pos h1]
    split at h
    ·simp at h
    ·rename_i h0
     rw [if_neg h0]
     exact (acc_or hn hi hb fun e => by omega).1
   ·rename_i h1
    rw [if_neg h1]
    exact peekF_lt bs (i + 1) _ h (acc_lt hn hb) (by have := b.toNat_lt;omega)
theorem rdF_le (most : Nat) (s : RS) : (rdF most s).1 ≤ most ∧ (rdF most s).1 < 18446744073709551616 := by
 unfold rdF numF
 split
 ·simp
 ·split
  ·simp
  ·rename_i h
   have h2 : (takeF s.bs most).2.2 = 0 := by simpa using h
   dsimp only
   unfold takeF at h2 ⊢
   by_cases he : (peekF s.bs 0 0).2.2 ≠ 0
   ·rw [if_pos he];simp
   ·rw [if_neg he] at h2 ⊢
    by_cases hm : most < (peekF s.bs 0 0).1
    ·rw [if_pos hm];simp
    ·rw [if_neg hm]
     exact ⟨by dsimp only;omega,peekF_lt s.bs 0 0 (by simpa using he) (by simp) (by omega)⟩
theorem stF_len (last : Nat) (s : RS) : (stF last s).2.bs.length ≤ s.bs.length := rdF_len _ s
abbrev rcP (b r : Nat) : HP := pt b (cl [.pointer (some ⟨r,0,none⟩)] 132)
abbrev fcP (b q : Nat) : HP := pt b (cl [ptrG q] 24)
abbrev gdP (b : Nat) (g : Bool) : HP := pt b (cl [.bool g] 4)
set_option maxHeartbeats 2000000 in
set_option maxRecDepth 100000 in
theorem stamp_spec (b7 b8 b5 r q mt md : Nat) (a : Option Addr) (c : Nat) (s : RS) (j : JG) (last : Nat) (M : Nat → Option Obj) (L : List HP) (h : SlM M a s.bs.length 1 (s.bs.map B)) (hc : s.bs.length ≤ c) (hb : s.bs.length ≤ 1000000000000) (hl : j.last = last) :
  CallsS Tryz.prog 67 [.pointer (some ⟨b7,0,none⟩),.pointer (some ⟨b8,0,none⟩),.pointer (some ⟨b5,0,none⟩)] (rdP r a s.bs.length c s.bad :: gdP b8 s.good :: rcP b7 r :: fcP b5 q :: gP q j mt md :: roM M :: L)
   (fun v L' => v = .int .u64 (stF last s).1 ∧ ∃ a' c',SlM M a' (stF last s).2.bs.length 1 ((stF last s).2.bs.map B) ∧ (stF last s).2.bs.length ≤ c' ∧ L' = rdP r a' (stF last s).2.bs.length c' (stF last s).2.bad :: gdP b8 (stF last s).2.good :: rcP b7 r :: fcP b5 q :: gP q j mt md :: roM M :: L) := by
 refine CallsS.of_body Tryz.func67 rfl rfl rfl ?_
 have hn := rNum_spec r a c s.bs s.bad 1099511627776 M (gdP b8 s.good :: rcP b7 r :: fcP b5 q :: gP q j mt md :: roM M :: L) h hc hb
 have hx : (numF 1099511627776 s.bs s.bad).1 ≤ 1099511627776 := (rdF_le 1099511627776 s).1
 unfold stF rdF
 dsimp only
 generalize numF 1099511627776 s.bs s.bad = z at hn hx ⊢
 obtain ⟨x,bs',bad'⟩ := z
 dsimp only at hn hx ⊢
 refine Q.r ?_;(repeat (intro b1;refine Q.r ?_))
 refine S.cr rfl hn ?_
 rintro _ _ ⟨rfl,a',c',hs',hc',rfl⟩
 clear hn
 obtain ⟨sbs,sbad,g⟩ := s
 dsimp only at *
 cases g with
 | false =>
  refine Q.r ?_;(repeat (intro b1;refine Q.r ?_))
  exact N.r1 (RV.tmp rfl RV.nil) (Ent.refl _) ⟨rfl,a',c',hs',hc',by simp⟩
 | true =>
  by_cases h0 : 0 < x
  ·have h0' : (0 : Int) < (x : Int) := by omega
   by_cases h1 : x ≤ last
   ·have h1' : (x : Int) ≤ j.last := by omega
    refine Q.r ?_;(repeat (intro b1;refine Q.r ?_))
    exact N.r1 (RV.tmp rfl RV.nil) (Ent.refl _) ⟨rfl,a',c',hs',hc',by simp [h0,h1,hl]⟩
   ·have h1' : ¬ (x : Int) ≤ j.last := by omega
    refine Q.r ?_;(repeat (intro b1;refine Q.r ?_))
    exact N.r1 (RV.tmp rfl RV.nil) (Ent.refl _) ⟨rfl,a',c',hs',hc',by simp [h0,h1,hl]⟩
  ·have h0' : ¬ (0 : Int) < (x : Int) := by omega
   refine Q.r ?_;(repeat (intro b1;refine Q.r ?_))
   exact N.r1 (RV.tmp rfl RV.nil) (Ent.refl _) ⟨rfl,a',c',hs',hc',by simp [h0]⟩
end Go.Proofs.YtiampehfpgcogaaGreatDoor
namespace Go.Proofs.YtiampehfpgcogaaGreatDoor
open Go Go.SX
theorem peekF_pos : ∀ (bs : List UInt8) (i n : Nat),(peekF bs i n).2.2 = 0 → i + 1 ≤ (peekF bs i n).2.1
 | [],i,n,h => by simp [peekF] at h
 | b :: bs,i,n,h => by
  rw [peekF_cons] at h ⊢
  split at h
  ·simp at h
  ·rename_i h9
   rw [if_neg h9]
   split at h
   ·rename_i h1
    rw [if_pos h1]
    split at h
    ·simp at h
    ·rename_i h0
     rw [if_neg h0]
     exact Nat.le_refl _
   ·rename_i h1
    rw [if_neg h1]
    have := peekF_pos bs (i + 1) _ h
    omega
theorem rdF_dec {m : Nat} {s : RS} (h : (rdF m s).2.bad = 0) : s.bad = 0 ∧ (rdF m s).2.bs.length + 1 ≤ s.bs.length := by
 unfold rdF numF at h ⊢
 by_cases h1 : s.bad ≠ 0
 ·rw [if_pos h1] at h
  exact absurd h h1
 ·rw [if_neg h1] at h ⊢
  by_cases h2 : (takeF s.bs m).2.2 ≠ 0
  ·rw [if_pos h2] at h
   exact absurd h h2
  ·rw [if_neg h2]
   refine ⟨Classical.not_not.1 h1,?_⟩
   have h3 := takeF_size s.bs m
   have h4 : 1 ≤ (takeF s.bs m).2.1 := by
    have h5 : (takeF s.bs m).2.2 = 0 := Classical.not_not.1 h2
    unfold takeF at h5 ⊢
    by_cases h6 : (peekF s.bs 0 0).2.2 ≠ 0
    ·rw [if_pos h6] at h5
     exact absurd h5 h6
    ·rw [if_neg h6] at h5 ⊢
     by_cases h7 : m < (peekF s.bs 0 0).1
     ·rw [if_pos h7] at h5
      simp at h5
     ·rw [if_neg h7]
      have := peekF_pos s.bs 0 0 (Classical.not_not.1 h6)
      dsimp only;omega
   dsimp only
   rw [List.length_drop]
   omega
theorem stF_dec {l : Nat} {s : RS} (h : (stF l s).2.bad = 0) : s.bad = 0 ∧ (stF l s).2.bs.length + 1 ≤ s.bs.length := rdF_dec (m := 1099511627776) h
theorem dnF_dec (l : Nat) : ∀ (k : Nat) (s : RS × List (Int × Int)),(dnF l k s).1.bad = 0 → s.1.bad = 0 ∧ (dnF l k s).1.bs.length + (dnF l k s).2.length ≤ s.1.bs.length + s.2.length
 | 0,s,h => ⟨h,Nat.le_refl _⟩
 | k + 1,s,h => by
  have hp := putL_len s.2 ((rdF 18446744073709551615 s.1).1 : Int) ((stF l (rdF 18446744073709551615 s.1).2).1 : Int)
  unfold dnF at h ⊢
  split at h
  ·rename_i h0
   rw [if_pos h0]
   have h1 := stF_dec h
   have h2 := rdF_dec h1.1
   refine ⟨h2.1,?_⟩
   dsimp only
   omega
  ·rename_i h0
   rw [if_neg h0]
   have h3 := dnF_dec l k _ h
   have h1 := stF_dec h3.1
   have h2 := rdF_dec h1.1
   refine ⟨h2.1,Nat.le_trans h3.2 ?_⟩
   dsimp only
   omega
theorem ptF_bad (sh : Nat) : ∀ (k : Nat) (s : RS × List Int),(ptF sh k s).1.bad = 0 → s.1.bad = 0
 | 0,s,h => h
 | k + 1,s,h => by
  unfold ptF at h
  exact (rdF_dec (ptF_bad sh k _ h)).1
theorem triF_bad {sh l : Nat} {s : RS} (h : (triF sh l s).1.bad = 0) : s.bad = 0 := by
 unfold triF at h
 dsimp only at h
 exact (rdF_dec (rdF_dec (stF_dec (rdF_dec (ptF_bad sh _ _ h)).1).1).1).1
theorem trF_bad (sh l : Nat) : ∀ (k : Nat) (s : RS × List (Int × TR)),(trF sh l k s).1.bad = 0 → s.1.bad = 0
 | 0,s,h => h
 | k + 1,s,h => by
  unfold trF at h
  exact triF_bad (trF_bad sh l k _ h)
theorem ptF_in (sh : Nat) : ∀ (k : Nat) (s : RS × List Int),(ptF sh k s).2.length = s.2.length + k ∧ ∀ v ∈ (ptF sh k s).2,v ∈ s.2 ∨ (0 ≤ v ∧ v ≤ sh)
 | 0,s => ⟨rfl,fun v h => .inl h⟩
 | k + 1,s => by
  unfold ptF
  obtain ⟨h1,h2⟩ := ptF_in sh k ((rdF sh s.1).2,s.2 ++ [((rdF sh s.1).1 : Int)])
  refine ⟨by rw [h1];dsimp only;rw [List.length_append,List.length_singleton];omega,fun v hv => ?_⟩
  rcases h2 v hv with h | h
  ·dsimp only at h
   rcases List.mem_append.1 h with h | h
   ·exact .inl h
   ·rw [List.mem_singleton] at h
    have := (rdF_le sh s.1).1
    subst h
    exact .inr ⟨by omega,by omega⟩
  ·exact .inr h
theorem triF_pt {sh l : Nat} (hs : sh ≤ 4) (s : RS) : PT (triF sh l s).2.txn (triF sh l s).2 := by
 unfold triF
 dsimp only
 have hx := (rdF_le 18446744073709551615 s).1
 have hy := (rdF_le 18446744073709551615 (rdF 18446744073709551615 s).2).1
 have hst : (stF l (rdF 18446744073709551615 (rdF 18446744073709551615 s).2).2).1 ≤ 1099511627776 := (rdF_le 1099511627776 _).1
 have hn := (rdF_le 4 (stF l (rdF 18446744073709551615 (rdF 18446744073709551615 s).2).2).2).1
 obtain ⟨h1,h2⟩ := ptF_in sh (rdF 4 (stF l (rdF 18446744073709551615 (rdF 18446744073709551615 s).2).2).2).1 ((rdF 4 (stF l (rdF 18446744073709551615 (rdF 18446744073709551615 s).2).2).2).2,[])
 refine ⟨rfl,by (try dsimp only);omega,by (try dsimp only);omega,by (try dsimp only);omega,?_,fun v hv => ?_⟩
 ·dsimp only
  rw [h1]
  show 0 + _ ≤ 4
  omega
 ·rcases h2 v hv with h | h
  ·cases h
  ·omega
theorem trF_in {sh l : Nat} (hs : sh ≤ 4) : ∀ (k : Nat) (s : RS × List (Int × TR)),keysOK s.2 → (∀ u ∈ s.2,PT u.1 u.2) → keysOK (trF sh l k s).2 ∧ (∀ u ∈ (trF sh l k s).2,PT u.1 u.2) ∧ (trF sh l k s).2.length ≤ s.2.length + k
 | 0,s,h1,h2 => ⟨h1,h2,Nat.le_refl _⟩
 | k + 1,s,h1,h2 => by
  unfold trF
  have hp := putL_len s.2 (triF sh l s.1).2.txn (triF sh l s.1).2
  obtain ⟨a,b,c⟩ := trF_in hs k ((triF sh l s.1).1,putL s.2 (triF sh l s.1).2.txn (triF sh l s.1).2) (putL_ok h1 _ _) (fun u hu => by
   rcases putL_memG hu with h | rfl
   ·exact h2 u h
   ·exact triF_pt hs s.1)
  exact ⟨a,b,by dsimp only at c;omega⟩
theorem dnF_in (l : Nat) : ∀ (k : Nat) (s : RS × List (Int × Int)),keysOK s.2 → (∀ u ∈ s.2,u.1 ≤ 18446744073709551615 ∧ u.2 ≤ 1099511627776) → keysOK (dnF l k s).2 ∧ ∀ u ∈ (dnF l k s).2,u.1 ≤ 18446744073709551615 ∧ u.2 ≤ 1099511627776
 | 0,s,h1,h2 => ⟨h1,h2⟩
 | k + 1,s,h1,h2 => by
  have h3 := putL_ok h1 ((rdF 18446744073709551615 s.1).1 : Int) ((stF l (rdF 18446744073709551615 s.1).2).1 : Int)
  have hx := (rdF_le 18446744073709551615 s.1).1
  have hst : (stF l (rdF 18446744073709551615 s.1).2).1 ≤ 1099511627776 := (rdF_le 1099511627776 _).1
  have h4 : ∀ u ∈ putL s.2 ((rdF 18446744073709551615 s.1).1 : Int) ((stF l (rdF 18446744073709551615 s.1).2).1 : Int),u.1 ≤ 18446744073709551615 ∧ u.2 ≤ 1099511627776 := fun u hu => by
   rcases putL_memG hu with h | rfl
   ·exact h2 u h
   ·exact ⟨by dsimp only;omega,by dsimp only;omega⟩
  unfold dnF
  split
  ·exact ⟨h3,h4⟩
  ·exact dnF_in l k _ h3 h4
end Go.Proofs.YtiampehfpgcogaaGreatDoor
namespace Go.Proofs.YtiampehfpgcogaaGreatDoor
open Go Go.SX
attribute [local irreducible] swp opsS thenS blockS retS CallsS St Ent YieldS anyS drawS
def hdF (bs : List UInt8) : Nat × Nat × RS := ((rdF 1099511627776 ⟨bs,0,true⟩).1,(rdF 1099511627776 (rdF 1099511627776 ⟨bs,0,true⟩).2).1,(rdF 1099511627776 (rdF 1099511627776 ⟨bs,0,true⟩).2).2)
def dnU (bs : List UInt8) : RS × List (Int × Int) := dnF (hdF bs).2.1 (rdF 1048576 (hdF bs).2.2).1 ((rdF 1048576 (hdF bs).2.2).2,[])
def trU (sh : Nat) (bs : List UInt8) : RS × List (Int × TR) := trF sh (hdF bs).2.1 (rdF 8 (dnU bs).1).1 ((rdF 8 (dnU bs).1).2,[])
def unG (sh dim : Int) (bs : List UInt8) : JG := ⟨sh,dim,(hdF bs).1,0,(hdF bs).2.1,(trU sh.toNat bs).2,(dnU bs).2⟩
def unOK (sh dim : Int) (bs : List UInt8) : Prop := endF (trU sh.toNat bs).1.bs (trU sh.toNat bs).1.bad = 0 ∧ (trU sh.toNat bs).1.good = true ∧ packG (unG sh dim bs) = bs
open Classical in
noncomputable def unE (j : JG) (bs : List UInt8) : Int := if ¬ unOK j.shards j.dim bs then 4 else if 0 < j.epoch ∨ 0 < j.last ∨ 0 < j.done.length + j.tr.length then 10 else 0
open Classical in
noncomputable def unJ (j : JG) (bs : List UInt8) : JG := if unE j bs = 0 then unG j.shards j.dim bs else j
theorem triF_eq {sh last : Nat} {s z1 z2 z3 z4 z5 : RS} {x y st k : Nat} {ps : List Int} (h1 : rdF 18446744073709551615 s = (x,z1)) (h2 : rdF 18446744073709551615 z1 = (y,z2)) (h3 : stF last z2 = (st,z3)) (h4 : rdF 4 z3 = (k,z4)) (h5 : ptF sh k (z4,[]) = (z5,ps)) :
  triF sh last s = ({ z5 with good := z5.good && headK ps && riseK ps ps.length },⟨x,y,st,0,0,ps,[],[],[]⟩) := by
 unfold triF
 simp only [h1,h2,h3,h4,h5]
abbrev TVu (x y st : Nat) (pa : Option Addr) (pc : Nat) (ps : List Int) : TV := ⟨x,y,st,0,0,pa,pc,ps,none,0,[],none,0,[],none,0,[]⟩
theorem headK_cons (v : Int) (vs : List Int) : headK (v :: vs) = decide (0 < v) := by
 unfold headK
 rw [decide_eq_true (show 0 < (v :: vs).length from Nat.succ_pos _),Bool.true_and]
 rfl
theorem riseK_succ (ps : List Int) (k : Nat) : riseK ps (k + 1) = (riseK ps k && decide (k = 0 ∨ ps.getD (k - 1) 0 < ps.getD k 0)) := by
 unfold riseK
 rw [Bool.eq_iff_iff]
 simp only [decide_eq_true_eq,Bool.and_eq_true]
 exact ⟨fun h => ⟨fun i hi => h i (by omega),h k (by omega)⟩,fun ⟨h1,h2⟩ i hi => by
  by_cases e : i = k
  ·subst e;exact h2
  ·exact h1 i (by omega)⟩
theorem riseK_zero (ps : List Int) : riseK ps 0 = true := by
 unfold riseK
 exact decide_eq_true fun i hi => absurd hi (Nat.not_lt_zero i)
theorem getD_of {ps : List Int} {k : Nat} {v : Int} (h : ps[k]? = some v) : ps.getD k 0 = v := by rw [List.getD_eq_getElem?_getD,h];rfl
theorem trs_put {ts : List TB} (hk : keysOK ts) (x : Int) (u : Nat × TV) {L : List HP} : Ent (oneT u :: trsH ts :: L) (trsH (putL ts x u) :: L) := by
 rcases keyCase ts hk x with ⟨p,b,q,rfl,hp,hq⟩ | hn
 ·rw [putL_mid hp hq]
  have h1 : (p ++ (x,b) :: q)[p.length]? = some ((x,b) : TB) := by rw [List.getElem?_append_right (Nat.le_refl _),Nat.sub_self];rfl
  have h2 : p.length < (p ++ (x,b) :: q).length := by rw [List.length_append,List.length_cons];omega
  have h3 : (p ++ (x,b) :: q).set p.length ((x,u) : TB) = p ++ (x,u) :: q := by rw [List.set_append_right _ _ (Nat.le_refl _),Nat.sub_self];rfl
  refine Ent.trans (Ent.cons (trs_out h1)) ?_
  refine Ent.trans (M := oneT u :: trsH ((p ++ (x,b) :: q).eraseIdx p.length) :: L) (by exact Go.SX.Ent.go) ?_
  have := trs_in h2 ((x,u) : TB) (L := L)
  rw [h3] at this
  exact this
 ·rw [putL_none hn]
  exact trs_new ts (x,u)
theorem unG_pb {sh dim : Int} (h1 : 1 ≤ sh) (h2 : sh ≤ 4) (bs : List UInt8) : PB (unG sh dim bs) ∧ (unG sh dim bs).tr.length ≤ 8 := by
 have he := (rdF_le 1099511627776 ⟨bs,0,true⟩).1
 have hl := (rdF_le 1099511627776 (rdF 1099511627776 ⟨bs,0,true⟩).2).1
 have h8 := (rdF_le 8 (dnU bs).1).1
 obtain ⟨a,b,c⟩ := trF_in (sh := sh.toNat) (l := (hdF bs).2.1) (by omega) (rdF 8 (dnU bs).1).1 ((rdF 8 (dnU bs).1).2,[]) (by simp [keysOK]) (fun _ h => by cases h)
 obtain ⟨d,e⟩ := dnF_in (hdF bs).2.1 (rdF 1048576 (hdF bs).2.2).1 ((rdF 1048576 (hdF bs).2.2).2,[]) (by simp [keysOK]) (fun _ h => by cases h)
 refine ⟨⟨Int.natCast_nonneg _,?_,Int.natCast_nonneg _,?_,a,d,b,e⟩,?_⟩
 ·show ((rdF 1099511627776 ⟨bs,0,true⟩).1 : Int) ≤ _
  omega
 ·show ((rdF 1099511627776 (rdF 1099511627776 ⟨bs,0,true⟩).2).1 : Int) ≤ _
  omega
 ·have c' : (unG sh dim bs).tr.length ≤ 0 + (rdF 8 (dnU bs).1).1 := c
  omega
theorem unG_len {sh dim : Int} {bs : List UInt8} (h : endF (trU sh.toNat bs).1.bs (trU sh.toNat bs).1.bad = 0) : (unG sh dim bs).done.length ≤ bs.length := by
 have hb : (trU sh.toNat bs).1.bad = 0 := by
  unfold endF at h
  by_cases h1 : (trU sh.toNat bs).1.bad ≠ 0
  ·rw [if_pos h1] at h
   exact h
  ·exact Classical.not_not.1 h1
 have h1 := trF_bad _ _ _ _ hb
 have h2 := rdF_dec h1
 have h3 := dnF_dec _ _ _ h2.1
 have h4 := rdF_len 1048576 (hdF bs).2.2
 have h5 := rdF_len 1099511627776 (rdF 1099511627776 ⟨bs,0,true⟩).2
 have h6 := rdF_len 1099511627776 ⟨bs,0,true⟩
 have h7 : (unG sh dim bs).done.length ≤ (rdF 1048576 (hdF bs).2.2).2.bs.length + 0 := Nat.le_trans (Nat.le_add_left _ _) h3.2
 have h8 : (hdF bs).2.2.bs.length ≤ bs.length := Nat.le_trans h5 h6
 omega
theorem unE_no {j : JG} {bs : List UInt8} (h : ¬ unOK j.shards j.dim bs) : unE j bs = 4 ∧ unJ j bs = j := by
 have : unE j bs = 4 := by unfold unE;rw [if_pos h]
 exact ⟨this,by unfold unJ;rw [if_neg (by rw [this];decide)]⟩
theorem unE_full {j : JG} {bs : List UInt8} (h : unOK j.shards j.dim bs) (h2 : 0 < j.epoch ∨ 0 < j.last ∨ 0 < j.done.length + j.tr.length) : unE j bs = 10 ∧ unJ j bs = j := by
 have : unE j bs = 10 := by unfold unE;rw [if_neg (not_not_intro h),if_pos h2]
 exact ⟨this,by unfold unJ;rw [if_neg (by rw [this];decide)]⟩
theorem unE_ok {j : JG} {bs : List UInt8} (h : unOK j.shards j.dim bs) (h2 : ¬ (0 < j.epoch ∨ 0 < j.last ∨ 0 < j.done.length + j.tr.length)) : unE j bs = 0 ∧ unJ j bs = unG j.shards j.dim bs := by
 have : unE j bs = 0 := by unfold unE;rw [if_neg (not_not_intro h),if_neg h2]
 exact ⟨this,by unfold unJ;rw [if_pos this]⟩
abbrev JUn (j : JG) (e l : Nat) : JG := ⟨j.shards,j.dim,e,0,l,[],[]⟩
abbrev unF (b7 b8 b5 : Nat) : Value := .func (.func 67) #[] #[.pointer (some ⟨b7,0,none⟩),.pointer (some ⟨b8,0,none⟩),.pointer (some ⟨b5,0,none⟩)]
structure RK (M : Nat → Option Obj) (a : Option Addr) (c : Nat) (s : RS) : Prop where
 sl : SlM M a s.bs.length 1 (s.bs.map B)
 c : s.bs.length ≤ c
 b : s.bs.length ≤ 100000
theorem RK.mono {M M' : Nat → Option Obj} {a : Option Addr} {c : Nat} {s : RS} (h : RK M a c s) (hl : leM M M') : RK M' a c s := ⟨h.sl.mono hl,h.c,h.b⟩
abbrev rdS (r : Nat) (a : Option Addr) (c : Nat) (s : RS) : HP := rdP r a s.bs.length c s.bad
theorem rdN_spec (r : Nat) (a : Option Addr) (c : Nat) (s : RS) (most : Nat) (M : Nat → Option Obj) (L : List HP) [hM : HasM M L] (h : RK M a c s) :
  CallsS Tryz.prog 66 [.pointer (some ⟨r,0,none⟩),.int .u64 most] (rdS r a c s :: L)
   (fun v L' => v = .int .u64 (rdF most s).1 ∧ ∃ a' c',RK M a' c' (rdF most s).2 ∧ L' = rdS r a' c' (rdF most s).2 :: L) :=
 CallsS.mono (rNum_spec r a c s.bs s.bad most M L h.sl h.c (by have := h.b;omega)) fun v L' ⟨h1,a',c',h2,h3,h4⟩ => ⟨h1,a',c',⟨h2,h3,Nat.le_trans (rdF_len most s) h.b⟩,h4⟩
theorem stN_spec (b7 b8 b5 r q mt md : Nat) (a : Option Addr) (c : Nat) (s : RS) (j : JG) (last : Nat) (M : Nat → Option Obj) (L : List HP) (h : RK M a c s) (hl : j.last = last) :
  CallsS Tryz.prog 67 [.pointer (some ⟨b7,0,none⟩),.pointer (some ⟨b8,0,none⟩),.pointer (some ⟨b5,0,none⟩)] (rdS r a c s :: gdP b8 s.good :: rcP b7 r :: fcP b5 q :: gP q j mt md :: roM M :: L)
   (fun v L' => v = .int .u64 (stF last s).1 ∧ ∃ a' c',RK M a' c' (stF last s).2 ∧ L' = rdS r a' c' (stF last s).2 :: gdP b8 (stF last s).2.good :: rcP b7 r :: fcP b5 q :: gP q j mt md :: roM M :: L) :=
 CallsS.mono (stamp_spec b7 b8 b5 r q mt md a c s j last M L h.sl h.c (by have := h.b;omega) hl) fun v L' ⟨h1,a',c',h2,h3,h4⟩ => ⟨h1,a',c',⟨h2,h3,Nat.le_trans (stF_len last s) h.b⟩,h4⟩
set_option maxHeartbeats 8000000 in
set_option maxRecDepth 100000 in
theorem GUnpack_spec (M : Nat → Option Obj) (p : Nat) (j : JG) (a : Option Addr) (c : Nat) (bs : List UInt8) (L : List HP) (hs : SlM M a bs.length 1 (bs.map B)) (hd1 : 1 ≤ j.dim) (hd2 : j.dim ≤ 8) (hb : bs.length ≤ 100000) (htj : j.tr.length ≤ 100000) (hdj : j.done.length ≤ 100000) :
  CallsS Tryz.prog 21 [ptrG p,.slice a bs.length c] (jdgH M p j :: roM M :: L) (fun r L' => r = .int .i64 (unE j bs) ∧ ∃ M',leM M M' ∧ L' = jdgH M' p (unJ j bs) :: roM M' :: L) := by
 refine calls_jdg fun mt md ts hq => ?_
 have s1 := hq.s1
 have s2 := hq.s2
 have hlts : ts.length = j.tr.length := by rw [← hq.tr,List.length_map]
 have hb' : bs.length ≤ 1000000 := by omega
 refine CallsS.of_body Tryz.func21 rfl rfl rfl ?_
 refine Q.r ?_;(repeat (intro b1;refine Q.r ?_))
 refine swp_cutT (σ := Nat × Nat) (fun s => [(0,ptrG p),(1,.slice a bs.length c),(5,.pointer (some ⟨s.1,0,none⟩))]) (fun s => fcP s.1 s.2 :: jdgH M s.2 (JG0 j.shards j.dim) :: gP p j mt md :: gT mt ts :: trsH ts :: gD md j.done :: roM M :: L) (fun _ => True) ?_ ?_
 ·refine Q.dgo [true,false,false,false,false] [8,12,13] [] [0,1,2,3,4,5,6,7,99999,0,0,0,0,0,0] ?_
  refine Q.rd2 ?_
  refine D.two 8 12 [9,10,11,12,13,14] [8,9,10,11,13,14] (by kernel_rfl) rfl rfl rfl rfl (by kernel_rfl) (by kernel_rfl) ?_ ?_
  ·refine S.cr (args := [.int .i64 j.shards,.int .i64 j.dim]) rfl (GNew_spec M j.shards j.dim _ s1 s2 hd1 hd2) ?_
   rintro _ _ ⟨q,rfl,rfl⟩
   refine Q.r ?_;(repeat (intro b1;refine Q.r ?_))
   refine Q.rd ?_;(repeat (intro b1;refine Q.rd ?_))
   refine N.tn ?_
   exact ⟨(b1,q),⟨rfl,rfl,rfl,trivial⟩,by exact Go.SX.Ent.go,trivial⟩
  ·refine Q.r ?_;(repeat (intro b1;refine Q.r ?_))
   refine Q.rd2 ?_
   refine D.e rfl rfl rfl ?_
   refine S.cr (args := [.int .i64 j.shards,.int .i64 j.dim]) rfl (GNew_spec M j.shards j.dim _ s1 s2 hd1 hd2) ?_
   rintro _ _ ⟨q,rfl,rfl⟩
   refine Q.r ?_;(repeat (intro b1;refine Q.r ?_))
   refine Q.rd ?_;(repeat (intro b1;refine Q.rd ?_))
   refine N.tn ?_
   exact ⟨(b1,q),⟨rfl,rfl,rfl,trivial⟩,by exact Go.SX.Ent.go,trivial⟩
 rintro ⟨b5,q⟩ _
 refine Q.r ?_;(repeat (intro b1;refine Q.r ?_))
 refine S.cr rfl (rNew_spec a c bs M _ _ hs.rd hb') ?_
 rintro _ _ ⟨r,a1,M1,rfl,hl1,hs1,rfl⟩
 refine Q.r ?_;(repeat (intro b1;refine Q.r ?_))
 revert b1
 intro b7
 refine swp_jdg q (fun mt2 md2 ts2 hq2 => ?_)
 have ht2 : ts2 = [] := by
  have := hq2.tr
  exact List.map_eq_nil_iff.1 this
 subst ht2
 have hk0 : RK M1 a1 bs.length ⟨bs,0,true⟩ := ⟨hs1,Nat.le_refl _,hb⟩
 have hE := (rdF_le 1099511627776 ⟨bs,0,true⟩).1
 refine Q.dgo [false,false,false,false,true,false,false,true,false,false,false,false] [3,5,8,11] [] [0,1,2,4,3,5,6,7,8,9,10,11] ?_
 refine Q.rd2 ?_
 refine D.e rfl rfl rfl ?_
 refine S.c1 (A := rdS r a1 bs.length ⟨bs,0,true⟩) rfl (rdN_spec r a1 bs.length ⟨bs,0,true⟩ 1099511627776 M1 _ hk0) ?_
 rintro _ _ ⟨rfl,a2,c2,hk1,rfl⟩
 have eh : hdF bs = ((rdF 1099511627776 ⟨bs,0,true⟩).1,(rdF 1099511627776 (rdF 1099511627776 ⟨bs,0,true⟩).2).1,(rdF 1099511627776 (rdF 1099511627776 ⟨bs,0,true⟩).2).2) := rfl
 have hg1 : (rdF 1099511627776 ⟨bs,0,true⟩).2.good = true := rfl
 generalize rdF 1099511627776 ⟨bs,0,true⟩ = x1 at *
 obtain ⟨e,z1⟩ := x1
 dsimp only at *
 have hLe := (rdF_le 1099511627776 z1).1
 refine Q.r ?_;(repeat (intro b1;refine Q.r ?_))
 refine Q.rd2 ?_
 refine D.e rfl rfl rfl ?_
 refine S.c1 (A := rdS r a2 c2 z1) rfl (rdN_spec r a2 c2 z1 1099511627776 M1 _ hk1) ?_
 rintro _ _ ⟨rfl,a3,c3,hk2,rfl⟩
 have hg2 : (rdF 1099511627776 z1).2.good = true := hg1
 generalize rdF 1099511627776 z1 = x2 at *
 obtain ⟨l,z2⟩ := x2
 dsimp only at *
 refine Q.r ?_;(repeat (intro b1;refine Q.r ?_))
 refine Q.rd ?_;(repeat (intro b1;refine Q.rd ?_))
 refine Q.r ?_;(repeat (intro b1;refine Q.r ?_))
 revert b1
 intro b8
 refine S.y (Y.mf rfl rfl) ?_
 refine Q.r ?_;(repeat (intro b1;refine Q.r ?_))
 refine S.c1 (A := rdS r a3 c3 z2) rfl (rdN_spec r a3 c3 z2 1048576 M1 _ hk2) ?_
 rintro _ _ ⟨rfl,a4,c4,hk3,rfl⟩
 have hN := (rdF_le 1048576 z2).1
 have eD : dnU bs = dnF l (rdF 1048576 z2).1 ((rdF 1048576 z2).2,[]) := by unfold dnU;rw [eh]
 have hg3 : (rdF 1048576 z2).2.good = true := hg2
 generalize rdF 1048576 z2 = x3 at *
 obtain ⟨n,z3⟩ := x3
 dsimp only at *
 refine Q.r ?_;(repeat (intro b1;refine Q.r ?_))
 refine swp_cutB (σ := Option Addr × Nat) (fun _ => [(0,ptrG p),(1,.slice a bs.length c),(5,.pointer (some ⟨b5,0,none⟩)),(7,.pointer (some ⟨b7,0,none⟩)),(8,.pointer (some ⟨b8,0,none⟩)),(9,unF b7 b8 b5)])
  (fun x => rdS r x.1 x.2 (dnU bs).1 :: gdP b8 (dnU bs).1.good :: rcP b7 r :: fcP b5 q :: gP q (JUn j e l) mt2 md2 :: gD md2 (dnU bs).2 :: gT mt2 [] :: trsH [] :: gP p j mt md :: gT mt ts :: trsH ts :: gD md j.done :: roM M1 :: L) (fun x => RK M1 x.1 x.2 (dnU bs).1) ?_ ?_
 ·refine swp_loop (σ := Nat × RS × List (Int × Int) × Option Addr × Nat) (fun x => [(0,ptrG p),(1,.slice a bs.length c),(5,.pointer (some ⟨b5,0,none⟩)),(7,.pointer (some ⟨b7,0,none⟩)),(8,.pointer (some ⟨b8,0,none⟩)),(9,unF b7 b8 b5),(42,.int .u64 n),(43,.int .u64 x.1)])
   (fun x => rdS r x.2.2.2.1 x.2.2.2.2 x.2.1 :: gdP b8 x.2.1.good :: rcP b7 r :: fcP b5 q :: gP q (JUn j e l) mt2 md2 :: gD md2 x.2.2.1 :: gT mt2 [] :: trsH [] :: gP p j mt md :: gT mt ts :: trsH ts :: gD md j.done :: roM M1 :: L)
   (fun x => x.1 ≤ n ∧ RK M1 x.2.2.2.1 x.2.2.2.2 x.2.1 ∧ dnF l (n - x.1) (x.2.1,x.2.2.1) = dnU bs) (fun x => n - x.1) (0,z3,[],a4,c4) ⟨rfl,rfl,rfl,rfl,rfl,rfl,rfl,rfl,trivial⟩ (by dsimp only;rw [hg3];exact Go.SX.Ent.go) ⟨by omega,hk3,by rw [eD];rfl⟩ ?_
  rintro ⟨i,s,dn,a5,c5⟩ ⟨hi,hk,hD⟩
  dsimp only at hi hk hD ⊢
  by_cases hlt : i < n
  ·refine Q.r ?_;(repeat (intro b1;refine Q.r ?_))
   refine S.c1 (A := rdS r a5 c5 s) rfl (rdN_spec r a5 c5 s 18446744073709551615 M1 _ hk) ?_
   rintro _ _ ⟨rfl,a6,c6,hk4,rfl⟩
   have en : n - i = (n - (i + 1)) + 1 := by omega
   rw [en] at hD
   unfold dnF at hD
   have hg4 : (rdF 18446744073709551615 s).2.good = s.good := rfl
   generalize rdF 18446744073709551615 s = x4 at *
   obtain ⟨b,z4⟩ := x4
   dsimp only at *
   refine Q.r ?_;(repeat (intro b1;refine Q.r ?_))
   rw [← hg4]
   refine Q.dgo [false,false,false,true,true,false,false,false,false,false,false,false,false] [6,7] [] [0,1,2,3,4,5,6,7] ?_
   refine Q.rd2 ?_
   refine D.ea rfl rfl rfl ?_
   refine opsS_ent (L' := rdS r a6 c6 z4 :: gdP b8 z4.good :: rcP b7 r :: fcP b5 q :: gP q (JUn j e l) mt2 md2 :: roM M1 :: gD md2 dn :: gT mt2 [] :: trsH [] :: gP p j mt md :: gT mt ts :: trsH ts :: gD md j.done :: L) (by exact Go.SX.Ent.go) (S.crF (fs := []) (args := []) (cs := [.pointer (some ⟨b7,0,none⟩),.pointer (some ⟨b8,0,none⟩),.pointer (some ⟨b5,0,none⟩)]) rfl rfl (stN_spec b7 b8 b5 r q mt2 md2 a6 c6 z4 (JUn j e l) l M1 _ hk4 rfl) ?_)
   rintro _ _ ⟨rfl,a7,c7,hk5,rfl⟩
   generalize stF l z4 = x5 at *
   obtain ⟨st,z5⟩ := x5
   dsimp only at *
   refine opsS_nil ?_;refine N.tn ?_;refine D.back ?_
   refine Q.rd2 ?_
   refine D.e rfl rfl rfl ?_
   refine S.mu (g := U64) (q := (b : Int)) (r := U64) (u := (st : Int)) rfl rfl rfl ?_
   refine Q.r ?_;(repeat (intro b1;refine Q.r ?_))
   refine Q.rd ?_;(repeat (intro b1;refine Q.rd ?_))
   refine Q.r ?_;(repeat (intro b1;refine Q.r ?_))
   refine S.c1 (A := rdS r a7 c7 z5) rfl (rLeft_spec r a7 z5.bs.length c7 z5.bad _) ?_
   rintro _ _ ⟨rfl,rfl⟩
   by_cases h0 : z5.bs.length = 0
   ·rw [if_pos h0] at hD
    rw [← hD]
    refine Q.r ?_;(repeat (intro b1;refine Q.r ?_))
    exact ⟨(a7,c7),⟨rfl,rfl,rfl,rfl,rfl,rfl,trivial⟩,by exact Go.SX.Ent.go,hk5⟩
   ·rw [if_neg h0] at hD
    refine Q.r ?_;(repeat (intro b1;refine Q.r ?_))
    refine S.y (Y.add rfl rfl) ?_
    rw [wrap_u64 (by omega) (by omega)]
    refine Q.r ?_;(repeat (intro b1;refine Q.r ?_))
    exact ⟨(i + 1,z5,putL dn (b : Int) (st : Int),a7,c7),⟨rfl,rfl,rfl,rfl,rfl,rfl,rfl,congrArg some (by simp [List.filter_append]),trivial⟩,by exact Go.SX.Ent.go,⟨hlt,hk5,hD⟩,Nat.sub_succ_lt_self n i hlt⟩
  ·have hin : i = n := by omega
   subst hin
   rw [Nat.sub_self] at hD
   rw [← hD]
   refine Q.r ?_;(repeat (intro b1;refine Q.r ?_))
   exact ⟨(a5,c5),⟨rfl,rfl,rfl,rfl,rfl,rfl,trivial⟩,by exact Go.SX.Ent.go,hk⟩
 rintro ⟨a5,c5⟩ hk4
 dsimp only at hk4 ⊢
 refine Q.r ?_;(repeat (intro b1;refine Q.r ?_))
 refine S.c1 (A := rdS r a5 c5 (dnU bs).1) rfl (rdN_spec r a5 c5 (dnU bs).1 8 M1 _ hk4) ?_
 rintro _ _ ⟨rfl,a6,c6,hk6,rfl⟩
 have hN8 := (rdF_le 8 (dnU bs).1).1
 have eT : trU j.shards.toNat bs = trF j.shards.toNat l (rdF 8 (dnU bs).1).1 ((rdF 8 (dnU bs).1).2,[]) := by unfold trU;rw [eh]
 have hg6 : (rdF 8 (dnU bs).1).2.good = (dnU bs).1.good := rfl
 generalize rdF 8 (dnU bs).1 = x6 at *
 obtain ⟨m,z6⟩ := x6
 dsimp only at *
 rw [← hg6]
 refine Q.r ?_;(repeat (intro b1;refine Q.r ?_))
 refine swp_cutB (σ := Option Addr × Nat × (Nat → Option Obj) × List TB) (fun _ => [(0,ptrG p),(1,.slice a bs.length c),(5,.pointer (some ⟨b5,0,none⟩)),(7,.pointer (some ⟨b7,0,none⟩)),(8,.pointer (some ⟨b8,0,none⟩))])
  (fun x => rdS r x.1 x.2.1 (trU j.shards.toNat bs).1 :: gdP b8 (trU j.shards.toNat bs).1.good :: rcP b7 r :: fcP b5 q :: gP q (JUn j e l) mt2 md2 :: gD md2 (dnU bs).2 :: gT mt2 x.2.2.2 :: trsH x.2.2.2 :: gP p j mt md :: gT mt ts :: trsH ts :: gD md j.done :: roM x.2.2.1 :: L)
  (fun x => RK x.2.2.1 x.1 x.2.1 (trU j.shards.toNat bs).1 ∧ leM M1 x.2.2.1 ∧ x.2.2.2.map (fun u => (u.1,u.2.2.abs)) = (trU j.shards.toNat bs).2 ∧ ∀ u ∈ x.2.2.2,okT x.2.2.1 u.2.2) ?_ ?_
 ·refine swp_loop (σ := Nat × RS × Option Addr × Nat × (Nat → Option Obj) × List TB) (fun x => [(0,ptrG p),(1,.slice a bs.length c),(5,.pointer (some ⟨b5,0,none⟩)),(7,.pointer (some ⟨b7,0,none⟩)),(8,.pointer (some ⟨b8,0,none⟩)),(9,unF b7 b8 b5),(60,.int .u64 m),(61,.int .u64 x.1)])
   (fun x => rdS r x.2.2.1 x.2.2.2.1 x.2.1 :: gdP b8 x.2.1.good :: rcP b7 r :: fcP b5 q :: gP q (JUn j e l) mt2 md2 :: gD md2 (dnU bs).2 :: gT mt2 x.2.2.2.2.2 :: trsH x.2.2.2.2.2 :: gP p j mt md :: gT mt ts :: trsH ts :: gD md j.done :: roM x.2.2.2.2.1 :: L)
   (fun x => x.1 ≤ m ∧ RK x.2.2.2.2.1 x.2.2.1 x.2.2.2.1 x.2.1 ∧ leM M1 x.2.2.2.2.1 ∧ (∀ u ∈ x.2.2.2.2.2,okT x.2.2.2.2.1 u.2.2) ∧ keysOK x.2.2.2.2.2 ∧ trF j.shards.toNat l (m - x.1) (x.2.1,x.2.2.2.2.2.map (fun u => (u.1,u.2.2.abs))) = trU j.shards.toNat bs) (fun x => m - x.1) (0,z6,a6,c6,M1,[]) ⟨rfl,rfl,rfl,rfl,rfl,rfl,rfl,rfl,trivial⟩ (by exact Go.SX.Ent.go) ⟨by omega,hk6,leM.refl M1,fun _ h => (by cases h),(by simp [keysOK]),by rw [eT];rfl⟩ ?_
  rintro ⟨i,s,a7,c7,M2,us⟩ ⟨hi,hk,hl2,huo,hko,hD⟩
  dsimp only at hi hk hl2 huo hko hD ⊢
  by_cases hlt : i < m
  ·refine Q.r ?_;(repeat (intro b1;refine Q.r ?_))
   have en : m - i = (m - (i + 1)) + 1 := by omega
   rw [en] at hD
   unfold trF at hD
   dsimp only at hD
   refine Q.dgo [false,false,true,false,false,false,false,false,false,false,false,false,false] [1,3,6] [] [0,2,1,3,4,5,6,7] ?_
   refine Q.rd2 ?_
   refine D.e rfl rfl rfl ?_
   refine S.c1 (A := rdS r a7 c7 s) rfl (rdN_spec r a7 c7 s 18446744073709551615 M2 _ hk) ?_
   rintro _ _ ⟨rfl,a8,c8,hk8,rfl⟩
   have hg8 : (rdF 18446744073709551615 s).2.good = s.good := rfl
   generalize e8 : rdF 18446744073709551615 s = x8 at *
   obtain ⟨x,z8⟩ := x8
   dsimp only at *
   refine Q.r ?_;(repeat (intro b1;refine Q.r ?_))
   refine Q.rd2 ?_
   refine D.e rfl rfl rfl ?_
   refine S.c1 (A := rdS r a8 c8 z8) rfl (rdN_spec r a8 c8 z8 18446744073709551615 M2 _ hk8) ?_
   rintro _ _ ⟨rfl,a9,c9,hk9,rfl⟩
   have hg9 : (rdF 18446744073709551615 z8).2.good = s.good := hg8
   generalize e9 : rdF 18446744073709551615 z8 = x9 at *
   obtain ⟨y,z9⟩ := x9
   dsimp only at *
   refine Q.r ?_;(repeat (intro b1;refine Q.r ?_))
   refine Q.rd ?_;(repeat (intro b1;refine Q.rd ?_))
   refine Q.r ?_;(repeat (intro b1;refine Q.r ?_))
   revert b1
   intro bt
   rw [← hg9]
   refine opsS_ent (L' := rdS r a9 c9 z9 :: gdP b8 z9.good :: rcP b7 r :: fcP b5 q :: gP q (JUn j e l) mt2 md2 :: roM M2 :: pt bt (cl (⟨x,y,0,0,0,none,0,[],none,0,[],none,0,[],none,0,[]⟩ : TV).cells 95) :: gD md2 (dnU bs).2 :: gT mt2 us :: trsH us :: gP p j mt md :: gT mt ts :: trsH ts :: gD md j.done :: L) (by exact Go.SX.Ent.go) (S.crF (fs := []) (args := []) (cs := [.pointer (some ⟨b7,0,none⟩),.pointer (some ⟨b8,0,none⟩),.pointer (some ⟨b5,0,none⟩)]) rfl rfl (stN_spec b7 b8 b5 r q mt2 md2 a9 c9 z9 (JUn j e l) l M2 _ hk9 rfl) ?_)
   rintro _ _ ⟨rfl,a10,c10,hk10,rfl⟩
   generalize e10 : stF l z9 = x10 at *
   obtain ⟨st,z10⟩ := x10
   dsimp only at *
   refine Q.r ?_;(repeat (intro b1;refine Q.r ?_))
   refine S.c1 (A := rdS r a10 c10 z10) rfl (rdN_spec r a10 c10 z10 4 M2 _ hk10) ?_
   rintro _ _ ⟨rfl,a11,c11,hk11,rfl⟩
   have hg11 : (rdF 4 z10).2.good = z10.good := rfl
   have hn4 := (rdF_le 4 z10).1
   generalize e11 : rdF 4 z10 = x11 at *
   obtain ⟨np,z11⟩ := x11
   dsimp only at *
   rw [← hg11]
   refine Q.r ?_;(repeat (intro b1;refine Q.r ?_))
   generalize e12 : ptF j.shards.toNat np (z11,[]) = x12 at *
   obtain ⟨z12,ps⟩ := x12
   have hshn : ((j.shards.toNat : Nat) : Int) = j.shards := Int.toNat_of_nonneg (by omega)
   have hsw : IntKind.u64.wrap j.shards = ((j.shards.toNat : Nat) : Int) := by rw [wrap_u64 (by omega) (by omega),hshn]
   refine swp_cutB (σ := Option Addr × Nat × Option Addr × Nat) (fun _ => [(0,ptrG p),(1,.slice a bs.length c),(5,.pointer (some ⟨b5,0,none⟩)),(7,.pointer (some ⟨b7,0,none⟩)),(8,.pointer (some ⟨b8,0,none⟩)),(9,unF b7 b8 b5),(12,.pointer (some ⟨bt,0,none⟩)),(60,.int .u64 m),(61,.int .u64 i)])
    (fun w => rdS r w.1 w.2.1 z12 :: gdP b8 z12.good :: rcP b7 r :: fcP b5 q :: gP q (JUn j e l) mt2 md2 :: roM M2 :: oneT (bt,TVu x y st w.2.2.1 w.2.2.2 ps) :: slO 3 1 w.2.2.1 ps.length w.2.2.2 (ps.map I64) :: gD md2 (dnU bs).2 :: gT mt2 us :: trsH us :: gP p j mt md :: gT mt ts :: trsH ts :: gD md j.done :: L) (fun w => RK M2 w.1 w.2.1 z12 ∧ ps.length ≤ 4 ∧ ∀ v ∈ ps,0 ≤ v ∧ v ≤ j.shards) ?_ ?_
   ·refine swp_loop (σ := Nat × RS × List Int × Option Addr × Nat × Option Addr × Nat) (fun w => [(0,ptrG p),(1,.slice a bs.length c),(5,.pointer (some ⟨b5,0,none⟩)),(7,.pointer (some ⟨b7,0,none⟩)),(8,.pointer (some ⟨b8,0,none⟩)),(9,unF b7 b8 b5),(12,.pointer (some ⟨bt,0,none⟩)),(60,.int .u64 m),(61,.int .u64 i),(77,.int .u64 np),(78,.int .u64 w.1)])
     (fun w => rdS r w.2.2.2.1 w.2.2.2.2.1 w.2.1 :: gdP b8 w.2.1.good :: rcP b7 r :: fcP b5 q :: gP q (JUn j e l) mt2 md2 :: roM M2 :: oneT (bt,TVu x y st w.2.2.2.2.2.1 w.2.2.2.2.2.2 w.2.2.1) :: slO 3 1 w.2.2.2.2.2.1 w.2.2.1.length w.2.2.2.2.2.2 (w.2.2.1.map I64) :: gD md2 (dnU bs).2 :: gT mt2 us :: trsH us :: gP p j mt md :: gT mt ts :: trsH ts :: gD md j.done :: L)
     (fun w => w.1 ≤ np ∧ RK M2 w.2.2.2.1 w.2.2.2.2.1 w.2.1 ∧ w.2.2.1.length = w.1 ∧ (∀ v ∈ w.2.2.1,0 ≤ v ∧ v ≤ j.shards) ∧ ptF j.shards.toNat (np - w.1) (w.2.1,w.2.2.1) = (z12,ps)) (fun w => np - w.1) (0,z11,[],a11,c11,none,0) ⟨rfl,rfl,rfl,rfl,rfl,rfl,rfl,rfl,rfl,rfl,rfl,trivial⟩ (by exact Go.SX.Ent.go) ⟨by omega,hk11,rfl,fun _ h => (by cases h),e12⟩ ?_
    rintro ⟨k,z,qs,a13,c13,pa,pc⟩ ⟨hkn,hk13,hql,hqb,hF⟩
    dsimp only at hkn hk13 hql hqb hF ⊢
    by_cases hlt2 : k < np
    ·refine Q.r ?_;(repeat (intro b1;refine Q.r ?_))
     have en2 : np - k = (np - (k + 1)) + 1 := by omega
     rw [en2] at hF
     unfold ptF at hF
     refine Q.dgo [false,false,true,false,false,false,true,false,false,false,false,true,false,false,false] [12,14,15,19] [19] [0,1,2,3,4,5,6,7,8,9,10,11,12,13,14,15,16,17,18,19] ?_
     refine Q.rd2 ?_
     refine D.y rfl rfl rfl (by kernel_rfl) (Y.cvi rfl) ?_
     rw [hsw]
     refine Q.rd2 ?_
     refine D.e rfl rfl rfl ?_
     refine S.c1 (A := rdS r a13 c13 z) rfl (rdN_spec r a13 c13 z j.shards.toNat M2 _ hk13) ?_
     rintro _ _ ⟨rfl,a14,c14,hk14,rfl⟩
     have hg14 : (rdF j.shards.toNat z).2.good = z.good := rfl
     have hv4 := (rdF_le j.shards.toNat z).1
     generalize rdF j.shards.toNat z = x14 at *
     obtain ⟨v,z14⟩ := x14
     dsimp only at *
     rw [← hg14]
     refine Q.r ?_;(repeat (intro b1;refine Q.r ?_))
     refine Q.rd2 ?_
     refine D.y rfl rfl rfl (by kernel_rfl) (Y.cvi rfl) ?_
     rw [wrap_i64 (by omega) (by omega)]
     refine Q.rd2 ?_
     refine D.e rfl rfl rfl ?_
     refine Q.r ?_;(repeat (intro b1;refine Q.r ?_))
     refine Q.rd2 ?_
     refine D.e rfl rfl rfl ?_
     refine S.app rfl rfl (SrcS.sl RdC.row (by rfl) (by rfl)) (by rfl) (by omega) (by omega) (fun a7 c7 => ?_)
     refine Q.r ?_;(repeat (intro b1;refine Q.r ?_))
     refine Q.rd2 ?_
     refine Q.dc rfl rfl rfl rfl ?_
     refine Q.r ?_;(repeat (intro b1;refine Q.r ?_))
     refine Q.rd2 ?_
     refine Q.r ?_;(repeat (intro b1;refine Q.r ?_))
     refine S.y (Y.add rfl rfl) ?_
     rw [wrap_u64 (by omega) (by omega)]
     refine Q.r ?_;(repeat (intro b1;refine Q.r ?_))
     refine ⟨(k + 1,z14,qs ++ [(v : Int)],a14,c14,a7,c7),⟨rfl,rfl,rfl,rfl,rfl,rfl,rfl,rfl,rfl,rfl,congrArg some (by simp [List.filter_append]),trivial⟩,?_,⟨hlt2,hk14,by dsimp only;rw [len_snoc,hql],fun w hw => ?_,hF⟩,Nat.sub_succ_lt_self np k hlt2⟩
     ·dsimp only [oneT,TV.cells,TVu]
      rw [len_snoc,List.map_append,List.map_cons,List.map_nil]
      exact Go.SX.Ent.go
     ·rcases List.mem_append.1 hw with hw | hw
      ·exact hqb w hw
      ·rw [List.mem_singleton] at hw;subst hw;exact ⟨by omega,by omega⟩
    ·have hkk : k = np := by omega
     subst hkk
     rw [Nat.sub_self] at hF
     obtain ⟨rfl,rfl⟩ : z = z12 ∧ qs = ps := by
      have := hF
      simp only [ptF,Prod.mk.injEq] at this
      exact this
     refine Q.r ?_;(repeat (intro b1;refine Q.r ?_))
     exact ⟨(a13,c13,pa,pc),⟨rfl,rfl,rfl,rfl,rfl,rfl,rfl,rfl,rfl,trivial⟩,by exact Go.SX.Ent.go,hk13,by omega,hqb⟩
   rintro ⟨a13,c13,pa,pc⟩ ⟨hk13,hpl,hpb⟩
   dsimp only at hk13 hpl hpb ⊢
   refine swp_abs pa (fun M3 hl3 hs3 => ?_)
   refine swp_seq ?_
   refine swp_cutT (σ := Unit) (fun _ => [(0,ptrG p),(1,.slice a bs.length c),(5,.pointer (some ⟨b5,0,none⟩)),(7,.pointer (some ⟨b7,0,none⟩)),(8,.pointer (some ⟨b8,0,none⟩)),(9,unF b7 b8 b5),(12,.pointer (some ⟨bt,0,none⟩)),(60,.int .u64 m),(61,.int .u64 i)]) (fun _ => rdS r a13 c13 z12 :: gdP b8 (z12.good && headK ps) :: rcP b7 r :: fcP b5 q :: gP q (JUn j e l) mt2 md2 :: roM M3 :: oneT (bt,TVu x y st pa pc ps) :: gD md2 (dnU bs).2 :: gT mt2 us :: trsH us :: gP p j mt md :: gT mt ts :: trsH ts :: gD md j.done :: L) (fun _ => True) ?_ ?_
   ·obtain ⟨zb,zbad,zg⟩ := z12
    dsimp only
    cases zg with
    | false =>
     refine Q.r ?_;(repeat (intro b1;refine Q.r ?_))
     rw [Bool.false_and]
     exact ⟨(),⟨rfl,rfl,rfl,rfl,rfl,rfl,rfl,rfl,rfl,trivial⟩,by exact Go.SX.Ent.go,trivial⟩
    | true =>
     cases ps with
     | nil =>
      refine Q.r ?_;(repeat (intro b1;refine Q.r ?_))
      rw [show headK [] = false from rfl,Bool.and_false]
      exact ⟨(),⟨rfl,rfl,rfl,rfl,rfl,rfl,rfl,rfl,rfl,trivial⟩,by exact Go.SX.Ent.go,trivial⟩
     | cons v0 vs =>
      obtain ⟨bp,op,hpa,cp⟩ := SlM.cm1 (g := I64) (k := 0) hs3 rfl rfl
      subst hpa
      have hvl : (v0 :: vs).length = vs.length + 1 := rfl
      by_cases h0 : 0 < v0
      ·refine Q.r ?_;(repeat (intro b1;refine Q.r ?_))
       rw [headK_cons,decide_eq_true h0,Bool.and_true]
       exact ⟨(),⟨rfl,rfl,rfl,rfl,rfl,rfl,rfl,rfl,rfl,trivial⟩,by exact Go.SX.Ent.go,trivial⟩
      ·refine Q.r ?_;(repeat (intro b1;refine Q.r ?_))
       rw [headK_cons,decide_eq_false h0,Bool.and_false]
       exact ⟨(),⟨rfl,rfl,rfl,rfl,rfl,rfl,rfl,rfl,rfl,trivial⟩,by exact Go.SX.Ent.go,trivial⟩
   rintro _ _
   refine Q.r ?_;(repeat (intro b1;refine Q.r ?_))
   refine swp_cutB (σ := Unit) (fun _ => [(0,ptrG p),(1,.slice a bs.length c),(5,.pointer (some ⟨b5,0,none⟩)),(7,.pointer (some ⟨b7,0,none⟩)),(8,.pointer (some ⟨b8,0,none⟩)),(9,unF b7 b8 b5),(12,.pointer (some ⟨bt,0,none⟩)),(60,.int .u64 m),(61,.int .u64 i)]) (fun _ => rdS r a13 c13 z12 :: gdP b8 (z12.good && headK ps && riseK ps ps.length) :: rcP b7 r :: fcP b5 q :: gP q (JUn j e l) mt2 md2 :: roM M3 :: oneT (bt,TVu x y st pa pc ps) :: gD md2 (dnU bs).2 :: gT mt2 us :: trsH us :: gP p j mt md :: gT mt ts :: trsH ts :: gD md j.done :: L) (fun _ => True) ?_ ?_
   ·refine swp_loop (σ := Nat) (fun k => [(0,ptrG p),(1,.slice a bs.length c),(5,.pointer (some ⟨b5,0,none⟩)),(7,.pointer (some ⟨b7,0,none⟩)),(8,.pointer (some ⟨b8,0,none⟩)),(9,unF b7 b8 b5),(12,.pointer (some ⟨bt,0,none⟩)),(60,.int .u64 m),(61,.int .u64 i),(125,.int .i64 ps.length),(126,.int .i64 k)]) (fun k => rdS r a13 c13 z12 :: gdP b8 (z12.good && headK ps && riseK ps k) :: rcP b7 r :: fcP b5 q :: gP q (JUn j e l) mt2 md2 :: roM M3 :: oneT (bt,TVu x y st pa pc ps) :: gD md2 (dnU bs).2 :: gT mt2 us :: trsH us :: gP p j mt md :: gT mt ts :: trsH ts :: gD md j.done :: L) (fun k => k ≤ ps.length) (fun k => ps.length - k) 0 ⟨rfl,rfl,rfl,rfl,rfl,rfl,rfl,rfl,rfl,rfl,rfl,trivial⟩ (by rw [riseK_zero,Bool.and_true];exact Go.SX.Ent.go) (Nat.zero_le _) ?_
    intro k hk
    by_cases hlt2 : k < ps.length
    ·obtain ⟨w,hw⟩ := mem_get hlt2
     obtain ⟨bp,op,hpa,cp⟩ := SlM.cm1 (g := I64) hs3 hw rfl
     subst hpa
     have hS := riseK_succ ps k
     rw [getD_of hw] at hS
     generalize hG : (z12.good && headK ps && riseK ps k) = g
     have hG2 : (z12.good && headK ps && riseK ps (k + 1)) = (g && decide (k = 0 ∨ ps.getD (k - 1) 0 < w)) := by rw [hS,← Bool.and_assoc,hG]
     refine Q.r ?_;(repeat (intro b1;refine Q.r ?_))
     cases g with
     | false =>
      refine Q.dgo [false,true,false,false,false,true,true,false,false,false,false,false,false,false] [25] [25] [0,1,2,3,4,5,6,7,8,9,10,11,12,13,14,15,16,17,18,19,20,21,22,23,24,25] ?_
      repeat (first | refine D.endA ?_ | refine Q.dp rfl rfl rfl ?_ | refine Q.dy rfl rfl rfl ?_ | refine D.end_ ?_ | refine Q.endH ?_ | (refine D.e rfl rfl rfl ?_;(first | refine S.gskip1 rfl ?_ | refine S.gskip rfl ?_ | refine S.y (Y.gskipU rfl) ?_);refine opsS_nil ?_;refine N.tn ?_) | refine Q.dT rfl rfl rfl ?_ | refine Q.dF rfl rfl rfl ?_)
      refine Q.dc rfl rfl rfl rfl ?_
      refine Q.r ?_;(repeat (intro b1;refine Q.r ?_))
      refine Q.rd2 ?_
      refine Q.r ?_;(repeat (intro b1;refine Q.r ?_))
      exact ⟨k + 1,⟨rfl,rfl,rfl,rfl,rfl,rfl,rfl,rfl,rfl,rfl,rfl,trivial⟩,by rw [hG2,Bool.false_and];exact Go.SX.Ent.go,hlt2,Nat.sub_succ_lt_self ps.length k hlt2⟩
     | true =>
      by_cases hk0' : k = 0
      ·refine Q.dgo [false,true,false,false,false,true,true,false,false,false,false,false,false,false] [25] [25] [0,1,2,3,4,5,6,7,8,9,10,11,12,13,14,15,16,17,18,19,20,21,22,23,24,25] ?_
       repeat (first | refine D.endA ?_ | refine Q.dp rfl rfl rfl ?_ | refine Q.dy rfl rfl rfl ?_ | refine D.end_ ?_ | refine Q.endH ?_ | (refine D.e rfl rfl rfl ?_;(first | refine S.gskip1 rfl ?_ | refine S.gskip rfl ?_ | refine S.y (Y.gskipU rfl) ?_);refine opsS_nil ?_;refine N.tn ?_) | refine Q.dT rfl rfl rfl ?_ | refine Q.dF rfl rfl rfl ?_)
       refine Q.dc rfl rfl rfl rfl ?_
       refine Q.r ?_;(repeat (intro b1;refine Q.r ?_))
       refine Q.rd2 ?_
       refine Q.r ?_;(repeat (intro b1;refine Q.r ?_))
       exact ⟨k + 1,⟨rfl,rfl,rfl,rfl,rfl,rfl,rfl,rfl,rfl,rfl,rfl,trivial⟩,by rw [hG2,decide_eq_true (Or.inl hk0'),Bool.and_true];exact Go.SX.Ent.go,hlt2,Nat.sub_succ_lt_self ps.length k hlt2⟩
      ·obtain ⟨u,hu⟩ := mem_get (l := ps) (k := k - 1) (by omega)
       obtain ⟨bp2,op2,hpa2,cp2⟩ := SlM.cm1 (g := I64) hs3 hu rfl
       obtain ⟨rfl,rfl⟩ : bp2 = bp ∧ op2 = op := by
        simp only [Option.some.injEq,Addr.mk.injEq] at hpa2
        exact ⟨hpa2.1.symm,hpa2.2.1.symm⟩
       have hk1' : (k : Int) - 1 = ((k - 1 : Nat) : Int) := by omega
       have hk2' : k - 1 < ps.length := by omega
       have hw3 : decide (k = 0 ∨ ps.getD (k - 1) 0 < w) = decide (u < w) := by
        rw [getD_of hu,decide_eq_decide]
        exact ⟨fun h => h.elim (fun h => absurd h hk0') id,Or.inr⟩
       refine Q.dgo [false,true,false,false,false,true,true,false,false,false,false,false,false,false] [25] [25] [0,1,2,3,4,5,6,7,8,9,10,11,12,13,14,15,16,17,18,19,20,21,22,23,24,25] ?_
       repeat (first | refine D.endA ?_ | refine Q.dp rfl rfl rfl ?_ | refine Q.dy rfl rfl rfl ?_ | refine D.end_ ?_ | refine Q.endH ?_ | (refine D.e rfl rfl rfl ?_;(first | refine S.gskip1 rfl ?_ | refine S.gskip rfl ?_ | refine S.y (Y.gskipU rfl) ?_);refine opsS_nil ?_;refine N.tn ?_) | refine Q.dT rfl rfl rfl ?_ | refine Q.dF rfl rfl rfl ?_)
       refine D.y rfl rfl rfl (by kernel_rfl) (Y.guard rfl (Y.ia (k := k - 1) (m := ps.length) rfl rfl hk1' hk2')) ?_
       repeat (first | refine D.endA ?_ | refine Q.dp rfl rfl rfl ?_ | refine Q.dy rfl rfl rfl ?_ | refine D.end_ ?_ | refine Q.endH ?_ | (refine D.e rfl rfl rfl ?_;(first | refine S.gskip1 rfl ?_ | refine S.gskip rfl ?_ | refine S.y (Y.gskipU rfl) ?_);refine opsS_nil ?_;refine N.tn ?_) | refine Q.dT rfl rfl rfl ?_ | refine Q.dF rfl rfl rfl ?_)
       refine Q.dc rfl rfl rfl rfl ?_
       refine Q.r ?_;(repeat (intro b1;refine Q.r ?_))
       refine Q.rd2 ?_
       refine Q.r ?_;(repeat (intro b1;refine Q.r ?_))
       exact ⟨k + 1,⟨rfl,rfl,rfl,rfl,rfl,rfl,rfl,rfl,rfl,rfl,rfl,trivial⟩,by rw [hG2,hw3,Bool.true_and];exact Go.SX.Ent.go,hlt2,Nat.sub_succ_lt_self ps.length k hlt2⟩
    ·have hke : k = ps.length := by omega
     subst hke
     refine Q.r ?_;(repeat (intro b1;refine Q.r ?_))
     exact ⟨(),⟨rfl,rfl,rfl,rfl,rfl,rfl,rfl,rfl,rfl,trivial⟩,by exact Go.SX.Ent.go,trivial⟩
   rintro _ _
   have hT := triF_eq e8 e9 e10 e11 e12
   rw [hT] at hD
   dsimp only at hD
   refine Q.dgo [false,false,false,true,true,false,true,false,false,false,false,false,false,false] [10] [] [0,1,2,3,4,5,6,7,8,9,10] ?_
   refine Q.rd2 ?_
   refine D.e rfl rfl rfl ?_
   refine S.mu (g := U64) (q := (x : Int)) (r := ptT) (u := ((bt,TVu x y st pa pc ps) : Nat × TV)) rfl rfl rfl ?_
   refine Q.r ?_;(repeat (intro b1;refine Q.r ?_))
   refine Q.rd ?_;(repeat (intro b1;refine Q.rd ?_))
   refine Q.r ?_;(repeat (intro b1;refine Q.r ?_))
   refine S.y (Y.add rfl rfl) ?_
   rw [wrap_u64 (by omega) (by omega)]
   refine Q.r ?_;(repeat (intro b1;refine Q.r ?_))
   refine ⟨(i + 1,{ z12 with good := z12.good && headK ps && riseK ps ps.length },a13,c13,M3,putL us (x : Int) (bt,TVu x y st pa pc ps)),⟨rfl,rfl,rfl,rfl,rfl,rfl,rfl,congrArg some (by simp [List.filter_append]),trivial⟩,?_,⟨hlt,⟨hk13.sl.mono hl3,hk13.c,hk13.b⟩,hl2.trans hl3,fun w hw => ?_,putL_ok hko _ _,?_⟩,Nat.sub_succ_lt_self m i hlt⟩
   ·dsimp only
    refine Ent.trans (M := oneT (bt,TVu x y st pa pc ps) :: trsH us :: rdS r a13 c13 z12 :: gdP b8 (z12.good && headK ps && riseK ps ps.length) :: rcP b7 r :: fcP b5 q :: gP q (JUn j e l) mt2 md2 :: gD md2 (dnU bs).2 :: gT mt2 (putL us (x : Int) (bt,TVu x y st pa pc ps)) :: gP p j mt md :: gT mt ts :: trsH ts :: gD md j.done :: roM M3 :: L) (by exact Go.SX.Ent.go) ?_
    refine Ent.trans (trs_put hko (x : Int) _) ?_
    exact Go.SX.Ent.go
   ·dsimp only at hw ⊢
    have hw2 : w.2 = (bt,TVu x y st pa pc ps) ∨ w ∈ us := by
     rcases putL_memG hw with h | h
     ·exact .inr h
     ·exact .inl (by rw [h])
    rcases hw2 with e | hw
    ·rw [e]
     exact ⟨hs3,SlM.nil0,SlM.nil0,SlM.nil0,fun o ho => (by cases ho),(by show ps.length ≤ _;omega),Nat.zero_le _,Nat.zero_le _,Nat.zero_le _⟩
    ·exact (huo w hw).mono hl3
   ·dsimp only
    rw [putL_map (κ := Int) (α := Nat × TV) (fun u => u.2.abs) us (x : Int) (bt,TVu x y st pa pc ps)]
    exact hD
  ·have him : i = m := by omega
   subst him
   rw [Nat.sub_self] at hD
   rw [← hD]
   refine Q.r ?_;(repeat (intro b1;refine Q.r ?_))
   exact ⟨(a7,c7,M2,us),⟨rfl,rfl,rfl,rfl,rfl,trivial⟩,Ent.refl _,hk,hl2,rfl,huo⟩
 rintro ⟨a14,c14,M2,us⟩ ⟨hk14,hl14,hus,huo⟩
 dsimp only at hk14 hl14 hus huo ⊢
 have hG : unG j.shards j.dim bs = ⟨j.shards,j.dim,e,0,l,(trU j.shards.toNat bs).2,(dnU bs).2⟩ := by unfold unG;rw [eh]
 have hlM := hl1.trans hl14
 have hqG : GQ' M2 (unG j.shards j.dim bs) us := by rw [hG];exact ⟨s1,s2,hus,huo⟩
 have hshut : ∀ L',Ent (gP q (JUn j e l) mt2 md2 :: gT mt2 us :: trsH us :: gD md2 (dnU bs).2 :: L') (jdgH M2 q (unG j.shards j.dim bs) :: L') := fun L' => by
  have := jdg_shut (p := q) (mt := mt2) (md := md2) (L := L') hqG
  rw [hG] at this ⊢
  exact this
 obtain ⟨hpb,htl⟩ := unG_pb (dim := j.dim) s1 s2 bs
 have hlen := unG_len (sh := j.shards) (dim := j.dim) (bs := bs)
 refine Q.r ?_;(repeat (intro b1;refine Q.r ?_))
 refine S.c1 (A := rdS r a14 c14 (trU j.shards.toNat bs).1) rfl (rEnd_spec r a14 c14 (trU j.shards.toNat bs).1.bs (trU j.shards.toNat bs).1.bad _) ?_
 rintro _ _ ⟨rfl,rfl⟩
 by_cases hend : endF (trU j.shards.toNat bs).1.bs (trU j.shards.toNat bs).1.bad = 0
 ·have hdl := hlen hend
  rw [hend]
  cases hgd : (trU j.shards.toNat bs).1.good with
  | true =>
   refine Q.r ?_;(repeat (intro b1;refine Q.r ?_))
   refine opsS_ent (Ent.trans (M := gP q (JUn j e l) mt2 md2 :: gT mt2 us :: trsH us :: gD md2 (dnU bs).2 :: roM M2 :: fcP b5 q :: gP p j mt md :: gT mt ts :: trsH ts :: gD md j.done :: L) (by exact Go.SX.Ent.go) (hshut _)) ?_
   refine S.cg q rfl (GPack_specB M2 q (unG j.shards j.dim bs) _ hpb (by omega) (by omega)) ?_
   rintro _ _ ⟨ap,cp,M4,rfl,hl4,rfl⟩
   refine Q.r ?_;(repeat (intro b1;refine Q.r ?_))
   refine opsS_abs ap (fun M5 hl5 hs5 => ?_)
   have hlM5 := hlM.trans (hl4.trans hl5)
   refine S.c1 (A := roM M5) rfl (equalB_spec ap a cp c (packG (unG j.shards j.dim bs)) bs M5 _ hs5 (hs.mono hlM5) (by omega)) ?_
   rintro _ _ ⟨rfl,rfl⟩
   by_cases hpk : packG (unG j.shards j.dim bs) = bs
   ·rw [decide_eq_true hpk]
    have hok : unOK j.shards j.dim bs := ⟨hend,hgd,hpk⟩
    refine Q.r ?_;(repeat (intro b1;refine Q.r ?_))
    by_cases he0 : 0 < j.epoch
    ·have hfu := unE_full hok (.inl he0)
     refine Q.dgo [false,false,false,true,true,false,true] [] [] [0,1,2,3,4,5,6,7,8,9,10,11,12,13,14,15,16,17,18,19,20,21,22,23,24,25] ?_
     repeat (first | refine D.endA ?_ | refine Q.dy rfl rfl rfl ?_ | refine Q.dp rfl rfl rfl ?_ | refine D.end_ ?_ | refine Q.endH ?_ | (refine D.e rfl rfl rfl ?_;(first | refine S.gskip1 rfl ?_ | refine S.gskip rfl ?_ | refine S.y (Y.gskipU rfl) ?_);refine opsS_nil ?_;refine N.tn ?_) | refine Q.dT rfl rfl rfl ?_ | refine Q.dF rfl rfl rfl ?_)
     refine Q.r ?_;(repeat (intro b1;refine Q.r ?_))
     rw [hfu.1,hfu.2]
     exact N.r1 (RV.tmp rfl RV.nil) (Ent.trans (M := gP p j mt md :: gT mt ts :: trsH ts :: gD md j.done :: roM M5 :: L) (by exact Go.SX.Ent.go) (jdg_shut (hq.mono hlM5))) ⟨rfl,M5,hlM5,rfl⟩
    ·by_cases hl0 : 0 < j.last
     ·have hfu := unE_full hok (.inr (.inl hl0))
      refine Q.dgo [false,false,false,true,true,false,true] [] [] [0,1,2,3,4,5,6,7,8,9,10,11,12,13,14,15,16,17,18,19,20,21,22,23,24,25] ?_
      repeat (first | refine D.endA ?_ | refine Q.dy rfl rfl rfl ?_ | refine Q.dp rfl rfl rfl ?_ | refine D.end_ ?_ | refine Q.endH ?_ | (refine D.e rfl rfl rfl ?_;(first | refine S.gskip1 rfl ?_ | refine S.gskip rfl ?_ | refine S.y (Y.gskipU rfl) ?_);refine opsS_nil ?_;refine N.tn ?_) | refine Q.dT rfl rfl rfl ?_ | refine Q.dF rfl rfl rfl ?_)
      refine Q.r ?_;(repeat (intro b1;refine Q.r ?_))
      rw [hfu.1,hfu.2]
      exact N.r1 (RV.tmp rfl RV.nil) (Ent.trans (M := gP p j mt md :: gT mt ts :: trsH ts :: gD md j.done :: roM M5 :: L) (by exact Go.SX.Ent.go) (jdg_shut (hq.mono hlM5))) ⟨rfl,M5,hlM5,rfl⟩
     ·by_cases hz : 0 < j.done.length + j.tr.length
      ·have hfu := unE_full hok (.inr (.inr hz))
       refine Q.dgo [false,false,false,true,true,false,true] [] [] [0,1,2,3,4,5,6,7,8,9,10,11,12,13,14,15,16,17,18,19,20,21,22,23,24,25] ?_
       repeat (first | refine D.endA ?_ | refine Q.dy rfl rfl rfl ?_ | refine Q.dp rfl rfl rfl ?_ | refine D.end_ ?_ | refine Q.endH ?_ | (refine D.e rfl rfl rfl ?_;(first | refine S.gskip1 rfl ?_ | refine S.gskip rfl ?_ | refine S.y (Y.gskipU rfl) ?_);refine opsS_nil ?_;refine N.tn ?_) | refine Q.dT rfl rfl rfl ?_ | refine Q.dF rfl rfl rfl ?_)
       refine Q.r ?_;(repeat (intro b1;refine Q.r ?_))
       rw [hfu.1,hfu.2]
       exact N.r1 (RV.tmp rfl RV.nil) (Ent.trans (M := gP p j mt md :: gT mt ts :: trsH ts :: gD md j.done :: roM M5 :: L) (by exact Go.SX.Ent.go) (jdg_shut (hq.mono hlM5))) ⟨rfl,M5,hlM5,rfl⟩
      ·have hfu := unE_ok hok (fun h => h.elim he0 fun h => h.elim hl0 hz)
       refine Q.dgo [false,false,false,true,true,false,true] [] [] [0,1,2,3,4,5,6,7,8,9,10,11,12,13,14,15,16,17,18,19,20,21,22,23,24,25] ?_
       repeat (first | refine D.endA ?_ | refine Q.dy rfl rfl rfl ?_ | refine Q.dp rfl rfl rfl ?_ | refine D.end_ ?_ | refine Q.endH ?_ | (refine D.e rfl rfl rfl ?_;(first | refine S.gskip1 rfl ?_ | refine S.gskip rfl ?_ | refine S.y (Y.gskipU rfl) ?_);refine opsS_nil ?_;refine N.tn ?_) | refine Q.dT rfl rfl rfl ?_ | refine Q.dF rfl rfl rfl ?_)
       refine Q.r ?_;(repeat (intro b1;refine Q.r ?_))
       refine opsS_jdg q (fun mt3 md3 us3 hq3 => ?_)
       refine Q.r ?_;(repeat (intro b1;refine Q.r ?_))
       rw [hfu.1,hfu.2]
       exact N.r1 (RV.tmp rfl RV.nil) (Ent.trans (M := gP p (unG j.shards j.dim bs) mt3 md3 :: gT mt3 us3 :: trsH us3 :: gD md3 (unG j.shards j.dim bs).done :: roM M5 :: L) (by exact Go.SX.Ent.go) (jdg_shut (hq3.mono hl5))) ⟨rfl,M5,hlM5,rfl⟩
   ·rw [decide_eq_false hpk]
    have hno := unE_no (j := j) (bs := bs) (fun h => hpk h.2.2)
    refine Q.r ?_;(repeat (intro b1;refine Q.r ?_))
    rw [hno.1,hno.2]
    exact N.r1 (RV.tmp rfl RV.nil) (Ent.trans (M := gP p j mt md :: gT mt ts :: trsH ts :: gD md j.done :: roM M5 :: L) (by exact Go.SX.Ent.go) (jdg_shut (hq.mono hlM5))) ⟨rfl,M5,hlM5,rfl⟩
  | false =>
   have hno := unE_no (j := j) (bs := bs) (fun h => by have := h.2.1;rw [hgd] at this;cases this)
   refine Q.r ?_;(repeat (intro b1;refine Q.r ?_))
   rw [hno.1,hno.2]
   exact N.r1 (RV.tmp rfl RV.nil) (Ent.trans (M := gP p j mt md :: gT mt ts :: trsH ts :: gD md j.done :: roM M2 :: L) (by exact Go.SX.Ent.go) (jdg_shut (hq.mono hlM))) ⟨rfl,M2,hlM,rfl⟩
 ·have hno := unE_no (j := j) (bs := bs) (fun h => hend h.1)
  refine Q.r ?_;(repeat (intro b1;refine Q.r ?_))
  rw [hno.1,hno.2]
  exact N.r1 (RV.tmp rfl RV.nil) (Ent.trans (M := gP p j mt md :: gT mt ts :: trsH ts :: gD md j.done :: roM M2 :: L) (by exact Go.SX.Ent.go) (jdg_shut (hq.mono hlM))) ⟨rfl,M2,hlM,rfl⟩
end Go.Proofs.YtiampehfpgcogaaGreatDoor
namespace Go.Proofs.YtiampehfpgcogaaGreatDoor
open Go Go.SX
theorem rdF_ok {z : Int} {most : Nat} {g : Bool} {rest : List UInt8} (h0 : 0 ≤ z) (h1 : z ≤ most) (hm : z ≤ 18446744073709551615) : rdF most ⟨numI z ++ rest,0,g⟩ = (z.toNat,⟨rest,0,g⟩) := by
 unfold rdF
 dsimp only
 rw [numF_numI rest h0 hm h1]
theorem stF_ok {z : Int} {last : Nat} {rest : List UInt8} (h0 : 0 < z) (h1 : z ≤ last) (h2 : z ≤ 1099511627776) : stF last ⟨numI z ++ rest,0,true⟩ = (z.toNat,⟨rest,0,true⟩) := by
 unfold stF
 rw [rdF_ok (by omega) (by omega) (by omega)]
 have e1 : decide (0 < z.toNat) = true := decide_eq_true (by omega)
 have e2 : decide (z.toNat ≤ last) = true := decide_eq_true (by omega)
 simp only [e1,e2,Bool.and_true]
theorem numI_ne (z : Int) : (numI z).length ≠ 0 := by
 unfold numI
 split
 ·simp
 ·rw [numB]
  split <;> simp
theorem dnF_ok {last : Nat} (hl : last ≤ 1099511627776) {rest : List UInt8} (hr : rest.length ≠ 0) : ∀ (ds acc : List (Int × Int)),(∀ d ∈ ds,0 ≤ d.1 ∧ d.1 ≤ 18446744073709551615 ∧ 0 < d.2 ∧ d.2 ≤ last) → keysOK (acc ++ ds) →
  dnF last ds.length (⟨ds.flatMap packD ++ rest,0,true⟩,acc) = (⟨rest,0,true⟩,acc ++ ds)
 | [],acc,_,_ => by
  unfold dnF
  simp
 | d :: ds,acc,h,hk => by
  obtain ⟨a,b,c,e⟩ := h d List.mem_cons_self
  have e1 : (d :: ds).flatMap packD ++ rest = numI d.1 ++ (numI d.2 ++ (ds.flatMap packD ++ rest)) := by
   rw [List.flatMap_cons];unfold packD;simp only [List.append_assoc]
  have hne : (ds.flatMap packD ++ rest).length ≠ 0 := by rw [List.length_append];omega
  have hno : ∀ u ∈ acc,u.1 ≠ d.1 := by
   unfold keysOK at hk
   rw [List.map_append,List.nodup_append] at hk
   intro u hu
   exact hk.2.2 u.1 (List.mem_map_of_mem hu) d.1 (by simp)
  rw [e1,List.length_cons]
  unfold dnF
  dsimp only
  rw [rdF_ok a (by omega) b,stF_ok c e (by omega)]
  dsimp only
  rw [if_neg hne,Int.toNat_of_nonneg a,Int.toNat_of_nonneg (by omega),putL_none hno]
  have := dnF_ok hl hr ds (acc ++ [(d.1,d.2)]) (fun x hx => h x (List.mem_cons_of_mem _ hx)) (by rw [List.append_assoc];exact hk)
  rw [this,List.append_assoc]
  rfl
theorem ptF_ok {sh : Nat} {g : Bool} {rest : List UInt8} : ∀ (ps acc : List Int),(∀ q ∈ ps,0 ≤ q ∧ q ≤ sh ∧ q ≤ 18446744073709551615) → ptF sh ps.length (⟨ps.flatMap numI ++ rest,0,g⟩,acc) = (⟨rest,0,g⟩,acc ++ ps)
 | [],acc,_ => by
  unfold ptF
  simp
 | q :: ps,acc,h => by
  obtain ⟨a,b,c⟩ := h q List.mem_cons_self
  have e1 : (q :: ps).flatMap numI ++ rest = numI q ++ (ps.flatMap numI ++ rest) := by rw [List.flatMap_cons,List.append_assoc]
  rw [e1,List.length_cons]
  unfold ptF
  dsimp only
  rw [rdF_ok a b c]
  dsimp only
  rw [Int.toNat_of_nonneg a,ptF_ok ps (acc ++ [q]) fun x hx => h x (List.mem_cons_of_mem _ hx),List.append_assoc]
  rfl
structure TU (sh last : Nat) (t : TR) : Prop where
 x0 : 0 ≤ t.txn
 x1 : t.txn ≤ 18446744073709551615
 b0 : 0 ≤ t.batch
 b1 : t.batch ≤ 18446744073709551615
 s0 : 0 < t.stamp
 s1 : t.stamp ≤ last
 r : Rise t.parts
 pl : t.parts.length ≤ 4
 pn : t.parts ≠ []
 pb : ∀ q ∈ t.parts,1 ≤ q ∧ q ≤ sh
abbrev TR.bare (t : TR) : TR := ⟨t.txn,t.batch,t.stamp,0,0,t.parts,[],[],[]⟩
theorem rise_ok {ps : List Int} (h : Rise ps) : riseK ps ps.length = true := by
 unfold riseK
 refine decide_eq_true fun i hi => ?_
 by_cases h0 : i = 0
 ·exact .inl h0
 ·right
  obtain ⟨u,hu⟩ := mem_get (l := ps) (k := i - 1) (by omega)
  obtain ⟨w,hw⟩ := mem_get hi
  rw [getD_of hu,getD_of hw]
  obtain ⟨a,rfl⟩ := List.getElem?_eq_some_iff.1 hu
  obtain ⟨b,rfl⟩ := List.getElem?_eq_some_iff.1 hw
  exact List.pairwise_iff_getElem.1 h (i - 1) i a b (by omega)
theorem triF_ok {sh last : Nat} (hl : last ≤ 1099511627776) (hs : sh ≤ 4) {t : TR} (h : TU sh last t) (rest : List UInt8) : triF sh last ⟨packT t ++ rest,0,true⟩ = (⟨rest,0,true⟩,t.bare) := by
 have e1 : packT t ++ rest = numI t.txn ++ (numI t.batch ++ (numI t.stamp ++ (numI (t.parts.length : Int) ++ (t.parts.flatMap numI ++ rest)))) := by unfold packT;simp only [List.append_assoc]
 have hpl := h.pl
 have h0 := h.x0
 have h2 := h.b0
 have h4 := h.s0
 have h5 := h.s1
 have hP : ptF sh ((t.parts.length : Int)).toNat (⟨t.parts.flatMap numI ++ rest,0,true⟩,[]) = (⟨rest,0,true⟩,t.parts) := by
  rw [Int.toNat_natCast,ptF_ok t.parts [] fun q hq => ⟨by have := h.pb q hq;omega,(h.pb q hq).2,by have := h.pb q hq;omega⟩]
  rfl
 rw [e1,triF_eq (rdF_ok h.x0 (by have := h.x1;omega) h.x1) (rdF_ok h.b0 (by have := h.b1;omega) h.b1) (stF_ok h.s0 h.s1 (by omega)) (rdF_ok (Int.natCast_nonneg _) (by omega) (by omega)) hP]
 have hh : headK t.parts = true := by
  cases hp : t.parts with
  | nil => exact absurd hp h.pn
  | cons v vs =>
   rw [headK_cons]
   exact decide_eq_true (by have := (h.pb v (by rw [hp];exact List.mem_cons_self)).1;omega)
 rw [hh,rise_ok h.r,Int.toNat_of_nonneg h0,Int.toNat_of_nonneg h2,Int.toNat_of_nonneg (by omega)]
 rfl
theorem trF_ok {sh last : Nat} (hl : last ≤ 1099511627776) (hs : sh ≤ 4) {rest : List UInt8} : ∀ (ts : List TR) (acc : List (Int × TR)),(∀ t ∈ ts,TU sh last t) → (∀ u ∈ acc,∀ t ∈ ts,u.1 ≠ t.txn) → (ts.map TR.txn).Nodup →
  trF sh last ts.length (⟨ts.flatMap packT ++ rest,0,true⟩,acc) = (⟨rest,0,true⟩,acc ++ ts.map fun t => (t.txn,t.bare))
 | [],acc,_,_,_ => by
  unfold trF
  simp
 | t :: ts,acc,h,hd,hn => by
  have e1 : (t :: ts).flatMap packT ++ rest = packT t ++ (ts.flatMap packT ++ rest) := by rw [List.flatMap_cons,List.append_assoc]
  rw [List.map_cons,List.nodup_cons] at hn
  rw [e1,List.length_cons]
  unfold trF
  dsimp only
  rw [triF_ok hl hs (h t List.mem_cons_self)]
  dsimp only
  rw [putL_none fun u hu => hd u hu t List.mem_cons_self]
  rw [trF_ok hl hs ts (acc ++ [(t.txn,t.bare)]) (fun x hx => h x (List.mem_cons_of_mem _ hx)) (fun u hu x hx => by
   rcases List.mem_append.1 hu with hu | hu
   ·exact hd u hu x (List.mem_cons_of_mem _ hx)
   ·rw [List.mem_singleton] at hu
    subst hu
    intro e
    exact hn.1 (by rw [show t.txn = x.txn from e];exact List.mem_map_of_mem hx)) hn.2,List.append_assoc]
  rfl
abbrev bareJ (j : JG) : JG := ⟨j.shards,j.dim,j.epoch,0,j.last,(comL j).map fun t => (t.txn,t.bare),dnL j⟩
theorem dnL_keys (j : JG) : (dnL j).map (·.1) = sortL (j.done.map (·.1)) := by
 unfold dnL
 rw [List.map_map]
 exact List.map_id' _
theorem dnL_ok {j : JG} (hk : keysOK j.done) : keysOK (dnL j) := by
 unfold keysOK
 rw [dnL_keys]
 exact (sortL_perm _).nodup_iff.2 hk
theorem dnL_lk {j : JG} (hk : keysOK j.done) {b : Int} (h : b ∈ sortL (j.done.map (·.1))) : lkL (dnL j) b = some ((lkL j.done b).getD 0) :=
 (lkL_iff (dnL_ok hk)).2 (List.mem_map_of_mem (f := fun b => (b,(lkL j.done b).getD 0)) h)
theorem dn_bare {j : JG} (hk : keysOK j.done) : dnL (bareJ j) = dnL j := by
 show (sortL ((dnL j).map (·.1))).map (fun b => (b,(lkL (dnL j) b).getD 0)) = dnL j
 rw [dnL_keys,sortL_eq (sortL_perm (j.done.map (·.1)))]
 unfold dnL
 refine List.map_congr_left fun b hb => ?_
 have := dnL_lk hk hb
 unfold dnL at this
 rw [this]
 rfl
theorem fm_map {f : Int → Option TR} : ∀ {l : List Int},(∀ x ∈ l,∃ t,f x = some t ∧ t.txn = x) → (l.filterMap f).map TR.txn = l
 | [],_ => rfl
 | x :: l,h => by
  obtain ⟨t,h1,h2⟩ := h x List.mem_cons_self
  rw [List.filterMap_cons,h1]
  dsimp only
  rw [List.map_cons,h2,fm_map fun y hy => h y (List.mem_cons_of_mem _ hy)]
theorem trsL_txns {j : JG} (h : PB j) : (trsL j).map TR.txn = sortL (j.tr.map (·.1)) := by
 unfold trsL
 refine fm_map fun x hx => ?_
 obtain ⟨t,ht⟩ := sort_lk hx h.kt
 exact ⟨t,ht,(h.lk ht).xx⟩
theorem comL_txns {j : JG} (h : PB j) : ((comL j).map TR.txn).Sublist (sortL (j.tr.map (·.1))) := by
 rw [← trsL_txns h]
 exact List.filter_sublist.map _
theorem comL_nodup {j : JG} (h : PB j) : ((comL j).map TR.txn).Nodup := (comL_txns h).nodup ((sortL_perm _).nodup_iff.2 h.kt)
theorem comL_sort {j : JG} (h : PB j) : sortL ((comL j).map TR.txn) = (comL j).map TR.txn := sorted_uniq (sortL_perm _) (sortL_sorted _) ((sortL_sorted _).sublist (comL_txns h))
theorem fm_of {f : Int → Option TR} : ∀ {l : List TR},(∀ t ∈ l,f t.txn = some t.bare) → (l.map TR.txn).filterMap f = l.map TR.bare
 | [],_ => rfl
 | t :: l,h => by
  rw [List.map_cons,List.filterMap_cons,h t List.mem_cons_self]
  dsimp only
  rw [fm_of fun y hy => h y (List.mem_cons_of_mem _ hy)]
  rfl
theorem com_bare {j : JG} (h : PB j) : comL (bareJ j) = (comL j).map TR.bare := by
 have hk : keysOK ((comL j).map fun t => (t.txn,t.bare)) := by
  unfold keysOK
  rw [List.map_map]
  exact comL_nodup h
 have e1 : trsL (bareJ j) = (comL j).map TR.bare := by
  show (sortL (((comL j).map fun t => (t.txn,t.bare)).map (·.1))).filterMap (fun x => lkL ((comL j).map fun t => (t.txn,t.bare)) x) = _
  rw [List.map_map]
  show (sortL ((comL j).map TR.txn)).filterMap _ = _
  rw [comL_sort h]
  exact fm_of fun t ht => (lkL_iff hk).2 (List.mem_map_of_mem (f := fun t : TR => (t.txn,t.bare)) ht)
 show (trsL (bareJ j)).filter com0 = _
 rw [e1]
 refine List.filter_eq_self.2 fun t ht => ?_
 obtain ⟨u,hu,rfl⟩ := List.mem_map.1 ht
 exact (List.mem_filter.1 hu).2
theorem pack_bare {j : JG} (h : PB j) : packG (bareJ j) = packG j := by
 unfold packG
 rw [dn_bare h.kd,com_bare h,List.length_map,List.flatMap_map]
 have e1 : packW (bareJ j) = packW j := by
  show numI j.epoch ++ numI j.last ++ numI ((dnL j).length : Int) = _
  have : (dnL j).length = j.done.length := by
   have := congrArg List.length (dnL_keys j)
   rw [List.length_map,sortL_len,List.length_map] at this
   exact this
  rw [this]
  rfl
 rw [e1]
 rfl
structure UO (j : JG) : Prop where
 pb : PB j
 s1 : 1 ≤ j.shards
 s2 : j.shards ≤ 4
 tl : (comL j).length ≤ 8
 dl : j.done.length ≤ 1048576
 ds : ∀ d ∈ j.done,0 ≤ d.1 ∧ 0 < d.2 ∧ d.2 ≤ j.last
 ts : ∀ t ∈ comL j,TU j.shards.toNat j.last.toNat t
theorem un_pack {j : JG} (h : UO j) : unG j.shards j.dim (packG j) = bareJ j ∧ unOK j.shards j.dim (packG j) := by
 have hb := h.pb
 have e0 := hb.e0
 have e1 := hb.e1
 have l0 := hb.l0
 have l1 := hb.l1
 have htl := h.tl
 have hdl := h.dl
 have hdn : (dnL j).length = j.done.length := by
  have := congrArg List.length (dnL_keys j)
  rw [List.length_map,sortL_len,List.length_map] at this
  exact this
 have eP : packG j = numI j.epoch ++ (numI j.last ++ (numI (j.done.length : Int) ++ ((dnL j).flatMap packD ++ (numI ((comL j).length : Int) ++ ((comL j).flatMap packT ++ []))))) := by
  unfold packG packW
  simp only [List.append_assoc,List.append_nil]
 obtain ⟨T,hT⟩ : ∃ T,T = (comL j).flatMap packT ++ [] := ⟨_,rfl⟩
 obtain ⟨R,hR⟩ : ∃ R,R = numI ((comL j).length : Int) ++ T := ⟨_,rfl⟩
 have hRn : R.length ≠ 0 := by rw [hR,List.length_append];have := numI_ne ((comL j).length : Int);omega
 rw [← hT,← hR] at eP
 have eH : hdF (packG j) = (j.epoch.toNat,j.last.toNat,⟨numI (j.done.length : Int) ++ ((dnL j).flatMap packD ++ R),0,true⟩) := by
  unfold hdF
  rw [eP,rdF_ok e0 (by omega) (by omega)]
  dsimp only
  rw [rdF_ok l0 (by omega) (by omega)]
 have eD : dnU (packG j) = (⟨R,0,true⟩,dnL j) := by
  unfold dnU
  rw [eH]
  dsimp only
  rw [rdF_ok (Int.natCast_nonneg _) (by omega) (by omega)]
  dsimp only
  rw [Int.toNat_natCast,← hdn]
  have := dnF_ok (last := j.last.toNat) (by omega) hRn (dnL j) [] (fun d hd => by
   obtain ⟨b,hbm,rfl⟩ := List.mem_map.1 hd
   obtain ⟨s,hs⟩ := dn_lk hbm hb.kd
   have hm := lk_memL hs
   have h1 := h.ds _ hm
   have h2 := hb.d _ hm
   dsimp only at h1 h2 ⊢
   rw [hs]
   exact ⟨h1.1,h2.1,h1.2.1,by show s ≤ _;omega⟩) (by rw [List.nil_append];exact dnL_ok hb.kd)
  rw [this]
  rfl
 have eT : trU j.shards.toNat (packG j) = (⟨[],0,true⟩,(comL j).map fun t => (t.txn,t.bare)) := by
  unfold trU
  rw [eH,eD]
  dsimp only
  rw [hR,rdF_ok (Int.natCast_nonneg _) (by omega) (by omega)]
  dsimp only
  have s2 := h.s2
  rw [Int.toNat_natCast,hT,trF_ok (by omega) (by omega) (comL j) [] h.ts (fun u hu => by cases hu) (comL_nodup hb)]
  rfl
 have eG : unG j.shards j.dim (packG j) = bareJ j := by
  unfold unG
  rw [eH,eD,eT]
  dsimp only
  rw [Int.toNat_of_nonneg e0,Int.toNat_of_nonneg l0]
 refine ⟨eG,?_,?_,?_⟩
 ·rw [eT]
  rfl
 ·rw [eT]
 ·rw [eG]
  exact pack_bare hb
theorem u8of (b : UInt8) : UInt8.ofNat b.toNat = b := by
 apply UInt8.toNat_inj.1
 rw [UInt8.toNat_ofNat']
 have := b.toNat_lt
 omega
theorem peekF_inv : ∀ (bs : List UInt8) (i n : Nat),(peekF bs i n).2.2 = 0 → ∃ m rest,bs = numB m ++ rest ∧ peekF bs i n = (n + m * 2 ^ (7 * i),i + (numB m).length,0) ∧ (0 < i → 0 < m)
 | [],i,n,h => by simp [peekF] at h
 | b :: bs,i,n,h => by
  rw [peekF_cons] at h ⊢
  have hb := b.toNat_lt
  by_cases h9 : i = 9 ∧ 1 < b.toNat
  ·rw [if_pos h9] at h;simp at h
  ·rw [if_neg h9] at h ⊢
   by_cases hl : b.toNat < 128
   ·rw [if_pos hl] at h ⊢
    by_cases h0 : b.toNat = 0 ∧ 0 < i
    ·rw [if_pos h0] at h;simp at h
    ·rw [if_neg h0]
     refine ⟨b.toNat,bs,?_,?_,fun hi => by omega⟩
     ·rw [numB_lo hl,u8of];rfl
     ·rw [numB_lo hl,Nat.mod_eq_of_lt hl];rfl
   ·rw [if_neg hl] at h ⊢
    obtain ⟨m,rest,e1,e2,e3⟩ := peekF_inv bs (i + 1) _ h
    have hm := e3 (by omega)
    have hd : (m * 128 + b.toNat % 128) / 128 = m := by omega
    have hr : (m * 128 + b.toNat % 128) % 128 + 128 = b.toNat := by omega
    have hB : numB (m * 128 + b.toNat % 128) = b :: numB m := by rw [numB_hi (by omega),hd,hr,u8of]
    have hp2 : 2 ^ (7 * (i + 1)) = 128 * 2 ^ (7 * i) := by rw [Nat.mul_add,Nat.pow_add,Nat.mul_comm]
    refine ⟨m * 128 + b.toNat % 128,rest,by rw [hB,e1];rfl,?_,fun _ => by omega⟩
    rw [e2,hB,hp2,Nat.add_mul,List.length_cons]
    congr 1
    ·rw [Nat.mul_assoc];omega
    ·congr 1;omega
theorem numI_nat (m : Nat) : numI (m : Int) = numB m := by
 unfold numI
 rw [if_neg (by omega),Int.toNat_natCast]
theorem rdF_inv {m : Nat} {s : RS} (h : (rdF m s).2.bad = 0) : s.bad = 0 ∧ s.bs = numI (rdF m s).1 ++ (rdF m s).2.bs := by
 unfold rdF numF at h ⊢
 by_cases h1 : s.bad ≠ 0
 ·rw [if_pos h1] at h
  exact absurd h h1
 ·rw [if_neg h1] at h ⊢
  by_cases h2 : (takeF s.bs m).2.2 ≠ 0
  ·rw [if_pos h2] at h
   exact absurd h h2
  ·rw [if_neg h2]
   refine ⟨Classical.not_not.1 h1,?_⟩
   have h5 : (takeF s.bs m).2.2 = 0 := Classical.not_not.1 h2
   unfold takeF at h5 ⊢
   by_cases h6 : (peekF s.bs 0 0).2.2 ≠ 0
   ·rw [if_pos h6] at h5
    exact absurd h5 h6
   ·rw [if_neg h6] at h5 ⊢
    by_cases h7 : m < (peekF s.bs 0 0).1
    ·rw [if_pos h7] at h5
     simp at h5
    ·rw [if_neg h7]
     obtain ⟨k,rest,e1,e2,_⟩ := peekF_inv s.bs 0 0 (Classical.not_not.1 h6)
     rw [e2]
     dsimp only
     have e3 : 0 + k * 2 ^ (7 * 0) = k := by simp
     rw [e3,Nat.zero_add,numI_nat]
     conv => rhs;rhs;rw [e1]
     rw [List.drop_left]
     exact e1
def lastLt (l : List Int) (x : Int) : Bool := match l.getLast? with
 | none => true
 | some y => decide (y < x)
theorem lastLt_snoc {l : List Int} {y x : Int} : lastLt (l ++ [y]) x = decide (y < x) := by
 unfold lastLt
 rw [List.getLast?_concat]
theorem rise_snoc {l : List Int} {x : Int} (h : Rise l) (hx : lastLt l x = true) : Rise (l ++ [x]) := by
 rcases List.eq_nil_or_concat l with rfl | ⟨l',y,rfl⟩
 ·exact List.pairwise_singleton _ _
 ·rw [List.concat_eq_append,lastLt_snoc] at hx
  rw [List.concat_eq_append] at h ⊢
  have hy := of_decide_eq_true hx
  have h1 := List.pairwise_append.1 h
  refine List.pairwise_append.2 ⟨h,List.pairwise_singleton _ _,fun a ha b hb => ?_⟩
  rw [List.mem_singleton.1 hb]
  rcases List.mem_append.1 ha with ha | ha
  ·have := h1.2.2 a ha y (List.mem_singleton.2 rfl)
   omega
  ·rw [List.mem_singleton.1 ha];exact hy
theorem lastLt_rise {l r : List Int} {x : Int} (h : Rise (l ++ x :: r)) : lastLt l x = true := by
 rcases List.eq_nil_or_concat l with rfl | ⟨l',y,rfl⟩
 ·rfl
 ·rw [List.concat_eq_append] at h ⊢
  rw [lastLt_snoc]
  exact decide_eq_true ((List.pairwise_append.1 h).2.2 y (by simp) x List.mem_cons_self)
def refD (last : Nat) : Nat → RS × List (Int × Int) → Option (RS × List (Int × Int))
 | 0,s => some s
 | k + 1,s =>
  if 0 < (rdF 1099511627776 (rdF 18446744073709551615 s.1).2).1 ∧ (rdF 1099511627776 (rdF 18446744073709551615 s.1).2).1 ≤ last ∧ lastLt (s.2.map (·.1)) (rdF 18446744073709551615 s.1).1 = true then
   refD last k ((rdF 1099511627776 (rdF 18446744073709551615 s.1).2).2,s.2 ++ [(((rdF 18446744073709551615 s.1).1 : Int),((rdF 1099511627776 (rdF 18446744073709551615 s.1).2).1 : Int))]) else none
def refP (sh : Nat) : Nat → RS × List Int → Option (RS × List Int)
 | 0,s => some s
 | k + 1,s => if 0 < (rdF sh s.1).1 ∧ lastLt s.2 (rdF sh s.1).1 = true then refP sh k ((rdF sh s.1).2,s.2 ++ [((rdF sh s.1).1 : Int)]) else none
def refT1 (sh last : Nat) (s : RS × List TR) : Option (RS × List TR) :=
 let x := rdF 18446744073709551615 s.1
 let y := rdF 18446744073709551615 x.2
 let z := rdF 1099511627776 y.2
 let n := rdF 4 z.2
 match refP sh n.1 (n.2,[]) with
 | none => none
 | some q => if 0 < n.1 ∧ 0 < z.1 ∧ z.1 ≤ last ∧ lastLt (s.2.map TR.txn) x.1 = true then some (q.1,s.2 ++ [⟨x.1,y.1,z.1,0,0,q.2,[],[],[]⟩]) else none
def refT (sh last : Nat) : Nat → RS × List TR → Option (RS × List TR)
 | 0,s => some s
 | k + 1,s => match refT1 sh last s with
  | none => none
  | some q => refT sh last k q
def refK (sh dim : Int) (e l : Nat) (ds : List (Int × Int)) : Option (RS × List TR) → Option JG
 | none => none
 | some t => if t.1.bad = 0 ∧ t.1.bs.length = 0 then some ⟨sh,dim,e,0,l,t.2.map fun u => (u.txn,u),ds⟩ else none
def refJ (sh dim : Int) (e l : Nat) : Option (RS × List (Int × Int)) → Option JG
 | none => none
 | some q => refK sh dim e l q.2 (refT sh.toNat l (rdF 8 q.1).1 ((rdF 8 q.1).2,[]))
def refU (sh dim : Int) (bs : List UInt8) : Option JG := refJ sh dim (hdF bs).1 (hdF bs).2.1 (refD (hdF bs).2.1 (min (rdF 1048576 (hdF bs).2.2).1 bs.length) ((rdF 1048576 (hdF bs).2.2).2,[]))
theorem refD_succ (last k : Nat) (s : RS × List (Int × Int)) : refD last (k + 1) s = if 0 < (rdF 1099511627776 (rdF 18446744073709551615 s.1).2).1 ∧ (rdF 1099511627776 (rdF 18446744073709551615 s.1).2).1 ≤ last ∧ lastLt (s.2.map (·.1)) (rdF 18446744073709551615 s.1).1 = true then
   refD last k ((rdF 1099511627776 (rdF 18446744073709551615 s.1).2).2,s.2 ++ [(((rdF 18446744073709551615 s.1).1 : Int),((rdF 1099511627776 (rdF 18446744073709551615 s.1).2).1 : Int))]) else none := rfl
theorem refP_succ (sh k : Nat) (s : RS × List Int) : refP sh (k + 1) s = if 0 < (rdF sh s.1).1 ∧ lastLt s.2 (rdF sh s.1).1 = true then refP sh k ((rdF sh s.1).2,s.2 ++ [((rdF sh s.1).1 : Int)]) else none := rfl
theorem refT_succ (sh last k : Nat) (s : RS × List TR) : refT sh last (k + 1) s = match refT1 sh last s with
  | none => none
  | some q => refT sh last k q := rfl
theorem refD_ok {last : Nat} (hl : last ≤ 1099511627776) {rest : List UInt8} : ∀ (ds acc : List (Int × Int)),(∀ d ∈ ds,0 ≤ d.1 ∧ d.1 ≤ 18446744073709551615 ∧ 0 < d.2 ∧ d.2 ≤ last) → Rise ((acc ++ ds).map (·.1)) →
  refD last ds.length (⟨ds.flatMap packD ++ rest,0,true⟩,acc) = some (⟨rest,0,true⟩,acc ++ ds)
 | [],acc,_,_ => by
  unfold refD
  simp
 | d :: ds,acc,h,hk => by
  obtain ⟨a,b,c,e⟩ := h d List.mem_cons_self
  have e1 : (d :: ds).flatMap packD ++ rest = numI d.1 ++ (numI d.2 ++ (ds.flatMap packD ++ rest)) := by
   rw [List.flatMap_cons];unfold packD;simp only [List.append_assoc]
  have hlt : lastLt (acc.map (·.1)) d.1 = true := by
   rw [List.map_append,List.map_cons] at hk
   exact lastLt_rise hk
  rw [e1,List.length_cons]
  unfold refD
  dsimp only
  rw [rdF_ok a (by omega) b]
  dsimp only
  rw [rdF_ok (by omega) (by omega) (by omega)]
  dsimp only
  rw [Int.toNat_of_nonneg a,Int.toNat_of_nonneg (by omega),if_pos ⟨by omega,by omega,hlt⟩,refD_ok hl ds (acc ++ [(d.1,d.2)]) (fun x hx => h x (List.mem_cons_of_mem _ hx)) (by rw [List.append_assoc];exact hk),List.append_assoc]
  rfl
theorem refP_ok {sh : Nat} (hs : sh ≤ 4) {g : Bool} {rest : List UInt8} : ∀ (ps acc : List Int),(∀ q ∈ ps,1 ≤ q ∧ q ≤ sh) → Rise (acc ++ ps) → refP sh ps.length (⟨ps.flatMap numI ++ rest,0,g⟩,acc) = some (⟨rest,0,g⟩,acc ++ ps)
 | [],acc,_,_ => by
  unfold refP
  simp
 | q :: ps,acc,h,hk => by
  obtain ⟨a,b⟩ := h q List.mem_cons_self
  have e1 : (q :: ps).flatMap numI ++ rest = numI q ++ (ps.flatMap numI ++ rest) := by rw [List.flatMap_cons,List.append_assoc]
  rw [e1,List.length_cons]
  unfold refP
  dsimp only
  rw [rdF_ok (by omega) b (by omega)]
  dsimp only
  rw [Int.toNat_of_nonneg (by omega),if_pos ⟨by omega,lastLt_rise hk⟩,refP_ok hs ps (acc ++ [q]) (fun x hx => h x (List.mem_cons_of_mem _ hx)) (by rw [List.append_assoc];exact hk),List.append_assoc]
  rfl
theorem refT1_ok {sh last : Nat} (hl : last ≤ 1099511627776) (hs : sh ≤ 4) {t : TR} (h : TU sh last t) (rest : List UInt8) {acc : List TR} (hk : lastLt (acc.map TR.txn) t.txn = true) :
  refT1 sh last (⟨packT t ++ rest,0,true⟩,acc) = some (⟨rest,0,true⟩,acc ++ [t.bare]) := by
 have e1 : packT t ++ rest = numI t.txn ++ (numI t.batch ++ (numI t.stamp ++ (numI (t.parts.length : Int) ++ (t.parts.flatMap numI ++ rest)))) := by unfold packT;simp only [List.append_assoc]
 have hpl := h.pl
 have h0 := h.x0
 have h1 := h.x1
 have h2 := h.b0
 have h3 := h.b1
 have h4 := h.s0
 have h5 := h.s1
 have hP : refP sh ((t.parts.length : Int)).toNat (⟨t.parts.flatMap numI ++ rest,0,true⟩,[]) = some (⟨rest,0,true⟩,t.parts) := by
  rw [Int.toNat_natCast,refP_ok hs t.parts [] h.pb h.r]
  rfl
 have hn : 0 < t.parts.length := List.length_pos_iff.2 h.pn
 unfold refT1
 dsimp only
 rw [e1,rdF_ok h0 (by omega) h1]
 dsimp only
 rw [rdF_ok h2 (by omega) h3]
 dsimp only
 rw [rdF_ok (by omega) (by omega) (by omega)]
 dsimp only
 rw [rdF_ok (Int.natCast_nonneg _) (by omega) (by omega)]
 dsimp only
 rw [hP]
 dsimp only
 rw [Int.toNat_of_nonneg h0,Int.toNat_of_nonneg h2,Int.toNat_of_nonneg (show 0 ≤ t.stamp by omega),if_pos ⟨by omega,by omega,by omega,hk⟩]
theorem refT_ok {sh last : Nat} (hl : last ≤ 1099511627776) (hs : sh ≤ 4) {rest : List UInt8} : ∀ (ts acc : List TR),(∀ t ∈ ts,TU sh last t) → Rise ((acc ++ ts).map TR.txn) →
  refT sh last ts.length (⟨ts.flatMap packT ++ rest,0,true⟩,acc) = some (⟨rest,0,true⟩,acc ++ ts.map TR.bare)
 | [],acc,_,_ => by
  unfold refT
  simp
 | t :: ts,acc,h,hk => by
  have e1 : (t :: ts).flatMap packT ++ rest = packT t ++ (ts.flatMap packT ++ rest) := by rw [List.flatMap_cons,List.append_assoc]
  have hlt : lastLt (acc.map TR.txn) t.txn = true := by
   rw [List.map_append,List.map_cons] at hk
   exact lastLt_rise hk
  rw [e1,List.length_cons]
  unfold refT
  rw [refT1_ok hl hs (h t List.mem_cons_self) _ hlt]
  dsimp only
  rw [refT_ok hl hs ts (acc ++ [t.bare]) (fun x hx => h x (List.mem_cons_of_mem _ hx)) (by rw [List.append_assoc,List.map_append] at *;exact hk),List.append_assoc]
  rfl
theorem refD_inv {last : Nat} : ∀ (k : Nat) (s r : RS × List (Int × Int)),refD last k s = some r → r.1.bad = 0 → Rise (s.2.map (·.1)) →
  s.1.bad = 0 ∧ ∃ ds,r.2 = s.2 ++ ds ∧ ds.length = k ∧ s.1.bs = ds.flatMap packD ++ r.1.bs ∧ (∀ d ∈ ds,0 ≤ d.1 ∧ d.1 ≤ 18446744073709551615 ∧ 0 < d.2 ∧ d.2 ≤ last) ∧ Rise (r.2.map (·.1))
 | 0,s,r,h,hb,hk => by
  unfold refD at h
  cases h
  exact ⟨hb,[],by simp,rfl,by simp,fun _ h => (by cases h),hk⟩
 | k + 1,s,r,h,hb,hk => by
  unfold refD at h
  split at h
  ·rename_i hc
   obtain ⟨c1,c2,c3⟩ := hc
   obtain ⟨b1,ds,e1,e2,e3,e4,e5⟩ := refD_inv k _ r h hb (by rw [List.map_append];exact rise_snoc hk c3)
   dsimp only at b1 e1 e3
   obtain ⟨b2,f2⟩ := rdF_inv b1
   obtain ⟨b3,f3⟩ := rdF_inv b2
   have hx := (rdF_le 18446744073709551615 s.1).1
   refine ⟨b3,_ :: ds,by rw [e1,List.append_assoc];rfl,by rw [List.length_cons,e2],?_,fun d hd => ?_,e5⟩
   ·rw [f3,f2,e3,List.flatMap_cons]
    unfold packD
    simp only [List.append_assoc]
   ·rcases List.mem_cons.1 hd with rfl | hd
    ·dsimp only;omega
    ·exact e4 d hd
  ·cases h
theorem refP_inv {sh : Nat} : ∀ (k : Nat) (s r : RS × List Int),refP sh k s = some r → r.1.bad = 0 → Rise s.2 →
  s.1.bad = 0 ∧ ∃ ps,r.2 = s.2 ++ ps ∧ ps.length = k ∧ s.1.bs = ps.flatMap numI ++ r.1.bs ∧ (∀ q ∈ ps,1 ≤ q ∧ q ≤ sh) ∧ Rise r.2
 | 0,s,r,h,hb,hk => by
  unfold refP at h
  cases h
  exact ⟨hb,[],by simp,rfl,by simp,fun _ h => (by cases h),hk⟩
 | k + 1,s,r,h,hb,hk => by
  unfold refP at h
  split at h
  ·rename_i hc
   obtain ⟨c1,c3⟩ := hc
   obtain ⟨b1,ps,e1,e2,e3,e4,e5⟩ := refP_inv k _ r h hb (rise_snoc hk c3)
   dsimp only at b1 e1 e3
   obtain ⟨b3,f3⟩ := rdF_inv b1
   have hx := (rdF_le sh s.1).1
   refine ⟨b3,_ :: ps,by rw [e1,List.append_assoc];rfl,by rw [List.length_cons,e2],?_,fun d hd => ?_,e5⟩
   ·rw [f3,e3,List.flatMap_cons]
    simp only [List.append_assoc]
   ·rcases List.mem_cons.1 hd with rfl | hd
    ·omega
    ·exact e4 d hd
  ·cases h
theorem refT1_inv {sh last : Nat} {s r : RS × List TR} (h : refT1 sh last s = some r) (hb : r.1.bad = 0) (hk : Rise (s.2.map TR.txn)) :
  s.1.bad = 0 ∧ ∃ t,r.2 = s.2 ++ [t] ∧ s.1.bs = packT t ++ r.1.bs ∧ TU sh last t ∧ t.bare = t ∧ Rise (r.2.map TR.txn) := by
 unfold refT1 at h
 dsimp only at h
 have h1 := (rdF_le 18446744073709551615 s.1).1
 have i1 := rdF_inv (m := 18446744073709551615) (s := s.1)
 generalize rdF 18446744073709551615 s.1 = x at h h1 i1
 have h2 := (rdF_le 18446744073709551615 x.2).1
 have i2 := rdF_inv (m := 18446744073709551615) (s := x.2)
 generalize rdF 18446744073709551615 x.2 = y at h h2 i2
 have i3 := rdF_inv (m := 1099511627776) (s := y.2)
 generalize rdF 1099511627776 y.2 = z at h i3
 have h4 := (rdF_le 4 z.2).1
 have i4 := rdF_inv (m := 4) (s := z.2)
 generalize rdF 4 z.2 = n at h h4 i4
 split at h
 ·cases h
 ·rename_i q hq
  split at h
  ·rename_i hc
   obtain ⟨c1,c2,c3,c4⟩ := hc
   cases h
   dsimp only at hb ⊢
   obtain ⟨b5,ps,e1,e2,e3,e4,e5⟩ := refP_inv _ _ _ hq hb List.Pairwise.nil
   dsimp only at b5 e1 e3
   rw [List.nil_append] at e1
   obtain ⟨b4,f4⟩ := i4 b5
   obtain ⟨b3,f3⟩ := i3 b4
   obtain ⟨b2,f2⟩ := i2 b3
   obtain ⟨b1,f1⟩ := i1 b2
   rw [e1] at e5 ⊢
   refine ⟨b1,_,rfl,?_,⟨Int.natCast_nonneg _,by dsimp only;omega,Int.natCast_nonneg _,by dsimp only;omega,by dsimp only;omega,by dsimp only;omega,e5,by dsimp only;omega,?_,e4⟩,rfl,?_⟩
   ·rw [f1,f2,f3,f4,e3]
    unfold packT
    dsimp only
    rw [e2]
    simp only [List.append_assoc]
   ·intro e
    dsimp only at e
    rw [e] at e2
    simp at e2
    omega
   ·rw [List.map_append]
    exact rise_snoc hk c4
  ·cases h
theorem refT_inv {sh last : Nat} : ∀ (k : Nat) (s r : RS × List TR),refT sh last k s = some r → r.1.bad = 0 → Rise (s.2.map TR.txn) →
  s.1.bad = 0 ∧ ∃ ts,r.2 = s.2 ++ ts ∧ ts.length = k ∧ s.1.bs = ts.flatMap packT ++ r.1.bs ∧ (∀ t ∈ ts,TU sh last t ∧ t.bare = t) ∧ Rise (r.2.map TR.txn)
 | 0,s,r,h,hb,hk => by
  unfold refT at h
  cases h
  exact ⟨hb,[],by simp,rfl,by simp,fun _ h => (by cases h),hk⟩
 | k + 1,s,r,h,hb,hk => by
  unfold refT at h
  split at h
  ·cases h
  ·rename_i q hq
   have hqb : q.1.bad = 0 := by
    have : ∀ (k : Nat) (s r : RS × List TR),refT sh last k s = some r → r.1.bad = 0 → s.1.bad = 0 := fun k => by
     induction k with
     | zero => intro s r h hb;unfold refT at h;cases h;exact hb
     | succ k ih =>
      intro s r h hb
      unfold refT at h
      split at h
      ·cases h
      ·rename_i q hq
       have hqb := ih q r h hb
       unfold refT1 at hq
       dsimp only at hq
       split at hq
       ·cases hq
       ·rename_i w hw
        split at hq
        ·cases hq
         have hP : ∀ (k : Nat) (s r : RS × List Int),refP sh k s = some r → r.1.bad = 0 → s.1.bad = 0 := fun k => by
          induction k with
          | zero => intro s r h hb;unfold refP at h;cases h;exact hb
          | succ k ih =>
           intro s r h hb
           unfold refP at h
           split at h
           ·exact (rdF_inv (ih _ r h hb)).1
           ·cases h
         exact (rdF_inv (rdF_inv (rdF_inv (rdF_inv (hP _ _ _ hw hqb)).1).1).1).1
        ·cases hq
    exact this k q r h hb
   obtain ⟨b1,t,e1,e2,e3,e4,e5⟩ := refT1_inv hq hqb hk
   obtain ⟨b2,ts,f1,f2,f3,f4,f5⟩ := refT_inv k q r h hb e5
   refine ⟨b1,t :: ts,by rw [f1,e1,List.append_assoc];rfl,by rw [List.length_cons,f2],?_,fun u hu => ?_,f5⟩
   ·rw [e2,f3,List.flatMap_cons,List.append_assoc]
   ·rcases List.mem_cons.1 hu with rfl | hu
    ·exact ⟨e3,e4⟩
    ·exact f4 u hu
theorem riseK_rise {ps : List Int} (h : riseK ps ps.length = true) : Rise ps := by
 unfold riseK at h
 have h := of_decide_eq_true h
 refine List.pairwise_iff_getElem.2 fun i j hi hj hij => ?_
 have key : ∀ d (hd : i + 1 + d < ps.length),ps[i] < ps[i + 1 + d] := by
  intro d
  induction d with
  | zero =>
   intro hd
   have := h (i + 1) (by omega)
   rw [getD_of (List.getElem?_eq_getElem (by omega : i + 1 - 1 < ps.length)),getD_of (List.getElem?_eq_getElem (by omega : i + 1 < ps.length))] at this
   have e : ps[i + 1 - 1] = ps[i] := by congr 1
   rw [e] at this
   show ps[i] < ps[i + 1]
   omega
  | succ d ih =>
   intro hd
   have h1 := ih (by omega)
   have := h (i + 1 + (d + 1)) hd
   rw [getD_of (List.getElem?_eq_getElem (by omega : i + 1 + (d + 1) - 1 < ps.length)),getD_of (List.getElem?_eq_getElem hd)] at this
   have e : ps[i + 1 + (d + 1) - 1] = ps[i + 1 + d] := by congr 1
   rw [e] at this
   omega
 have e : j = i + 1 + (j - i - 1) := by omega
 have := key (j - i - 1) (by omega)
 have e2 : ps[i + 1 + (j - i - 1)] = ps[j] := by congr 1;omega
 rw [e2] at this
 exact this
theorem headK_all {ps : List Int} (h : headK ps = true) (hr : Rise ps) : ps ≠ [] ∧ ∀ q ∈ ps,1 ≤ q := by
 cases ps with
 | nil => simp [headK] at h
 | cons v vs =>
  rw [headK_cons] at h
  have h := of_decide_eq_true h
  refine ⟨by simp,fun q hq => ?_⟩
  rcases List.mem_cons.1 hq with rfl | hq
  ·omega
  ·have := (List.pairwise_cons.1 hr).1 q hq
   omega
theorem stF_good {l : Nat} {s : RS} (h : (stF l s).2.good = true) : s.good = true ∧ 0 < (stF l s).1 ∧ (stF l s).1 ≤ l := by
 unfold stF at h ⊢
 simp only [Bool.and_eq_true,decide_eq_true_eq] at h
 exact ⟨h.1.1,h.1.2,h.2⟩
theorem dnF_good {l : Nat} : ∀ (k : Nat) (s : RS × List (Int × Int)),(dnF l k s).1.good = true → s.1.good = true ∧ ∀ u ∈ (dnF l k s).2,u ∈ s.2 ∨ (0 ≤ u.1 ∧ 0 < u.2 ∧ u.2 ≤ l)
 | 0,s,h => ⟨h,fun u hu => .inl hu⟩
 | k + 1,s,h => by
  unfold dnF at h ⊢
  have hp : ∀ u ∈ putL s.2 ((rdF 18446744073709551615 s.1).1 : Int) ((stF l (rdF 18446744073709551615 s.1).2).1 : Int),(stF l (rdF 18446744073709551615 s.1).2).2.good = true → u ∈ s.2 ∨ (0 ≤ u.1 ∧ 0 < u.2 ∧ u.2 ≤ l) := fun u hu hg => by
   obtain ⟨g1,g2,g3⟩ := stF_good hg
   rcases putL_memG hu with h | rfl
   ·exact .inl h
   ·exact .inr ⟨Int.natCast_nonneg _,by dsimp only;omega,by dsimp only;omega⟩
  split at h
  ·rename_i h0
   rw [if_pos h0]
   exact ⟨(stF_good h).1,fun u hu => hp u hu h⟩
  ·rename_i h0
   rw [if_neg h0]
   obtain ⟨g1,g2⟩ := dnF_good k _ h
   refine ⟨(stF_good g1).1,fun u hu => ?_⟩
   rcases g2 u hu with hu | hu
   ·exact hp u hu g1
   ·exact .inr hu
theorem ptF_good {sh : Nat} : ∀ (k : Nat) (s : RS × List Int),(ptF sh k s).1.good = s.1.good
 | 0,s => rfl
 | k + 1,s => by
  unfold ptF
  rw [ptF_good k]
  rfl
theorem triF_good {sh l : Nat} {s : RS} (h : (triF sh l s).1.good = true) : s.good = true ∧ TU sh l (triF sh l s).2 := by
 unfold triF at h ⊢
 dsimp only at h ⊢
 have hx := (rdF_le 18446744073709551615 s).1
 have hy := (rdF_le 18446744073709551615 (rdF 18446744073709551615 s).2).1
 have hn := (rdF_le 4 (stF l (rdF 18446744073709551615 (rdF 18446744073709551615 s).2).2).2).1
 obtain ⟨h1,h2⟩ := ptF_in sh (rdF 4 (stF l (rdF 18446744073709551615 (rdF 18446744073709551615 s).2).2).2).1 ((rdF 4 (stF l (rdF 18446744073709551615 (rdF 18446744073709551615 s).2).2).2).2,[])
 simp only [Bool.and_eq_true] at h
 obtain ⟨⟨g1,g2⟩,g3⟩ := h
 rw [ptF_good] at g1
 have hr := riseK_rise g3
 obtain ⟨p1,p2⟩ := headK_all g2 hr
 obtain ⟨s1,s2,s3⟩ := stF_good (l := l) (s := (rdF 18446744073709551615 (rdF 18446744073709551615 s).2).2) g1
 refine ⟨s1,Int.natCast_nonneg _,by dsimp only;omega,Int.natCast_nonneg _,by dsimp only;omega,by dsimp only;omega,by dsimp only;omega,hr,?_,p1,fun q hq => ⟨p2 q hq,?_⟩⟩
 ·dsimp only
  rw [h1]
  show 0 + _ ≤ 4
  omega
 ·rcases h2 q hq with h | h
  ·cases h
  ·exact h.2
theorem trF_good {sh l : Nat} : ∀ (k : Nat) (s : RS × List (Int × TR)),(trF sh l k s).1.good = true → s.1.good = true ∧ ∀ u ∈ (trF sh l k s).2,u ∈ s.2 ∨ TU sh l u.2
 | 0,s,h => ⟨h,fun u hu => .inl hu⟩
 | k + 1,s,h => by
  unfold trF at h ⊢
  obtain ⟨g1,g2⟩ := trF_good k _ h
  obtain ⟨g3,g4⟩ := triF_good g1
  refine ⟨g3,fun u hu => ?_⟩
  rcases g2 u hu with hu | hu
  ·rcases putL_memG hu with h | rfl
   ·exact .inl h
   ·exact .inr g4
  ·exact .inr hu
theorem unOK_uo {sh dim : Int} {bs : List UInt8} (h1 : 1 ≤ sh) (h2 : sh ≤ 4) (hb : bs.length ≤ 100000) (h : unOK sh dim bs) : UO (unG sh dim bs) := by
 obtain ⟨hp,h8⟩ := unG_pb (dim := dim) h1 h2 bs
 have hd := unG_len (dim := dim) h.1
 obtain ⟨g1,g2⟩ := trF_good _ _ h.2.1
 have g3 := dnF_good _ _ (show (dnU bs).1.good = true from g1)
 have hcl : (comL (unG sh dim bs)).length ≤ (unG sh dim bs).tr.length := by
  unfold comL
  refine Nat.le_trans (List.length_filter_le _ _) ?_
  rw [(trsL_perm hp.kt).length_eq,List.length_map];exact Nat.le_refl _
 refine ⟨hp,h1,h2,by omega,by omega,fun d hd => ?_,fun t ht => ?_⟩
 ·rcases g3.2 d hd with h | h
  ·cases h
  ·exact h
 ·have hl := trs_memB hp (List.mem_filter.1 ht).1
  have hm := (lkL_iff hp.kt).1 hl
  rcases g2 _ hm with h | h
  ·cases h
  ·exact h
theorem packD_pos (d : Int × Int) : 2 ≤ (packD d).length := by
 have h1 := numI_ne d.1
 have h2 := numI_ne d.2
 unfold packD
 rw [List.length_append]
 omega
theorem packD_le : ∀ (ds : List (Int × Int)),ds.length * 2 ≤ (ds.flatMap packD).length
 | [] => by simp
 | d :: ds => by
  have h1 := packD_pos d
  have h2 := packD_le ds
  rw [List.flatMap_cons,List.length_append,List.length_cons]
  omega
theorem dnL_rise {j : JG} (hk : keysOK j.done) : Rise ((dnL j).map (·.1)) := by
 rw [dnL_keys]
 have h1 := sortL_sorted (j.done.map (·.1))
 have h2 : (sortL (j.done.map (·.1))).Nodup := (sortL_perm _).nodup_iff.2 hk
 exact List.Pairwise.imp₂ (fun a b h3 h4 => by omega) h1 h2
theorem comL_rise {j : JG} (h : PB j) : Rise ((comL j).map TR.txn) := by
 have h1 : (sortL (j.tr.map (·.1))).Pairwise (· < ·) := by
  have h1 := sortL_sorted (j.tr.map (·.1))
  have h2 : (sortL (j.tr.map (·.1))).Nodup := (sortL_perm _).nodup_iff.2 h.kt
  exact List.Pairwise.imp₂ (fun a b h3 h4 => by omega) h1 h2
 exact h1.sublist (comL_txns h)
theorem ref_pack {j : JG} (h : UO j) : refU j.shards j.dim (packG j) = some (bareJ j) := by
 have hb := h.pb
 have e0 := hb.e0
 have e1 := hb.e1
 have l0 := hb.l0
 have l1 := hb.l1
 have htl := h.tl
 have hdl := h.dl
 have hdn : (dnL j).length = j.done.length := by
  have := congrArg List.length (dnL_keys j)
  rw [List.length_map,sortL_len,List.length_map] at this
  exact this
 have eP : packG j = numI j.epoch ++ (numI j.last ++ (numI (j.done.length : Int) ++ ((dnL j).flatMap packD ++ (numI ((comL j).length : Int) ++ ((comL j).flatMap packT ++ []))))) := by
  unfold packG packW
  simp only [List.append_assoc,List.append_nil]
 have hlen : j.done.length ≤ (packG j).length := by
  have := packD_le (dnL j)
  rw [eP]
  simp only [List.length_append]
  omega
 have eH : hdF (packG j) = (j.epoch.toNat,j.last.toNat,⟨numI (j.done.length : Int) ++ ((dnL j).flatMap packD ++ (numI ((comL j).length : Int) ++ ((comL j).flatMap packT ++ []))),0,true⟩) := by
  unfold hdF
  rw [eP,rdF_ok e0 (by omega) (by omega)]
  dsimp only
  rw [rdF_ok l0 (by omega) (by omega)]
 have s2 := h.s2
 unfold refU
 rw [eH]
 dsimp only
 rw [rdF_ok (Int.natCast_nonneg _) (by omega) (by omega)]
 dsimp only
 rw [Int.toNat_natCast,Nat.min_eq_left hlen,← hdn,refD_ok (last := j.last.toNat) (by omega) (dnL j) [] (fun d hd => by
   obtain ⟨b,hbm,rfl⟩ := List.mem_map.1 hd
   obtain ⟨s,hs⟩ := dn_lk hbm hb.kd
   have hm := lk_memL hs
   have h1 := h.ds _ hm
   have h2 := hb.d _ hm
   dsimp only at h1 h2 ⊢
   rw [hs]
   exact ⟨h1.1,h2.1,h1.2.1,by show s ≤ _;omega⟩) (by rw [List.nil_append];exact dnL_rise hb.kd)]
 unfold refJ
 dsimp only
 rw [rdF_ok (Int.natCast_nonneg _) (by omega) (by omega)]
 dsimp only
 rw [Int.toNat_natCast,refT_ok (by omega) (by omega) (comL j) [] h.ts (by rw [List.nil_append];exact comL_rise hb)]
 unfold refK
 dsimp only
 rw [if_pos ⟨rfl,rfl⟩,Int.toNat_of_nonneg e0,Int.toNat_of_nonneg l0,List.nil_append,List.nil_append,List.map_map]
 rfl
theorem sort_id {l : List Int} (h : Rise l) : sortL l = l := sorted_uniq (sortL_perm _) (sortL_sorted _) (h.imp fun h => Int.le_of_lt h)
theorem lk_ids : ∀ (ds : List (Int × Int)),keysOK ds → (ds.map (·.1)).map (fun b => (b,(lkL ds b).getD 0)) = ds := fun ds hk => by
 rw [List.map_map]
 refine (List.map_congr_left fun d hd => ?_).trans (List.map_id _)
 show (d.1,(lkL ds d.1).getD 0) = d
 rw [(lkL_iff hk).2 hd];rfl
theorem ref_inv {sh dim : Int} {bs : List UInt8} {y : JG} (h1 : 1 ≤ sh) (h2 : sh ≤ 4) (hb : bs.length ≤ 100000) (h : refU sh dim bs = some y) : UO y ∧ bareJ y = y ∧ packG y = bs ∧ y.shards = sh ∧ y.dim = dim := by
 unfold refU refJ at h
 have n0 := (rdF_le 1099511627776 ⟨bs,0,true⟩).1
 have n1 := (rdF_le 1099511627776 (rdF 1099511627776 ⟨bs,0,true⟩).2).1
 split at h
 ·cases h
 ·rename_i q hq
  unfold refK at h
  split at h
  ·cases h
  ·rename_i t ht
   split at h
   ·rename_i hc
    obtain ⟨c1,c2⟩ := hc
    cases h
    have n8 := (rdF_le 8 q.1).1
    obtain ⟨b3,ts,e1,e2,e3,e4,e5⟩ := refT_inv _ _ _ ht c1 List.Pairwise.nil
    dsimp only at b3 e1 e3
    obtain ⟨b4,f4⟩ := rdF_inv b3
    obtain ⟨b5,ds,g1,g2,g3,g4,g5⟩ := refD_inv _ _ _ hq b4 List.Pairwise.nil
    dsimp only at b5 g1 g3
    obtain ⟨b6,f6⟩ := rdF_inv b5
    obtain ⟨b7,f7⟩ := rdF_inv (m := 1099511627776) (s := (rdF 1099511627776 ⟨bs,0,true⟩).2) b6
    obtain ⟨b8,f8⟩ := rdF_inv b7
    rw [List.nil_append] at e1 g1
    have hbs : bs = numI ((hdF bs).1 : Int) ++ (numI ((hdF bs).2.1 : Int) ++ (numI ((rdF 1048576 (hdF bs).2.2).1 : Int) ++ (ds.flatMap packD ++ (numI ((rdF 8 q.1).1 : Int) ++ (ts.flatMap packT ++ t.1.bs))))) := by
     rw [← e3,← f4,← g3,← f6]
     show bs = numI ((rdF 1099511627776 ⟨bs,0,true⟩).1 : Int) ++ (numI ((rdF 1099511627776 (rdF 1099511627776 ⟨bs,0,true⟩).2).1 : Int) ++ (rdF 1099511627776 (rdF 1099511627776 ⟨bs,0,true⟩).2).2.bs)
     rw [← f7]
     exact f8
    have hn0 := numI_ne ((hdF bs).1 : Int)
    have hcnt : ds.length = (rdF 1048576 (hdF bs).2.2).1 := by
     have h3 := packD_le ds
     have h4 := congrArg List.length hbs
     simp only [List.length_append] at h4
     omega
    have hnil : t.1.bs = [] := List.eq_nil_of_length_eq_zero c2
    rw [e1] at e5
    rw [g1] at g5
    have hkd : keysOK ds := g5.imp fun h => by omega
    have hkt : (ts.map TR.txn).Nodup := e5.imp fun h => by omega
    have hkt' : keysOK (ts.map fun u => (u.txn,u)) := by unfold keysOK;rw [List.map_map];exact hkt
    have ed : dnL ⟨sh,dim,(hdF bs).1,0,(hdF bs).2.1,ts.map fun u => (u.txn,u),ds⟩ = ds := by
     unfold dnL
     dsimp only
     rw [sort_id g5]
     exact lk_ids ds hkd
    have ec : comL ⟨sh,dim,(hdF bs).1,0,(hdF bs).2.1,ts.map fun u => (u.txn,u),ds⟩ = ts := by
     unfold comL trsL
     dsimp only
     rw [List.map_map]
     show ((sortL (ts.map TR.txn)).filterMap fun x => lkL (ts.map fun u => (u.txn,u)) x).filter com0 = ts
     rw [sort_id e5]
     have : (ts.map TR.txn).filterMap (fun x => lkL (ts.map fun u => (u.txn,u)) x) = ts.map TR.bare := fm_of fun t ht => by
      rw [(lkL_iff hkt').2 (List.mem_map_of_mem (f := fun u : TR => (u.txn,u)) ht),(e4 t ht).2]
     rw [this]
     have e6 : ts.map TR.bare = ts := (List.map_congr_left fun t ht => (e4 t ht).2).trans (List.map_id _)
     rw [e6]
     exact List.filter_eq_self.2 fun t ht => by have := (e4 t ht).1.s0;simpa [com0] using this
    rw [e1,g1]
    refine ⟨⟨⟨Int.natCast_nonneg _,?_,Int.natCast_nonneg _,?_,hkt',hkd,fun u hu => ?_,fun u hu => ?_⟩,h1,h2,?_,?_,fun d hd => ?_,fun u hu => ?_⟩,?_,?_,rfl,rfl⟩
    ·show ((rdF 1099511627776 ⟨bs,0,true⟩).1 : Int) ≤ _
     omega
    ·show ((rdF 1099511627776 (rdF 1099511627776 ⟨bs,0,true⟩).2).1 : Int) ≤ _
     omega
    ·obtain ⟨t,ht,rfl⟩ := List.mem_map.1 hu
     have hT := (e4 t ht).1
     have hs1 := hT.s1
     have hl1 : ((hdF bs).2.1 : Int) ≤ 1099511627776 := by
      show ((rdF 1099511627776 (rdF 1099511627776 ⟨bs,0,true⟩).2).1 : Int) ≤ _
      omega
     exact ⟨rfl,hT.x1,hT.b1,by dsimp only;omega,hT.pl,fun q hq => by have := hT.pb q hq;omega⟩
    ·have := g4 u hu
     have hl1 : ((hdF bs).2.1 : Int) ≤ 1099511627776 := by
      show ((rdF 1099511627776 (rdF 1099511627776 ⟨bs,0,true⟩).2).1 : Int) ≤ _
      omega
     omega
    ·rw [ec];omega
    ·have h3 := (rdF_le 1048576 (hdF bs).2.2).1
     dsimp only;omega
    ·have := g4 d hd
     dsimp only;omega
    ·rw [ec] at hu
     exact (e4 u hu).1
    ·unfold bareJ
     rw [ec,ed]
     dsimp only
     congr 1
     exact List.map_congr_left fun t ht => by rw [(e4 t ht).2]
    ·unfold packG packW
     rw [ec,ed]
     dsimp only
     rw [hcnt,e2]
     conv => rhs;rw [hbs,hnil]
     simp only [List.append_assoc,List.append_nil]
   ·cases h
theorem ref_un {sh dim : Int} {bs : List UInt8} (h1 : 1 ≤ sh) (h2 : sh ≤ 4) (hb : bs.length ≤ 100000) :
  (∃ y,refU sh dim bs = some y ∧ unOK sh dim bs ∧ unG sh dim bs = y ∧ UO y ∧ bareJ y = y) ∨ (refU sh dim bs = none ∧ ¬ unOK sh dim bs) := by
 cases hr : refU sh dim bs with
 | some y =>
  obtain ⟨a,b,c,d,e⟩ := ref_inv h1 h2 hb hr
  subst d e
  obtain ⟨f,g⟩ := un_pack a
  rw [c] at f g
  exact .inl ⟨y,rfl,g,f.trans b,a,b⟩
 | none =>
  refine .inr ⟨rfl,fun h => ?_⟩
  have hu := unOK_uo h1 h2 hb h
  have := ref_pack hu
  rw [h.2.2] at this
  rw [show (unG sh dim bs).shards = sh from rfl,show (unG sh dim bs).dim = dim from rfl,hr] at this
  cases this
end Go.Proofs.YtiampehfpgcogaaGreatDoor
