/- Shifts, bits, a string's byte. No condition. -/
import Derived.Test.YtjidejcehmamkaaDoorSxP
set_option linter.unusedVariables false
set_option linter.unusedSimpArgs false
namespace Go.SX
open Go
section
variable {P : Program} {n : Nat} {ops rest : List Oper} {Q : Post} {f : Env} {A L : List HP} {d : Tmp} {ty : TypeId} {pos : String} {af : Array Edge}
theorem Y.ldRj {x : Operand} {t : TypeId} {sz bts : Nat} {zs : List Value} {b o j : Nat} {v : Value} {cs : List Value} [h : Ty P t false sz zs bts] (hx : ev f x = some (.pointer (some ⟨b, o + j, none⟩))) (hr : RdC A b o cs) (hj : cs[j]? = some v) : YieldS P n ops ⟨some d, .load t x, ty, pos, af, none⟩ f A v :=
  Y.ldR hx (hr.at hj)
theorem Y.shr {x y : Operand} {t t' : TypeId} {k k' : IntKind} {a b : Nat} (hx : ev f x = some (.int k (a : Int))) (hy : ev f y = some (.int k' (b : Int))) (hb : b ≤ k.bits) : YieldS P n ops ⟨some d, .binOp .shr t x y t', ty, pos, af, none⟩ f A (.int k ((a / 2 ^ b : Nat) : Int)) :=
  Y.of (fun _ w s => by
    have e1 : ¬ ((b : Int) < 0) := by omega
    have e2 : Min.min b k.bits = b := Nat.min_eq_left hb
    have e3 : (a : Int).fdiv (2 ^ b) = ((a / 2 ^ b : Nat) : Int) := by
      rw [Int.fdiv_eq_ediv_of_nonneg _ (by exact_mod_cast Nat.zero_le _)]; norm_cast
    simp [execOp, s.eval hx, s.eval hy, eqGuard, binOp, Op.shift, e1, e2, e3])
theorem Y.shl {x y : Operand} {t t' : TypeId} {k k' : IntKind} {a b : Nat} (hx : ev f x = some (.int k (a : Int))) (hy : ev f y = some (.int k' (b : Int))) (hb : b ≤ k.bits) : YieldS P n ops ⟨some d, .binOp .shl t x y t', ty, pos, af, none⟩ f A (.int k (k.wrap ((a * 2 ^ b : Nat) : Int))) :=
  Y.of (fun _ w s => by
    have e1 : ¬ ((b : Int) < 0) := by omega
    have e2 : Min.min b k.bits = b := Nat.min_eq_left hb
    have e3 : (a : Int) * 2 ^ b = ((a * 2 ^ b : Nat) : Int) := by norm_cast
    have e4 : (Op.shift .shl k (a : Int) k' (b : Int)).run P w = .ok (.int k (k.wrap ((a * 2 ^ b : Nat) : Int))) w := by
      unfold Op.shift
      rw [if_neg e1]
      simp only [Int.toNat_natCast, e2, e3, Sem.run_pure]
    simp [execOp, s.eval hx, s.eval hy, eqGuard, binOp, e4])
theorem Y.and {x y : Operand} {t t' : TypeId} {k : IntKind} {a b : Int} (hx : ev f x = some (.int k a)) (hy : ev f y = some (.int k b)) : YieldS P n ops ⟨some d, .binOp .and t x y t', ty, pos, af, none⟩ f A ((.int k (k.wrap ((BitVec.ofInt k.bits a) &&& (BitVec.ofInt k.bits b)).toNat))) :=  Y.of (fun _ w s => by simp [execOp, s.eval hx, s.eval hy, eqGuard, binOp, Op.intBits])
theorem Y.idx {x y : Operand} {t : TypeId} {k : IntKind} {s0 : ByteArray} {i : Nat} {b : UInt8} [h : StrTy P t] (hx : ev f x = some (.string s0)) (hy : ev f y = some (.int k (i : Int))) (hb : s0[i]? = some b) : YieldS P n ops ⟨some d, .index t x y, ty, pos, af, none⟩ f A (.int .u8 b.toNat) :=
  Y.of (fun _ w s => by simp [execOp, s.eval hx, s.eval hy, Instr.index, asIntOf, h.und, hb])
end
theorem opsS_mono {P : Program} {n : Nat} {ops rest : List Oper} {Q Q' : Post} {f : Env} {L : List HP} (h : opsS P n ops rest Q f L) (hq : ∀ e f L, Q e f L → Q' e f L) : opsS P n ops rest Q' f L :=
  fun ok F a w s t => wpList_mono (h ok F a w s t) fun _ _ _ ⟨f, L, s, t, q⟩ => ⟨f, L, s, t, hq _ _ _ q⟩
theorem opsS_cutT {P : Program} {n : Nat} {ops rest : List Oper} {y : Code} {Q : Post} {f : Env} {L : List HP} {σ : Type} (sl : σ → List (Nat × Value)) (H : σ → List HP) (φ : σ → Prop)
    (h : opsS P n ops rest (thenS (fun f L => ∃ s, slots f (sl s) ∧ Ent L (H s) ∧ φ s) Q) f L)
    (hk : ∀ s, φ s → swp P n y Q (updAll (sl s)) (H s)) : opsS P n ops rest (thenS (fun f L => swp P n y Q f L) Q) f L := by
  refine opsS_mono h ?_
  intro e f L q
  cases e <;> first | exact q | (obtain ⟨s, h1, h2, h3⟩ := q; exact swp_keep _ h1 (swp_ent h2 (hk s h3)))
theorem xor64 (a b : UInt64) : IntKind.u64.wrap (((BitVec.ofInt IntKind.u64.bits (a.toNat : Int)) ^^^ (BitVec.ofInt IntKind.u64.bits (b.toNat : Int))).toNat : Int) = ((a ^^^ b).toNat : Int) := by
  have e : ∀ x : UInt64, BitVec.ofInt 64 (x.toNat : Int) = x.toBitVec := fun x => by
    apply BitVec.eq_of_toNat_eq
    have := x.toNat_lt
    simp
  have h := (a ^^^ b).toNat_lt
  show IntKind.u64.wrap (((BitVec.ofInt 64 (a.toNat : Int)) ^^^ (BitVec.ofInt 64 (b.toNat : Int))).toNat : Int) = _
  rw [e, e, show (a.toBitVec ^^^ b.toBitVec).toNat = (a ^^^ b).toNat from rfl]
  exact wrap_u64 (by omega) (by omega)
theorem shl64 (a : UInt64) (k : Nat) (hk : k < 64) : IntKind.u64.wrap ((a.toNat * 2 ^ k : Nat) : Int) = ((a <<< (UInt64.ofNat k)).toNat : Int) := by
  rw [IntKind.wrap_u64]
  simp [UInt64.toNat_shiftLeft, Nat.mod_eq_of_lt hk, Nat.shiftLeft_eq]
theorem shr64 (a : UInt64) (k : Nat) (hk : k < 64) : ((a.toNat / 2 ^ k : Nat) : Int) = ((a >>> (UInt64.ofNat k)).toNat : Int) := by
  have e1 : (UInt64.ofNat k).toNat % 64 = k := by simp; omega
  rw [UInt64.toNat_shiftRight, e1, Nat.shiftRight_eq_div_pow]
theorem and64 (a b : Nat) (ha : a < 18446744073709551616) (hb : b < 18446744073709551616) : IntKind.u64.wrap (((BitVec.ofInt IntKind.u64.bits (a : Int)) &&& (BitVec.ofInt IntKind.u64.bits (b : Int))).toNat : Int) = ((a &&& b : Nat) : Int) := by
  have e : ∀ x : Nat, x < 18446744073709551616 → (BitVec.ofInt 64 (x : Int)).toNat = x := fun x hx => by simp; omega
  show IntKind.u64.wrap (((BitVec.ofInt 64 (a : Int)) &&& (BitVec.ofInt 64 (b : Int))).toNat : Int) = _
  rw [BitVec.toNat_and, e _ ha, e _ hb]
  have : a &&& b ≤ a := Nat.and_le_left
  exact wrap_u64 (by omega) (by omega)
theorem bitsLen_shift {x k : Nat} (h : 2 ^ k ≤ x) : Sort.bitsLen x = k + Sort.bitsLen (x / 2 ^ k) := by
  unfold Sort.bitsLen
  have hp : 0 < 2 ^ k := Nat.two_pow_pos k
  have h1 : ¬ x = 0 := by omega
  have h2 : ¬ x / 2 ^ k = 0 := by
    have := Nat.div_pos h hp; omega
  rw [if_neg h1, if_neg h2]
  have hlog : Nat.log2 (x / 2 ^ k) = Nat.log2 x - k := by
    have hge : k ≤ Nat.log2 x := (Nat.le_log2 h1).2 h
    refine (Nat.log2_eq_iff h2).2 ⟨?_, ?_⟩
    · rw [Nat.le_div_iff_mul_le hp, ← Nat.pow_add, Nat.sub_add_cancel hge]
      exact Nat.log2_self_le h1
    · rw [Nat.div_lt_iff_lt_mul hp, ← Nat.pow_add, show Nat.log2 x - k + 1 + k = Nat.log2 x + 1 by omega]
      exact Nat.lt_log2_self
  have hge : k ≤ Nat.log2 x := (Nat.le_log2 h1).2 h
  omega
end Go.SX
