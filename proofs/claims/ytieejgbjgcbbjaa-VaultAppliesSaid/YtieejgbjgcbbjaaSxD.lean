/- The operations that touch no memory, and those on single places. No condition. -/
import Derived.Test.YtieejgbjgcbbjaaSxC
set_option linter.unusedVariables false
set_option linter.unusedSimpArgs false
namespace Go.SX
open Go
section
variable {P : Program} {n : Nat} {ops rest : List Oper} {Q : Post} {f : Env} {L : List HP}
variable {d : Tmp} {ty : TypeId} {pos : String} {af : Array Edge}

theorem S.mv {x : Operand} {v : Value} (hx : ev f x = some v) (hk : opsS P n ops rest Q (upd f d v) L) : opsS P n ops (⟨some d, .move x, ty, pos, af, none⟩ :: rest) Q f L :=
  opsS_pure1 (v := v) (fun a w s => by simp [execOp, s.eval hx]) hk
theorem S.as {x : Operand} {v : Value} (hx : ev f x = some v) (hk : opsS P n ops rest Q (upd f d v) L) : opsS P n ops (⟨some d, .assign x, ty, pos, af, none⟩ :: rest) Q f L :=
  opsS_pure1 (v := v) (fun a w s => by simp [execOp, s.eval hx]) hk
theorem S.pk_t {c x y : Operand} {v : Value} (hc : ev f c = some (.bool true)) (hx : ev f x = some v) (hk : opsS P n ops rest Q (upd f d v) L) : opsS P n ops (⟨some d, .pick c x y, ty, pos, af, none⟩ :: rest) Q f L :=
  opsS_pure1 (v := v) (fun a w s => by simp [execOp, s.eval hx, s.eval hc, asBool]) hk
theorem S.pk_f {c x y : Operand} {v : Value} (hc : ev f c = some (.bool false)) (hy : ev f y = some v) (hk : opsS P n ops rest Q (upd f d v) L) : opsS P n ops (⟨some d, .pick c x y, ty, pos, af, none⟩ :: rest) Q f L :=
  opsS_pure1 (v := v) (fun a w s => by simp [execOp, s.eval hy, s.eval hc, asBool]) hk
theorem S.pk {c x y : Operand} {b b1 b2 : Bool} (hc : ev f c = some (.bool b)) (hx : ev f x = some (.bool b1)) (hy : ev f y = some (.bool b2)) (hk : opsS P n ops rest Q (upd f d (.bool (bif b then b1 else b2))) L) : opsS P n ops (⟨some d, .pick c x y, ty, pos, af, none⟩ :: rest) Q f L :=
  opsS_pure1 (v := .bool (bif b then b1 else b2)) (fun a w s => by cases b <;> simp [execOp, s.eval hx, s.eval hy, s.eval hc, asBool]) hk
theorem S.ext {x : Operand} {i : Nat} {vs : Array Value} {v : Value} (hx : ev f x = some (.tuple vs)) (hv : vs.toList[i]? = some v) (hk : opsS P n ops rest Q (upd f d v) L) : opsS P n ops (⟨some d, .extract x i, ty, pos, af, none⟩ :: rest) Q f L :=
  opsS_pure1 (v := v) (fun a w s => by
    have hv' : vs[i]? = some v := by simpa using hv
    simp [execOp, s.eval hx, Instr.extract, hv']) hk
theorem S.nc {x : Operand} {ad : Addr} (hx : ev f x = some (.pointer (some ad))) (hk : opsS P n ops rest Q (upd f d (.pointer (some ad))) L) : opsS P n ops (⟨some d, .nilCheck x, ty, pos, af, none⟩ :: rest) Q f L :=
  opsS_pure1 (v := .pointer (some ad)) (fun a w s => by simp [execOp, s.eval hx]) hk
theorem S.ncf {x : Operand} {fn : FuncId} {c1 c2 : Array Value} (hx : ev f x = some (.func (.func fn) c1 c2)) (hk : opsS P n ops rest Q (upd f d (.func (.func fn) c1 c2)) L) : opsS P n ops (⟨some d, .nilCheck x, ty, pos, af, none⟩ :: rest) Q f L :=
  opsS_pure1 (v := .func (.func fn) c1 c2) (fun a w s => by simp [execOp, s.eval hx]) hk

/-! Integers: comparisons, sums. -/
theorem S.lss {x y : Operand} {t t' : TypeId} {k : IntKind} {a b : Int} (hx : ev f x = some (.int k a)) (hy : ev f y = some (.int k b)) (hk : opsS P n ops rest Q (upd f d (.bool (decide (a < b)))) L) : opsS P n ops (⟨some d, .binOp .lss t x y t', ty, pos, af, none⟩ :: rest) Q f L :=
  opsS_pure1 (fun _ w s => by simp [execOp, s.eval hx, s.eval hy, eqGuard, binOp, Op.intCmp]) hk
theorem S.leq {x y : Operand} {t t' : TypeId} {k : IntKind} {a b : Int} (hx : ev f x = some (.int k a)) (hy : ev f y = some (.int k b)) (hk : opsS P n ops rest Q (upd f d (.bool (decide (a ≤ b)))) L) : opsS P n ops (⟨some d, .binOp .leq t x y t', ty, pos, af, none⟩ :: rest) Q f L :=
  opsS_pure1 (fun _ w s => by simp [execOp, s.eval hx, s.eval hy, eqGuard, binOp, Op.intCmp]) hk
theorem S.gtr {x y : Operand} {t t' : TypeId} {k : IntKind} {a b : Int} (hx : ev f x = some (.int k a)) (hy : ev f y = some (.int k b)) (hk : opsS P n ops rest Q (upd f d (.bool (decide (b < a)))) L) : opsS P n ops (⟨some d, .binOp .gtr t x y t', ty, pos, af, none⟩ :: rest) Q f L :=
  opsS_pure1 (fun _ w s => by simp [execOp, s.eval hx, s.eval hy, eqGuard, binOp, Op.intCmp]) hk
theorem S.geq {x y : Operand} {t t' : TypeId} {k : IntKind} {a b : Int} (hx : ev f x = some (.int k a)) (hy : ev f y = some (.int k b)) (hk : opsS P n ops rest Q (upd f d (.bool (decide (b ≤ a)))) L) : opsS P n ops (⟨some d, .binOp .geq t x y t', ty, pos, af, none⟩ :: rest) Q f L :=
  opsS_pure1 (fun _ w s => by simp [execOp, s.eval hx, s.eval hy, eqGuard, binOp, Op.intCmp]) hk
theorem S.eqi {x y : Operand} {t t' : TypeId} {k : IntKind} {a b : Int} (hx : ev f x = some (.int k a)) (hy : ev f y = some (.int k b)) (hk : opsS P n ops rest Q (upd f d (.bool (decide (a = b)))) L) : opsS P n ops (⟨some d, .binOp .eql t x y t', ty, pos, af, none⟩ :: rest) Q f L :=
  opsS_pure1 (fun _ w s => by simp [execOp, s.eval hx, s.eval hy, eqGuard, binOp, Op.intCmp]; rfl) hk
theorem S.nei {x y : Operand} {t t' : TypeId} {k : IntKind} {a b : Int} (hx : ev f x = some (.int k a)) (hy : ev f y = some (.int k b)) (hk : opsS P n ops rest Q (upd f d (.bool (!decide (a = b)))) L) : opsS P n ops (⟨some d, .binOp .neq t x y t', ty, pos, af, none⟩ :: rest) Q f L :=
  opsS_pure1 (fun _ w s => by simp [execOp, s.eval hx, s.eval hy, eqGuard, binOp, Op.intCmp]; rfl) hk
theorem S.add {x y : Operand} {t t' : TypeId} {k : IntKind} {a b : Int} (hx : ev f x = some (.int k a)) (hy : ev f y = some (.int k b)) (hk : opsS P n ops rest Q (upd f d (.int k (k.wrap (a + b)))) L) : opsS P n ops (⟨some d, .binOp .add t x y t', ty, pos, af, none⟩ :: rest) Q f L :=
  opsS_pure1 (fun _ w s => by simp [execOp, s.eval hx, s.eval hy, eqGuard, binOp, Op.intArith]) hk
theorem S.sub {x y : Operand} {t t' : TypeId} {k : IntKind} {a b : Int} (hx : ev f x = some (.int k a)) (hy : ev f y = some (.int k b)) (hk : opsS P n ops rest Q (upd f d (.int k (k.wrap (a - b)))) L) : opsS P n ops (⟨some d, .binOp .sub t x y t', ty, pos, af, none⟩ :: rest) Q f L :=
  opsS_pure1 (fun _ w s => by simp [execOp, s.eval hx, s.eval hy, eqGuard, binOp, Op.intArith]) hk
theorem S.mul {x y : Operand} {t t' : TypeId} {k : IntKind} {a b : Int} (hx : ev f x = some (.int k a)) (hy : ev f y = some (.int k b)) (hk : opsS P n ops rest Q (upd f d (.int k (k.wrap (a * b)))) L) : opsS P n ops (⟨some d, .binOp .mul t x y t', ty, pos, af, none⟩ :: rest) Q f L :=
  opsS_pure1 (fun _ w s => by simp [execOp, s.eval hx, s.eval hy, eqGuard, binOp, Op.intArith]) hk
theorem wrap_i64 {a : Int} (h1 : -9223372036854775808 ≤ a) (h2 : a ≤ 9223372036854775807) : IntKind.i64.wrap a = a := IntWalk.i64_in a ⟨h1, h2⟩
theorem wrap_u64 {a : Int} (h1 : 0 ≤ a) (h2 : a ≤ 18446744073709551615) : IntKind.u64.wrap a = a := IntWalk.u64_in a ⟨h1, h2⟩
theorem wrap_u8 {a : Int} (h1 : 0 ≤ a) (h2 : a ≤ 255) : IntKind.u8.wrap a = a := IntWalk.u8_in a ⟨h1, h2⟩
theorem wrap_u32 {a : Int} (h1 : 0 ≤ a) (h2 : a ≤ 4294967295) : IntKind.u32.wrap a = a := IntWalk.u32_in a ⟨h1, h2⟩
theorem wrap_i32 {a : Int} (h1 : -2147483648 ≤ a) (h2 : a ≤ 2147483647) : IntKind.i32.wrap a = a := IntWalk.i32_in a ⟨h1, h2⟩
theorem S.addi {x y : Operand} {t t' : TypeId} {a b c : Int} (hx : ev f x = some (.int .i64 a)) (hy : ev f y = some (.int .i64 b)) (hc : a + b = c) (h1 : -9223372036854775808 ≤ c) (h2 : c ≤ 9223372036854775807) (hk : opsS P n ops rest Q (upd f d (.int .i64 c)) L) : opsS P n ops (⟨some d, .binOp .add t x y t', ty, pos, af, none⟩ :: rest) Q f L :=
  S.add hx hy (by rw [hc, wrap_i64 h1 h2]; exact hk)
theorem S.subi {x y : Operand} {t t' : TypeId} {a b c : Int} (hx : ev f x = some (.int .i64 a)) (hy : ev f y = some (.int .i64 b)) (hc : a - b = c) (h1 : -9223372036854775808 ≤ c) (h2 : c ≤ 9223372036854775807) (hk : opsS P n ops rest Q (upd f d (.int .i64 c)) L) : opsS P n ops (⟨some d, .binOp .sub t x y t', ty, pos, af, none⟩ :: rest) Q f L :=
  S.sub hx hy (by rw [hc, wrap_i64 h1 h2]; exact hk)
theorem S.rem {x y : Operand} {t t' : TypeId} {k : IntKind} {a b : Int} (hx : ev f x = some (.int k a)) (hy : ev f y = some (.int k b)) (hb : ¬ b = 0) (hk : opsS P n ops rest Q (upd f d (.int k (a.tmod b))) L) : opsS P n ops (⟨some d, .binOp .rem t x y t', ty, pos, af, none⟩ :: rest) Q f L :=
  opsS_pure1 (fun _ w s => by simp [execOp, s.eval hx, s.eval hy, eqGuard, binOp, Op.intDiv, hb]) hk
theorem S.quo {x y : Operand} {t t' : TypeId} {k : IntKind} {a b : Int} (hx : ev f x = some (.int k a)) (hy : ev f y = some (.int k b)) (hb : ¬ b = 0) (hk : opsS P n ops rest Q (upd f d (.int k (k.wrap (a.tdiv b)))) L) : opsS P n ops (⟨some d, .binOp .quo t x y t', ty, pos, af, none⟩ :: rest) Q f L :=
  opsS_pure1 (fun _ w s => by simp [execOp, s.eval hx, s.eval hy, eqGuard, binOp, Op.intDiv, hb]) hk
theorem S.xor {x y : Operand} {t t' : TypeId} {k : IntKind} {a b : Int} (hx : ev f x = some (.int k a)) (hy : ev f y = some (.int k b)) (hk : opsS P n ops rest Q (upd f d (.int k (k.wrap ((BitVec.ofInt k.bits a) ^^^ (BitVec.ofInt k.bits b)).toNat))) L) : opsS P n ops (⟨some d, .binOp .xor t x y t', ty, pos, af, none⟩ :: rest) Q f L :=
  opsS_pure1 (fun _ w s => by simp [execOp, s.eval hx, s.eval hy, eqGuard, binOp, Op.intBits]) hk
theorem S.not {x : Operand} {t : TypeId} {b : Bool} (hx : ev f x = some (.bool b)) (hk : opsS P n ops rest Q (upd f d (.bool (!b))) L) : opsS P n ops (⟨some d, .unOp .not t x, ty, pos, af, none⟩ :: rest) Q f L :=
  opsS_pure1 (fun _ w s => by simp [execOp, s.eval hx, Op.unary]) hk
/-- Booleans held against one another; pointers, slices, maps against nil. -/
theorem run_eqIn_bool {t : TypeId} (m : Nat) {a b : Bool} (h : P.underlying t = some .bool) (w : World) : (Op.equalIn (m + 1) t (.bool a) (.bool b)).run P w = .ok (a == b) w := by
  simp [Op.equalIn, run_underlying h]
theorem run_eqIn_ptr {t e : TypeId} (m : Nat) {a : Option Addr} (h : ∀ w, (underlying t).run P w = .ok (.pointer e) w) (w : World) : (Op.equalIn (m + 1) t (.pointer a) (.pointer none)).run P w = .ok a.isNone w := by
  cases a <;> simp [Op.equalIn, h]
theorem run_eqIn_sl {t e : TypeId} (m : Nat) {a : Option Addr} {x y x' y' : Nat} (h : ∀ w, (underlying t).run P w = .ok (.slice e) w) (w : World) : (Op.equalIn (m + 1) t (.slice a x y) (.slice none x' y')).run P w = .ok a.isNone w := by
  cases a <;> simp [Op.equalIn, h]
theorem run_eqIn_map {t k e : TypeId} (m : Nat) {a : Option Nat} (h : ∀ w, (underlying t).run P w = .ok (.map k e) w) (w : World) : (Op.equalIn (m + 1) t (.map a) (.map none)).run P w = .ok a.isNone w := by
  cases a <;> simp [Op.equalIn, h]
class BoolTy (P : Program) (t : TypeId) : Prop where
  und : P.underlying t = some .bool
theorem S.eqb {x y : Operand} {t t' : TypeId} [h : BoolTy P t] {a b : Bool} (hx : ev f x = some (.bool a)) (hy : ev f y = some (.bool b)) (hk : opsS P n ops rest Q (upd f d (.bool (a == b))) L) : opsS P n ops (⟨some d, .binOp .eql t x y t', ty, pos, af, none⟩ :: rest) Q f L :=
  opsS_pure1 (fun _ w s => by
    have e : (Op.equal t (.bool a) (.bool b)).run P w = .ok (a == b) w := run_eqIn_bool 9999 h.und w
    simp [execOp, s.eval hx, s.eval hy, eqGuard, binOp, e]) hk
theorem S.neb {x y : Operand} {t t' : TypeId} [h : BoolTy P t] {a b : Bool} (hx : ev f x = some (.bool a)) (hy : ev f y = some (.bool b)) (hk : opsS P n ops rest Q (upd f d (.bool (!(a == b)))) L) : opsS P n ops (⟨some d, .binOp .neq t x y t', ty, pos, af, none⟩ :: rest) Q f L :=
  opsS_pure1 (fun _ w s => by
    have e : (Op.equal t (.bool a) (.bool b)).run P w = .ok (a == b) w := run_eqIn_bool 9999 h.und w
    simp [execOp, s.eval hx, s.eval hy, eqGuard, binOp, e]) hk
theorem S.eqp {x y : Operand} {t t' e : TypeId} [h : PtrTy P t e] {a : Option Addr} (hx : ev f x = some (.pointer a)) (hy : ev f y = some (.pointer none)) (hk : opsS P n ops rest Q (upd f d (.bool a.isNone)) L) : opsS P n ops (⟨some d, .binOp .eql t x y t', ty, pos, af, none⟩ :: rest) Q f L :=
  opsS_pure1 (fun _ w s => by
    have e : (Op.equal t (.pointer a) (.pointer none)).run P w = .ok (a.isNone) w := run_eqIn_ptr 9999 h.und w
    simp [execOp, s.eval hx, s.eval hy, eqGuard, binOp, e]) hk
theorem S.nep {x y : Operand} {t t' e : TypeId} [h : PtrTy P t e] {a : Option Addr} (hx : ev f x = some (.pointer a)) (hy : ev f y = some (.pointer none)) (hk : opsS P n ops rest Q (upd f d (.bool (!a.isNone))) L) : opsS P n ops (⟨some d, .binOp .neq t x y t', ty, pos, af, none⟩ :: rest) Q f L :=
  opsS_pure1 (fun _ w s => by
    have e : (Op.equal t (.pointer a) (.pointer none)).run P w = .ok (a.isNone) w := run_eqIn_ptr 9999 h.und w
    simp [execOp, s.eval hx, s.eval hy, eqGuard, binOp, e]) hk
theorem S.eqs {x y : Operand} {t t' e : TypeId} [h : SlTy P t e] {a : Option Addr} {m c m' c' : Nat} (hx : ev f x = some (.slice a m c)) (hy : ev f y = some (.slice none m' c')) (hk : opsS P n ops rest Q (upd f d (.bool a.isNone)) L) : opsS P n ops (⟨some d, .binOp .eql t x y t', ty, pos, af, none⟩ :: rest) Q f L :=
  opsS_pure1 (fun _ w s => by
    have e : (Op.equal t (.slice a m c) (.slice none m' c')).run P w = .ok (a.isNone) w := run_eqIn_sl 9999 h.und w
    simp [execOp, s.eval hx, s.eval hy, eqGuard, binOp, e]) hk
theorem S.nes {x y : Operand} {t t' e : TypeId} [h : SlTy P t e] {a : Option Addr} {m c m' c' : Nat} (hx : ev f x = some (.slice a m c)) (hy : ev f y = some (.slice none m' c')) (hk : opsS P n ops rest Q (upd f d (.bool (!a.isNone))) L) : opsS P n ops (⟨some d, .binOp .neq t x y t', ty, pos, af, none⟩ :: rest) Q f L :=
  opsS_pure1 (fun _ w s => by
    have e : (Op.equal t (.slice a m c) (.slice none m' c')).run P w = .ok (a.isNone) w := run_eqIn_sl 9999 h.und w
    simp [execOp, s.eval hx, s.eval hy, eqGuard, binOp, e]) hk
def str (l : List UInt8) : Value := .string ⟨l.toArray⟩
theorem S.eqst {x y : Operand} {t t' : TypeId} {a b : List UInt8} (hx : ev f x = some (str a)) (hy : ev f y = some (str b)) (hk : opsS P n ops rest Q (upd f d (.bool (decide (a = b)))) L) : opsS P n ops (⟨some d, .binOp .eql t x y t', ty, pos, af, none⟩ :: rest) Q f L :=
  opsS_pure1 (v := .bool (decide (a = b))) (fun _ w s => by
    have h1 := s.eval hx
    have h2 := s.eval hy
    unfold str at h1 h2
    have e : (a == b) = decide (a = b) := by by_cases h : a = b <;> simp [h]
    simp [execOp, h1, h2, eqGuard, binOp, Op.stringOp, e]) hk
theorem S.nest {x y : Operand} {t t' : TypeId} {a b : List UInt8} (hx : ev f x = some (str a)) (hy : ev f y = some (str b)) (hk : opsS P n ops rest Q (upd f d (.bool (!decide (a = b)))) L) : opsS P n ops (⟨some d, .binOp .neq t x y t', ty, pos, af, none⟩ :: rest) Q f L :=
  opsS_pure1 (v := .bool (!decide (a = b))) (fun _ w s => by
    have h1 := s.eval hx
    have h2 := s.eval hy
    unfold str at h1 h2
    have e : (a == b) = decide (a = b) := by by_cases h : a = b <;> simp [h]
    simp [execOp, h1, h2, eqGuard, binOp, Op.stringOp, e]) hk
/-! Conversions of integers. -/
theorem S.cvi {x : Operand} {t t' : TypeId} {k k' : IntKind} {a : Int} [h0 : HasUnd P t] [h : IntTy P t' k'] (hx : ev f x = some (.int k a)) (hk : opsS P n ops rest Q (upd f d (.int k' (k'.wrap a))) L) : opsS P n ops (⟨some d, .convert t t' x, ty, pos, af, none⟩ :: rest) Q f L := by
  obtain ⟨d0, hd⟩ := h0.und
  exact opsS_pure1 (fun _ w s => by simp [execOp, s.eval hx, convert, hd, h.und, Conv.intToInt]) hk

/-! Places. -/
theorem S.fa {x : Operand} {t i : Nat} {b o off sz : Nat} {ag : Bool} {fs : List (Nat × Nat × Bool)} [h : StTy P t fs] (hx : ev f x = some (.pointer (some ⟨b, o, none⟩))) (hf : fs[i]? = some (off, sz, ag)) (hz : sz ≠ 0)
    (hk : opsS P n ops rest Q (upd f d (.pointer (some ⟨b, o + off, none⟩))) L) : opsS P n ops (⟨some d, .fieldAddr t x i, ty, pos, af, none⟩ :: rest) Q f L := by
  obtain ⟨fields, hu, _, hfs⟩ := h.und
  obtain ⟨fld, h1, h2, h3, _⟩ := hfs i off sz ag hf
  refine opsS_pure1 (v := .pointer (some ⟨b, o + off, none⟩)) (fun _ w s => ?_) hk
  have : (⟨b, o, none⟩ : Addr).add off = ⟨b, o + off, none⟩ := by unfold Addr.add; split <;> simp_all
  simp [execOp, s.eval hx, Instr.fieldAt, hu, h1, Instr.sureAddr, fieldPlace, h3, hz, h2, this]
theorem S.ia {x y : Operand} {t e : TypeId} {b o m c sz bts : Nat} {ag : Bool} {zs : List Value} {k : IntKind} {i : Int} [h : SlTy P t e] [h2 : Ty P e ag sz zs bts] (hx : ev f x = some (.slice (some ⟨b, o, none⟩) m c)) (hy : ev f y = some (.int k i))
    (h0 : 0 ≤ i) (h1 : i < m) (hk : opsS P n ops rest Q (upd f d (.pointer (some ⟨b, o + i.toNat * sz, none⟩))) L) : opsS P n ops (⟨some d, .indexAddr t x y, ty, pos, af, none⟩ :: rest) Q f L := by
  refine opsS_pure1 (v := .pointer (some ⟨b, o + i.toNat * sz, none⟩)) (fun _ w s => ?_) hk
  have : (⟨b, o, none⟩ : Addr).add (i.toNat * sz) = ⟨b, o + i.toNat * sz, none⟩ := by unfold Addr.add; split <;> simp_all
  simp [execOp, s.eval hx, s.eval hy, Instr.indexAt, asIntOf, h.und, h2.size, h0, h1, this]
theorem S.iaa {x y : Operand} {t e : TypeId} {b o len sz bts : Nat} {ag : Bool} {zs : List Value} {k : IntKind} {i : Int} [h : ArrTy P t len e] [h2 : Ty P e ag sz zs bts] (hx : ev f x = some (.pointer (some ⟨b, o, none⟩))) (hy : ev f y = some (.int k i))
    (h0 : 0 ≤ i) (h1 : i < len) (hk : opsS P n ops rest Q (upd f d (.pointer (some ⟨b, o + i.toNat * sz, none⟩))) L) : opsS P n ops (⟨some d, .indexAddr t x y, ty, pos, af, none⟩ :: rest) Q f L := by
  refine opsS_pure1 (v := .pointer (some ⟨b, o + i.toNat * sz, none⟩)) (fun _ w s => ?_) hk
  have : (⟨b, o, none⟩ : Addr).add (i.toNat * sz) = ⟨b, o + i.toNat * sz, none⟩ := by unfold Addr.add; split <;> simp_all
  simp [execOp, s.eval hx, s.eval hy, Instr.indexAt, asIntOf, h.und, h2.size, h0, h1, this, Instr.sureAddr]
/-- A cut of a slice: lo, hi. -/
theorem S.sl {x : Operand} {t e : TypeId} {a : Option Addr} {m c sz bts : Nat} {ag : Bool} {zs : List Value} {lo hi : Option Operand} {l h : Int} {kl kh : IntKind} [hs : SlTy P t e] [h2 : Ty P e ag sz zs bts] (hx : ev f x = some (.slice a m c))
    (hl : (match lo with | some y => ev f y | none => some (.int kl 0)) = some (.int kl l)) (hh : (match hi with | some y => ev f y | none => some (.int kh m)) = some (.int kh h))
    (h0 : 0 ≤ l) (h1 : l ≤ h) (h3 : h ≤ c)
    (hk : opsS P n ops rest Q (upd f d (.slice (if c = l.toNat then a else a.map (·.add (l.toNat * sz))) (h.toNat - l.toNat) (c - l.toNat))) L) : opsS P n ops (⟨some d, .slice t x lo hi none, ty, pos, af, none⟩ :: rest) Q f L := by
  refine opsS_pure1 (v := .slice (if c = l.toNat then a else a.map (·.add (l.toNat * sz))) (h.toNat - l.toNat) (c - l.toNat)) (fun _ w s => ?_) hk
  have hh0 : 0 ≤ h := by omega
  have e1 : l ≤ (h.toNat : Int) := by omega
  cases lo with
  | none =>
    simp only [Option.some.injEq, Value.int.injEq, true_and] at hl
    subst hl
    cases hi with
    | none =>
      simp only [Option.some.injEq, Value.int.injEq, true_and] at hh
      subst hh
      simp [execOp, s.eval hx, Instr.sliceAt, hs.und, Instr.slice, Instr.sliceBounds, h2.size]
    | some y => simp [execOp, s.eval hx, s.eval hh, Instr.sliceAt, hs.und, Instr.slice, Instr.sliceBounds, h2.size, Instr.sliceBound, asIntOf, hh0, h3]
  | some z =>
    cases hi with
    | none =>
      simp only [Option.some.injEq, Value.int.injEq, true_and] at hh
      subst hh
      have h1' : l ≤ (m : Int) := h1
      simp [execOp, s.eval hx, s.eval hl, Instr.sliceAt, hs.und, Instr.slice, Instr.sliceBounds, h2.size, Instr.sliceBound, asIntOf, h0, h1']
    | some y =>
      have e2 : l ≤ max h 0 := by omega
      simp [execOp, s.eval hx, s.eval hh, s.eval hl, Instr.sliceAt, hs.und, Instr.slice, Instr.sliceBounds, h2.size, Instr.sliceBound, asIntOf, hh0, h3, h0, e1, e2]

/-! Loads. -/
theorem run_loadVar1 {t : TypeId} {sz bts : Nat} {zs : List Value} [h : Ty P t false sz zs bts] {b o : Nat} {v : Value} {w : World} (hc : w.cell? ⟨b, o, none⟩ = some v) : (Instr.loadAt t (.pointer (some ⟨b, o, none⟩))).run P w = .ok v w := by
  simp [Instr.loadAt, Instr.sureAddr, loadVar, h.agg, hc]
theorem run_loadVarN {t : TypeId} {sz bts : Nat} {zs : List Value} [h : Ty P t true sz zs bts] {b o : Nat} {cs : List Value} {w : World} (hn : cs.length = sz) (hc : ∀ j v, cs[j]? = some v → w.cell? ⟨b, o + j, none⟩ = some v) : (Instr.loadAt t (.pointer (some ⟨b, o, none⟩))).run P w = .ok (.agg cs.toArray) w := by
  have := run_loadCells_list (P := P) w ⟨b, o, none⟩ cs (fun j v e => by
    have := hc j v e
    have e2 : (⟨b, o, none⟩ : Addr).add j = ⟨b, o + j, none⟩ := by unfold Addr.add; split <;> simp_all
    rw [e2]; exact this)
  simp [Instr.loadAt, Instr.sureAddr, loadVar, h.agg, h.size, ← hn, this]
/-- One cell, out of what can be read. -/
theorem S.ldR {x : Operand} {t : TypeId} {sz bts : Nat} {zs : List Value} {b o : Nat} {v : Value} [h : Ty P t false sz zs bts] (hx : ev f x = some (.pointer (some ⟨b, o, none⟩))) (hr : RdC L b o [v])
    (hk : opsS P n ops rest Q (upd f d v) L) : opsS P n ops (⟨some d, .load t x, ty, pos, af, none⟩ :: rest) Q f L :=
  opsS_value (R := fun u L' => u = v ∧ L' = L) (fun F a w s t => ⟨v, w, L, by
    have := run_loadVar1 (h := h) (hr w F t 0 v rfl)
    rw [Nat.add_zero] at this
    simp [execOp, s.eval hx, this], t, rfl, rfl⟩) (by rintro _ _ ⟨rfl, rfl⟩; exact hk)
theorem S.ldRN {x : Operand} {t : TypeId} {sz bts : Nat} {zs : List Value} {b o : Nat} {cs : List Value} [h : Ty P t true sz zs bts] (hx : ev f x = some (.pointer (some ⟨b, o, none⟩))) (hr : RdC L b o cs) (hn : cs.length = sz)
    (hk : opsS P n ops rest Q (upd f d (.agg cs.toArray)) L) : opsS P n ops (⟨some d, .load t x, ty, pos, af, none⟩ :: rest) Q f L :=
  opsS_value (R := fun u L' => u = .agg cs.toArray ∧ L' = L) (fun F a w s t => ⟨_, w, L, by
    have := run_loadVarN (h := h) hn (hr w F t)
    simp [execOp, s.eval hx, this], t, rfl, rfl⟩) (by rintro _ _ ⟨rfl, rfl⟩; exact hk)
theorem S.ld {x : Operand} {t t0 : TypeId} {sz bts : Nat} {zs : List Value} {b o : Nat} {v : Value} {l : List Value} [h : Ty P t false sz zs bts] [hb : FindB b L (cl l t0)] (hx : ev f x = some (.pointer (some ⟨b, o, none⟩))) (hv : l[o]? = some v)
    (hk : opsS P n ops rest Q (upd f d v) L) : opsS P n ops (⟨some d, .load t x, ty, pos, af, none⟩ :: rest) Q f L :=
  S.ldR hx (RdC.find (h := hb) fun j u e => by cases j <;> simp_all) hk
theorem S.ldN {x : Operand} {t t0 : TypeId} {sz bts : Nat} {zs : List Value} {b o : Nat} {cs : List Value} {l : List Value} [h : Ty P t true sz zs bts] [hb : FindB b L (cl l t0)] (hx : ev f x = some (.pointer (some ⟨b, o, none⟩))) (hv : (l.drop o).take sz = cs) (hn : cs.length = sz)
    (hk : opsS P n ops rest Q (upd f d (.agg cs.toArray)) L) : opsS P n ops (⟨some d, .load t x, ty, pos, af, none⟩ :: rest) Q f L :=
  S.ldRN hx (RdC.find (h := hb) fun j u e => by
    rw [← hv] at e
    by_cases hj : j < sz
    · rw [List.getElem?_take_of_lt hj, List.getElem?_drop] at e; exact e
    · rw [List.getElem?_take_eq_none (by omega)] at e; simp at e) hn hk
end
end Go.SX
