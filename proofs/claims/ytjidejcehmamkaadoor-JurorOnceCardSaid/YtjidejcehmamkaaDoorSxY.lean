/- What operations yield that touch no memory, or read it alone. No condition. -/
import Derived.Test.YtjidejcehmamkaaDoorSxH
set_option linter.unusedVariables false
set_option linter.unusedSimpArgs false
namespace Go.SX
open Go
theorem wpList_mono {P : Program} {ops : Array Oper} {Q Q' : Exit → Act → World → Prop} : ∀ {l : List Oper} {a : Act} {w : World}, wpList P ops Q l a w → (∀ e a w, Q e a w → Q' e a w) → wpList P ops Q' l a w
  | [], a, w, h, hq => hq _ _ _ h
  | o :: l, a, w, h, hq => by
    unfold wpList at h ⊢
    split at h
    · rename_i hw
      rw [if_pos hw]
      rcases h with h | ⟨h1, a', w', h2⟩
      · refine .inl ?_
        unfold Oper.wp at h ⊢
        generalize (execOp a.eval o).run P w = r at *
        cases r with
        | ok m w' =>
          cases m <;> simp only [Oper.upon] at h ⊢ <;> first
            | exact wpList_mono h hq
            | exact h
            | (refine Calls.mono h fun e w'' he => ?_
               cases e with
               | returned u => exact wpList_mono he hq
               | panicked c => exact hq _ _ _ he
               | outgrown => obtain ⟨a', w', q⟩ := he; exact ⟨a', w', hq _ _ _ q⟩)
            | exact Rows.mono h fun _ _ he => wpList_mono he hq
        | halt x w' => cases x <;> simp only [Oper.upon] at h ⊢ <;> first | exact h | exact hq _ _ _ h
      · exact .inr ⟨h1, a', w', hq _ _ _ h2⟩
    · rename_i hw
      rw [if_neg hw]
      exact wpList_mono h hq
section
variable {P : Program} {n : Nat} {ops rest : List Oper} {Q : Post} {f : Env} {A L : List HP}
variable {d : Tmp} {ty : TypeId} {pos : String} {af : Array Edge}
theorem Y.of {dd : Option Tmp} {op : Op} {v : Value} (h : ∀ a w, Sim n a f → (execOp a.eval ⟨dd, op, ty, pos, af, none⟩).run P w = .ok (.value v) w) : YieldS P n ops ⟨dd, op, ty, pos, af, none⟩ f A v :=
  fun a s => .inl ⟨rfl, fun w _ _ => h a w s⟩
theorem Y.of' {dd : Option Tmp} {op : Op} {v : Value} (h : ∀ a w F, Sim n a f → St w (A ++ F) → (execOp a.eval ⟨dd, op, ty, pos, af, none⟩).run P w = .ok (.value v) w) : YieldS P n ops ⟨dd, op, ty, pos, af, none⟩ f A v :=
  fun a s => .inl ⟨rfl, fun w F t => h a w F s t⟩
theorem Y.guard {dd : Option Tmp} {op : Op} {v : Value} {g : Nat × Bool} (hg : wantS ops f g = some true) (h : YieldS P n ops ⟨dd, op, ty, pos, af, none⟩ f A v) : YieldS P n ops ⟨dd, op, ty, pos, af, some g⟩ f A v := fun a s => by
  have hw := wanted_of s hg ⟨dd, op, ty, pos, af, some g⟩ rfl
  rcases h a s with ⟨_, h2⟩ | ⟨h1, _⟩
  · exact .inl ⟨hw, h2⟩
  · exact absurd h1 (by simp [Region.wanted])
theorem Y.gskip {dd : Option Tmp} {op : Op} {g : Nat × Bool} (hg : wantS ops f g = some false) : YieldS P n ops ⟨dd, op, ty, pos, af, some g⟩ f A undef := fun a s =>
  .inr ⟨wanted_of s hg ⟨dd, op, ty, pos, af, some g⟩ rfl, rfl⟩
theorem S.y {op : Op} {g : Option (Nat × Bool)} {v : Value} (hy : YieldS P n ops ⟨some d, op, ty, pos, af, g⟩ f L v) (hk : opsS P n ops rest Q (upd f d v) L) : opsS P n ops (⟨some d, op, ty, pos, af, g⟩ :: rest) Q f L := by
  intro ok F a w s t
  simp only [okOps, List.all_cons, Bool.and_eq_true] at ok
  unfold wpList
  rcases hy a s with ⟨h1, h2⟩ | ⟨h1, rfl⟩
  · rw [if_pos h1]
    refine .inl ?_
    simp only [Oper.wp, h2 w F t, Oper.upon]
    exact hk ok.2 F _ _ (s.put ok.1 v) t
  · rw [if_neg (by rw [h1]; simp)]
    exact hk ok.2 F _ _ (s.put ok.1 undef) t
theorem Y.mv {x : Operand} {v : Value} (hx : ev f x = some v) : YieldS P n ops ⟨some d, .move x, ty, pos, af, none⟩ f A (v) :=  Y.of (fun a w s => by simp [execOp, s.eval hx])

theorem Y.as {x : Operand} {v : Value} (hx : ev f x = some v) : YieldS P n ops ⟨some d, .assign x, ty, pos, af, none⟩ f A (v) :=  Y.of (fun a w s => by simp [execOp, s.eval hx])

theorem Y.pk_t {c x y : Operand} {v : Value} (hc : ev f c = some (.bool true)) (hx : ev f x = some v) : YieldS P n ops ⟨some d, .pick c x y, ty, pos, af, none⟩ f A (v) :=  Y.of (fun a w s => by simp [execOp, s.eval hx, s.eval hc, asBool])

theorem Y.pk_f {c x y : Operand} {v : Value} (hc : ev f c = some (.bool false)) (hy : ev f y = some v) : YieldS P n ops ⟨some d, .pick c x y, ty, pos, af, none⟩ f A (v) :=  Y.of (fun a w s => by simp [execOp, s.eval hy, s.eval hc, asBool])

theorem Y.pk {c x y : Operand} {b b1 b2 : Bool} (hc : ev f c = some (.bool b)) (hx : ev f x = some (.bool b1)) (hy : ev f y = some (.bool b2)) : YieldS P n ops ⟨some d, .pick c x y, ty, pos, af, none⟩ f A ((.bool (bif b then b1 else b2))) :=  Y.of (fun a w s => by cases b <;> simp [execOp, s.eval hx, s.eval hy, s.eval hc, asBool])

theorem Y.ext {x : Operand} {i : Nat} {vs : Array Value} {v : Value} (hx : ev f x = some (.tuple vs)) (hv : vs.toList[i]? = some v) : YieldS P n ops ⟨some d, .extract x i, ty, pos, af, none⟩ f A (v) :=  Y.of (fun a w s => by
    have hv' : vs[i]? = some v := by simpa using hv
    simp [execOp, s.eval hx, Instr.extract, hv'])

theorem Y.nc {x : Operand} {ad : Addr} (hx : ev f x = some (.pointer (some ad))) : YieldS P n ops ⟨some d, .nilCheck x, ty, pos, af, none⟩ f A ((.pointer (some ad))) :=  Y.of (fun a w s => by simp [execOp, s.eval hx])

theorem Y.ncf {x : Operand} {fn : FuncId} {c1 c2 : Array Value} (hx : ev f x = some (.func (.func fn) c1 c2)) : YieldS P n ops ⟨some d, .nilCheck x, ty, pos, af, none⟩ f A ((.func (.func fn) c1 c2)) :=  Y.of (fun a w s => by simp [execOp, s.eval hx])

theorem Y.lss {x y : Operand} {t t' : TypeId} {k : IntKind} {a b : Int} (hx : ev f x = some (.int k a)) (hy : ev f y = some (.int k b)) : YieldS P n ops ⟨some d, .binOp .lss t x y t', ty, pos, af, none⟩ f A ((.bool (decide (a < b)))) :=  Y.of (fun _ w s => by simp [execOp, s.eval hx, s.eval hy, eqGuard, binOp, Op.intCmp])

theorem Y.leq {x y : Operand} {t t' : TypeId} {k : IntKind} {a b : Int} (hx : ev f x = some (.int k a)) (hy : ev f y = some (.int k b)) : YieldS P n ops ⟨some d, .binOp .leq t x y t', ty, pos, af, none⟩ f A ((.bool (decide (a ≤ b)))) :=  Y.of (fun _ w s => by simp [execOp, s.eval hx, s.eval hy, eqGuard, binOp, Op.intCmp])

theorem Y.gtr {x y : Operand} {t t' : TypeId} {k : IntKind} {a b : Int} (hx : ev f x = some (.int k a)) (hy : ev f y = some (.int k b)) : YieldS P n ops ⟨some d, .binOp .gtr t x y t', ty, pos, af, none⟩ f A ((.bool (decide (b < a)))) :=  Y.of (fun _ w s => by simp [execOp, s.eval hx, s.eval hy, eqGuard, binOp, Op.intCmp])

theorem Y.geq {x y : Operand} {t t' : TypeId} {k : IntKind} {a b : Int} (hx : ev f x = some (.int k a)) (hy : ev f y = some (.int k b)) : YieldS P n ops ⟨some d, .binOp .geq t x y t', ty, pos, af, none⟩ f A ((.bool (decide (b ≤ a)))) :=  Y.of (fun _ w s => by simp [execOp, s.eval hx, s.eval hy, eqGuard, binOp, Op.intCmp])

theorem Y.eqi {x y : Operand} {t t' : TypeId} {k : IntKind} {a b : Int} (hx : ev f x = some (.int k a)) (hy : ev f y = some (.int k b)) : YieldS P n ops ⟨some d, .binOp .eql t x y t', ty, pos, af, none⟩ f A ((.bool (decide (a = b)))) :=  Y.of (fun _ w s => by simp [execOp, s.eval hx, s.eval hy, eqGuard, binOp, Op.intCmp]; rfl)

theorem Y.nei {x y : Operand} {t t' : TypeId} {k : IntKind} {a b : Int} (hx : ev f x = some (.int k a)) (hy : ev f y = some (.int k b)) : YieldS P n ops ⟨some d, .binOp .neq t x y t', ty, pos, af, none⟩ f A ((.bool (!decide (a = b)))) :=  Y.of (fun _ w s => by simp [execOp, s.eval hx, s.eval hy, eqGuard, binOp, Op.intCmp]; rfl)

theorem Y.add {x y : Operand} {t t' : TypeId} {k : IntKind} {a b : Int} (hx : ev f x = some (.int k a)) (hy : ev f y = some (.int k b)) : YieldS P n ops ⟨some d, .binOp .add t x y t', ty, pos, af, none⟩ f A ((.int k (k.wrap (a + b)))) :=  Y.of (fun _ w s => by simp [execOp, s.eval hx, s.eval hy, eqGuard, binOp, Op.intArith])

theorem Y.sub {x y : Operand} {t t' : TypeId} {k : IntKind} {a b : Int} (hx : ev f x = some (.int k a)) (hy : ev f y = some (.int k b)) : YieldS P n ops ⟨some d, .binOp .sub t x y t', ty, pos, af, none⟩ f A ((.int k (k.wrap (a - b)))) :=  Y.of (fun _ w s => by simp [execOp, s.eval hx, s.eval hy, eqGuard, binOp, Op.intArith])

theorem Y.mul {x y : Operand} {t t' : TypeId} {k : IntKind} {a b : Int} (hx : ev f x = some (.int k a)) (hy : ev f y = some (.int k b)) : YieldS P n ops ⟨some d, .binOp .mul t x y t', ty, pos, af, none⟩ f A ((.int k (k.wrap (a * b)))) :=  Y.of (fun _ w s => by simp [execOp, s.eval hx, s.eval hy, eqGuard, binOp, Op.intArith])

theorem Y.addi {x y : Operand} {t t' : TypeId} {a b c : Int} (hx : ev f x = some (.int .i64 a)) (hy : ev f y = some (.int .i64 b)) (hc : a + b = c) (h1 : -9223372036854775808 ≤ c) (h2 : c ≤ 9223372036854775807) : YieldS P n ops ⟨some d, .binOp .add t x y t', ty, pos, af, none⟩ f A ((.int .i64 c)) := by
  have := Y.add (P := P) (n := n) (ops := ops) (A := A) (d := d) (ty := ty) (pos := pos) (af := af) (t := t) (t' := t') hx hy
  rwa [hc, wrap_i64 h1 h2] at this

theorem Y.subi {x y : Operand} {t t' : TypeId} {a b c : Int} (hx : ev f x = some (.int .i64 a)) (hy : ev f y = some (.int .i64 b)) (hc : a - b = c) (h1 : -9223372036854775808 ≤ c) (h2 : c ≤ 9223372036854775807) : YieldS P n ops ⟨some d, .binOp .sub t x y t', ty, pos, af, none⟩ f A ((.int .i64 c)) := by
  have := Y.sub (P := P) (n := n) (ops := ops) (A := A) (d := d) (ty := ty) (pos := pos) (af := af) (t := t) (t' := t') hx hy
  rwa [hc, wrap_i64 h1 h2] at this

theorem Y.rem {x y : Operand} {t t' : TypeId} {k : IntKind} {a b : Int} (hx : ev f x = some (.int k a)) (hy : ev f y = some (.int k b)) (hb : ¬ b = 0) : YieldS P n ops ⟨some d, .binOp .rem t x y t', ty, pos, af, none⟩ f A ((.int k (a.tmod b))) :=  Y.of (fun _ w s => by simp [execOp, s.eval hx, s.eval hy, eqGuard, binOp, Op.intDiv, hb])

theorem Y.quo {x y : Operand} {t t' : TypeId} {k : IntKind} {a b : Int} (hx : ev f x = some (.int k a)) (hy : ev f y = some (.int k b)) (hb : ¬ b = 0) : YieldS P n ops ⟨some d, .binOp .quo t x y t', ty, pos, af, none⟩ f A ((.int k (k.wrap (a.tdiv b)))) :=  Y.of (fun _ w s => by simp [execOp, s.eval hx, s.eval hy, eqGuard, binOp, Op.intDiv, hb])

theorem Y.xor {x y : Operand} {t t' : TypeId} {k : IntKind} {a b : Int} (hx : ev f x = some (.int k a)) (hy : ev f y = some (.int k b)) : YieldS P n ops ⟨some d, .binOp .xor t x y t', ty, pos, af, none⟩ f A ((.int k (k.wrap ((BitVec.ofInt k.bits a) ^^^ (BitVec.ofInt k.bits b)).toNat))) :=  Y.of (fun _ w s => by simp [execOp, s.eval hx, s.eval hy, eqGuard, binOp, Op.intBits])

theorem Y.not {x : Operand} {t : TypeId} {b : Bool} (hx : ev f x = some (.bool b)) : YieldS P n ops ⟨some d, .unOp .not t x, ty, pos, af, none⟩ f A ((.bool (!b))) :=  Y.of (fun _ w s => by simp [execOp, s.eval hx, Op.unary])

theorem Y.eqb {x y : Operand} {t t' : TypeId} [h : BoolTy P t] {a b : Bool} (hx : ev f x = some (.bool a)) (hy : ev f y = some (.bool b)) : YieldS P n ops ⟨some d, .binOp .eql t x y t', ty, pos, af, none⟩ f A ((.bool (a == b))) :=  Y.of (fun _ w s => by
    have e : (Op.equal t (.bool a) (.bool b)).run P w = .ok (a == b) w := run_eqIn_bool 9999 h.und w
    simp [execOp, s.eval hx, s.eval hy, eqGuard, binOp, e])

theorem Y.neb {x y : Operand} {t t' : TypeId} [h : BoolTy P t] {a b : Bool} (hx : ev f x = some (.bool a)) (hy : ev f y = some (.bool b)) : YieldS P n ops ⟨some d, .binOp .neq t x y t', ty, pos, af, none⟩ f A ((.bool (!(a == b)))) :=  Y.of (fun _ w s => by
    have e : (Op.equal t (.bool a) (.bool b)).run P w = .ok (a == b) w := run_eqIn_bool 9999 h.und w
    simp [execOp, s.eval hx, s.eval hy, eqGuard, binOp, e])

theorem Y.eqp {x y : Operand} {t t' e : TypeId} [h : PtrTy P t e] {a : Option Addr} (hx : ev f x = some (.pointer a)) (hy : ev f y = some (.pointer none)) : YieldS P n ops ⟨some d, .binOp .eql t x y t', ty, pos, af, none⟩ f A ((.bool a.isNone)) :=  Y.of (fun _ w s => by
    have e : (Op.equal t (.pointer a) (.pointer none)).run P w = .ok (a.isNone) w := run_eqIn_ptr 9999 h.und w
    simp [execOp, s.eval hx, s.eval hy, eqGuard, binOp, e])

theorem Y.nep {x y : Operand} {t t' e : TypeId} [h : PtrTy P t e] {a : Option Addr} (hx : ev f x = some (.pointer a)) (hy : ev f y = some (.pointer none)) : YieldS P n ops ⟨some d, .binOp .neq t x y t', ty, pos, af, none⟩ f A ((.bool (!a.isNone))) :=  Y.of (fun _ w s => by
    have e : (Op.equal t (.pointer a) (.pointer none)).run P w = .ok (a.isNone) w := run_eqIn_ptr 9999 h.und w
    simp [execOp, s.eval hx, s.eval hy, eqGuard, binOp, e])

theorem Y.eqs {x y : Operand} {t t' e : TypeId} [h : SlTy P t e] {a : Option Addr} {m c m' c' : Nat} (hx : ev f x = some (.slice a m c)) (hy : ev f y = some (.slice none m' c')) : YieldS P n ops ⟨some d, .binOp .eql t x y t', ty, pos, af, none⟩ f A ((.bool a.isNone)) :=  Y.of (fun _ w s => by
    have e : (Op.equal t (.slice a m c) (.slice none m' c')).run P w = .ok (a.isNone) w := run_eqIn_sl 9999 h.und w
    simp [execOp, s.eval hx, s.eval hy, eqGuard, binOp, e])

theorem Y.nes {x y : Operand} {t t' e : TypeId} [h : SlTy P t e] {a : Option Addr} {m c m' c' : Nat} (hx : ev f x = some (.slice a m c)) (hy : ev f y = some (.slice none m' c')) : YieldS P n ops ⟨some d, .binOp .neq t x y t', ty, pos, af, none⟩ f A ((.bool (!a.isNone))) :=  Y.of (fun _ w s => by
    have e : (Op.equal t (.slice a m c) (.slice none m' c')).run P w = .ok (a.isNone) w := run_eqIn_sl 9999 h.und w
    simp [execOp, s.eval hx, s.eval hy, eqGuard, binOp, e])

theorem Y.eqst {x y : Operand} {t t' : TypeId} {a b : List UInt8} (hx : ev f x = some (str a)) (hy : ev f y = some (str b)) : YieldS P n ops ⟨some d, .binOp .eql t x y t', ty, pos, af, none⟩ f A ((.bool (decide (a = b)))) :=  Y.of (fun _ w s => by
    have h1 := s.eval hx
    have h2 := s.eval hy
    unfold str at h1 h2
    have e : (a == b) = decide (a = b) := by by_cases h : a = b <;> simp [h]
    simp [execOp, h1, h2, eqGuard, binOp, Op.stringOp, e])

theorem Y.nest {x y : Operand} {t t' : TypeId} {a b : List UInt8} (hx : ev f x = some (str a)) (hy : ev f y = some (str b)) : YieldS P n ops ⟨some d, .binOp .neq t x y t', ty, pos, af, none⟩ f A ((.bool (!decide (a = b)))) :=  Y.of (fun _ w s => by
    have h1 := s.eval hx
    have h2 := s.eval hy
    unfold str at h1 h2
    have e : (a == b) = decide (a = b) := by by_cases h : a = b <;> simp [h]
    simp [execOp, h1, h2, eqGuard, binOp, Op.stringOp, e])

theorem Y.cvi {x : Operand} {t t' : TypeId} {k k' : IntKind} {a : Int} [h0 : HasUnd P t] [h : IntTy P t' k'] (hx : ev f x = some (.int k a)) : YieldS P n ops ⟨some d, .convert t t' x, ty, pos, af, none⟩ f A ((.int k' (k'.wrap a))) := by
  obtain ⟨d0, hd⟩ := h0.und
  exact Y.of (fun _ w s => by simp [execOp, s.eval hx, convert, hd, h.und, Conv.intToInt])

theorem Y.fa {x : Operand} {t i : Nat} {b o off sz : Nat} {ag : Bool} {fs : List (Nat × Nat × Bool)} [h : StTy P t fs] (hx : ev f x = some (.pointer (some ⟨b, o, none⟩))) (hf : fs[i]? = some (off, sz, ag)) (hz : sz ≠ 0) : YieldS P n ops ⟨some d, .fieldAddr t x i, ty, pos, af, none⟩ f A ((.pointer (some ⟨b, o + off, none⟩))) := by
  obtain ⟨fields, hu, _, hfs⟩ := h.und
  obtain ⟨fld, h1, h2, h3, _⟩ := hfs i off sz ag hf
  refine Y.of (fun _ w s => ?_)
  have : (⟨b, o, none⟩ : Addr).add off = ⟨b, o + off, none⟩ := by unfold Addr.add; split <;> simp_all
  simp [execOp, s.eval hx, Instr.fieldAt, hu, h1, Instr.sureAddr, fieldPlace, h3, hz, h2, this]

theorem Y.ia {x y : Operand} {t e : TypeId} {b o m c sz bts k : Nat} {ag : Bool} {zs : List Value} {kk : IntKind} {i : Int} [h : SlTy P t e] [h2 : Ty P e ag sz zs bts] (hx : ev f x = some (.slice (some ⟨b, o, none⟩) m c)) (hy : ev f y = some (.int kk i))
    (hi : i = (k : Int)) (h1 : k < m) : YieldS P n ops ⟨some d, .indexAddr t x y, ty, pos, af, none⟩ f A (.pointer (some ⟨b, o + k * sz, none⟩)) := by
  refine Y.of (fun _ w s => ?_)
  subst hi
  have : (⟨b, o, none⟩ : Addr).add (k * sz) = ⟨b, o + k * sz, none⟩ := by unfold Addr.add; split <;> simp_all
  have h1' : (k : Int) < (m : Int) := by omega
  simp [execOp, s.eval hx, s.eval hy, Instr.indexAt, asIntOf, h.und, h2.size, h1, this]

theorem Y.iaa {x y : Operand} {t e : TypeId} {b o len sz bts k : Nat} {ag : Bool} {zs : List Value} {kk : IntKind} {i : Int} [h : ArrTy P t len e] [h2 : Ty P e ag sz zs bts] (hx : ev f x = some (.pointer (some ⟨b, o, none⟩))) (hy : ev f y = some (.int kk i))
    (hi : i = (k : Int)) (h1 : k < len) : YieldS P n ops ⟨some d, .indexAddr t x y, ty, pos, af, none⟩ f A (.pointer (some ⟨b, o + k * sz, none⟩)) := by
  refine Y.of (fun _ w s => ?_)
  subst hi
  have : (⟨b, o, none⟩ : Addr).add (k * sz) = ⟨b, o + k * sz, none⟩ := by unfold Addr.add; split <;> simp_all
  simp [execOp, s.eval hx, s.eval hy, Instr.indexAt, asIntOf, h.und, h2.size, h1, this, Instr.sureAddr]
theorem Y.sl {x : Operand} {t e : TypeId} {a : Option Addr} {m c sz bts : Nat} {ag : Bool} {zs : List Value} {lo hi : Option Operand} {l h : Int} {kl kh : IntKind} [hs : SlTy P t e] [h2 : Ty P e ag sz zs bts] (hx : ev f x = some (.slice a m c))
    (hl : (match lo with | some y => ev f y | none => some (.int kl 0)) = some (.int kl l)) (hh : (match hi with | some y => ev f y | none => some (.int kh m)) = some (.int kh h))
    (h0 : 0 ≤ l) (h1 : l ≤ h) (h3 : h ≤ c) : YieldS P n ops ⟨some d, .slice t x lo hi none, ty, pos, af, none⟩ f A ((.slice (if c = l.toNat then a else a.map (·.add (l.toNat * sz))) (h.toNat - l.toNat) (c - l.toNat))) := by
  refine Y.of (fun _ w s => ?_)
  have hh0 : 0 ≤ h := by omega
  have e1 : l ≤ (h.toNat : Int) := by omega
  cases lo with
  | none =>
    simp only [Option.some.injEq, Value.int.injEq, true_and] at hl
    subst hl
    cases hi with
    | none =>
      simp only [Option.some.injEq, Value.int.injEq, true_and] at hh
      subst hh
      simp [execOp, s.eval hx, Instr.sliceAt, hs.und, Instr.slice, Instr.sliceBounds, h2.size]
    | some y => simp [execOp, s.eval hx, s.eval hh, Instr.sliceAt, hs.und, Instr.slice, Instr.sliceBounds, h2.size, Instr.sliceBound, asIntOf, hh0, h3]
  | some z =>
    cases hi with
    | none =>
      simp only [Option.some.injEq, Value.int.injEq, true_and] at hh
      subst hh
      have h1' : l ≤ (m : Int) := h1
      simp [execOp, s.eval hx, s.eval hl, Instr.sliceAt, hs.und, Instr.slice, Instr.sliceBounds, h2.size, Instr.sliceBound, asIntOf, h0, h1']
    | some y =>
      have e2 : l ≤ max h 0 := by omega
      simp [execOp, s.eval hx, s.eval hh, s.eval hl, Instr.sliceAt, hs.und, Instr.slice, Instr.sliceBounds, h2.size, Instr.sliceBound, asIntOf, hh0, h3, h0, e1, e2]

/-! Loads. -/
theorem Y.ldR {x : Operand} {t : TypeId} {sz bts : Nat} {zs : List Value} {b o : Nat} {v : Value} [h : Ty P t false sz zs bts] (hx : ev f x = some (.pointer (some ⟨b, o, none⟩))) (hr : RdC A b o [v]) : YieldS P n ops ⟨some d, .load t x, ty, pos, af, none⟩ f A v :=
  Y.of' fun a w F s t => by
    have := run_loadVar1 (h := h) (hr w F t 0 v rfl)
    rw [Nat.add_zero] at this
    simp [execOp, s.eval hx, this]
theorem Y.ldRN {x : Operand} {t : TypeId} {sz bts : Nat} {zs : List Value} {b o : Nat} {cs : List Value} [h : Ty P t true sz zs bts] (hx : ev f x = some (.pointer (some ⟨b, o, none⟩))) (hr : RdC A b o cs) (hn : cs.length = sz) : YieldS P n ops ⟨some d, .load t x, ty, pos, af, none⟩ f A (.agg cs.toArray) :=
  Y.of' fun a w F s t => by
    have := run_loadVarN (h := h) hn (hr w F t)
    simp [execOp, s.eval hx, this]
theorem Y.ld {x : Operand} {t t0 : TypeId} {sz bts : Nat} {zs : List Value} {b o : Nat} {v : Value} {l : List Value} [h : Ty P t false sz zs bts] [hb : FindB b A (cl l t0)] (hx : ev f x = some (.pointer (some ⟨b, o, none⟩))) (hv : l[o]? = some v) : YieldS P n ops ⟨some d, .load t x, ty, pos, af, none⟩ f A v :=
  Y.ldR hx (RdC.find (h := hb) fun j u e => by cases j <;> simp_all)
theorem Y.ldN {x : Operand} {t t0 : TypeId} {sz bts : Nat} {zs : List Value} {b o : Nat} {cs : List Value} {l : List Value} [h : Ty P t true sz zs bts] [hb : FindB b A (cl l t0)] (hx : ev f x = some (.pointer (some ⟨b, o, none⟩))) (hv : (l.drop o).take sz = cs) (hn : cs.length = sz) : YieldS P n ops ⟨some d, .load t x, ty, pos, af, none⟩ f A (.agg cs.toArray) :=
  Y.ldRN hx (RdC.find (h := hb) fun j u e => by
    rw [← hv] at e
    by_cases hj : j < sz
    · rw [List.getElem?_take_of_lt hj, List.getElem?_drop] at e; exact e
    · rw [List.getElem?_take_eq_none (by omega)] at e; simp at e) hn
theorem Y.len {x : Operand} {t e : TypeId} {a : Option Addr} {m c : Nat} [h : SlTy P t e] (hx : ev f x = some (.slice a m c)) :
    YieldS P n ops ⟨some d, .call ⟨.builtin .len, #[x], #[t]⟩, ty, pos, af, none⟩ f A (.int .i64 m) :=
  Y.of fun a w s => by simp [execOp, resolve, invoke, s.eval hx, builtin, Builtin.len_, h.und, goInt]
theorem Y.min {x y : Operand} {t t' : TypeId} {k : IntKind} {a b : Int} (hx : ev f x = some (.int k a)) (hy : ev f y = some (.int k b)) :
    YieldS P n ops ⟨some d, .call ⟨.builtin .min, #[x, y], #[t, t']⟩, ty, pos, af, none⟩ f A (.int k (Min.min a b)) :=
  Y.of fun ac w s => by
    have : Min.min a b = if b < a then b else a := by simp only [Int.min_def]; split <;> split <;> omega
    simp [execOp, resolve, invoke, s.eval hx, s.eval hy, builtin, Builtin.min_, Builtin.min2, this]
theorem Y.max {x y : Operand} {t t' : TypeId} {k : IntKind} {a b : Int} (hx : ev f x = some (.int k a)) (hy : ev f y = some (.int k b)) :
    YieldS P n ops ⟨some d, .call ⟨.builtin .max, #[x, y], #[t, t']⟩, ty, pos, af, none⟩ f A (.int k (Max.max a b)) :=
  Y.of fun ac w s => by
    have : Max.max a b = if a < b then b else a := by simp only [Int.max_def]; split <;> split <;> omega
    simp [execOp, resolve, invoke, s.eval hx, s.eval hy, builtin, Builtin.max_, Builtin.max2, this]
end
/-! Structs made whole. -/
section
variable {P : Program} {n : Nat} {ops : List Oper} {f : Env} {A : List HP} {d : Tmp} {ty : TypeId} {pos : String} {af : Array Edge}
theorem Y.bd {t : TypeId} {parts : Array (Nat × Operand)} {fs : List (Nat × Nat × Bool)} {sz bts : Nat} {ag : Bool} {zs cs : List Value} {l : List (Nat × Value)} [h1 : StTy P t fs] [h2 : Ty P t ag sz zs bts]
    (hp : partsL f parts.toList = some l) {m : Nat} (hm : zs.length = m) (hf : fitsL fs m (cellsOf l) = true) (hc : fillL fs zs (cellsOf l) = cs) : YieldS P n ops ⟨some d, .build t parts, ty, pos, af, none⟩ f A (.agg cs.toArray) := by
  subst hm
  obtain ⟨z, hz, hz2⟩ := h2.zero
  obtain ⟨fields, hu, hsz, hfs⟩ := h1.und
  refine Y.of (v := .agg cs.toArray) (fun a w s => ?_)
  have e1 : (parts.map fun p => (p.1, a.eval p.2)).toList = l := by simpa using partsL_eq s hp
  have e2 := run_places (P := P) hsz hfs w
  have e3 : z.cells = zs.toArray := by rw [← hz2]
  have e4 := fill_eq (places := fs) (pl := fun i => ((fs.map fun x => (x.1, x.2.1)).toArray)[i]?) (fun i off sz ag e => by simp [e]) l zs (fitsL_of hf)
  unfold cellsOf at hc
  rw [hc] at e4
  obtain ⟨pl⟩ := parts
  simp only [List.map_toArray] at e1
  simp only [execOp, Instr.build, Sem.run_bind, hz, Result.andThen_ok, hu, e2, e3, List.map_toArray, e1, e4]
  rfl
end
/-! Kinds, for the search. -/
section
variable {P : Program} {n : Nat} {ops : List Oper} {f : Env} {A : List HP} {d : Tmp} {ty : TypeId} {pos : String} {af : Array Edge} {v : Value} {g : Option (Nat × Bool)}
theorem K.bin {o : BinOp} {x y : Operand} {t t' : TypeId} (h : YieldS P n ops ⟨some d, .binOp o t x y t', ty, pos, af, none⟩ f A v) : YieldS P n ops ⟨some d, .binOp o t x y t', ty, pos, af, none⟩ f A v := h
theorem K.pick {x y z : Operand} (h : YieldS P n ops ⟨some d, .pick x y z, ty, pos, af, none⟩ f A v) : YieldS P n ops ⟨some d, .pick x y z, ty, pos, af, none⟩ f A v := h
theorem K.bui {b : Builtin} {xs : Array Operand} {ts : Array TypeId} (h : YieldS P n ops ⟨some d, .call ⟨.builtin b, xs, ts⟩, ty, pos, af, none⟩ f A v) : YieldS P n ops ⟨some d, .call ⟨.builtin b, xs, ts⟩, ty, pos, af, none⟩ f A v := h
theorem K.load {t : TypeId} {x : Operand} (h : YieldS P n ops ⟨some d, .load t x, ty, pos, af, none⟩ f A v) : YieldS P n ops ⟨some d, .load t x, ty, pos, af, none⟩ f A v := h
theorem K.fa {t i : Nat} {x : Operand} (h : YieldS P n ops ⟨some d, .fieldAddr t x i, ty, pos, af, none⟩ f A v) : YieldS P n ops ⟨some d, .fieldAddr t x i, ty, pos, af, none⟩ f A v := h
theorem K.ext {i : Nat} {x : Operand} (h : YieldS P n ops ⟨some d, .extract x i, ty, pos, af, none⟩ f A v) : YieldS P n ops ⟨some d, .extract x i, ty, pos, af, none⟩ f A v := h
theorem K.ia {t : TypeId} {x y : Operand} (h : YieldS P n ops ⟨some d, .indexAddr t x y, ty, pos, af, none⟩ f A v) : YieldS P n ops ⟨some d, .indexAddr t x y, ty, pos, af, none⟩ f A v := h
end
/-! A region whose order is open, gone through in one order: what yields as soon as it can, what acts (E) alone. -/
section
variable {P : Program} {n : Nat} {ops : List Oper} {Q : Post} {f : Env} {A L : List HP} {E cs σ : List Nat} {listed : Array Bool} {held : Bool}
variable {d : Tmp} {ty : TypeId} {pos : String} {af : Array Edge}
def ordOK (ops : Array Oper) (E cs : List Nat) : List Nat → Array Bool → Bool
  | [], listed => (Region.ready .any ops listed).isEmpty
  | i :: σ, listed => bif Nat.beq i 99999 then true else (bif E.contains i then Region.ready .any ops listed == [i] else Region.free .any ops listed i && (Region.ready .any ops listed).contains i && !cs.contains i) && ordOK ops E cs σ (listed.setIfInBounds i true)
def drawS (P : Program) (n : Nat) (ops : List Oper) (E cs : List Nat) (A : List HP) (σ : List Nat) (Q : Post) (listed : Array Bool) (held : Bool) (f : Env) (L : List HP) : Prop :=
  ordOK ops.toArray E cs σ listed = true → Region.noSelect ops.toArray = true → (∀ c f L, ¬ Q (.panic c) f L) → anyS P n ops Q cs A σ.length listed held f L
theorem D.start {id : Nat} (E cs σ : List Nat) (A L1 : List HP) (hm : P.follows .mixedOrders = true) (hs : Region.noSelect ops.toArray = true) (hl : σ.length = ops.length) (ho : ordOK ops.toArray E cs σ (Array.replicate ops.length false) = true)
    (hQ : ∀ c f L, ¬ Q (.panic c) f L) (hL : Ent L (L1 ++ A)) (h : drawS P n ops E cs A σ Q (Array.replicate ops.length false) true f L1) : swp P n (.region id ops.toArray true) Q f L :=
  swp_draw cs A L1 hm hL (hl ▸ h ho hs hQ)
theorem D.y {i : Nat} {op : Op} {g : Option (Nat × Bool)} {v : Value} (hi : ops[i]? = some ⟨some d, op, ty, pos, af, g⟩) (h9 : Nat.beq i 99999 = false) (hE : E.contains i = false) (hc : (cs.all fun m => m != i && (ops.toArray[m]?).isSome && reach ops.toArray 4 i m) = true)
    (hy : YieldS P n ops ⟨some d, op, ty, pos, af, g⟩ f A v) (h : drawS P n ops E cs A σ Q (listed.setIfInBounds i true) true (upd f d v) L) : drawS P n ops E cs A (i :: σ) Q listed true f L := by
  intro ho hs hQ
  simp only [ordOK, h9, hE, cond_false, Bool.and_eq_true] at ho
  exact _root_.Go.SX.A.takeR i hi hs ho.1.1.1 ho.1.1.2 hc hy hQ (h ho.2 hs hQ)
theorem D.yp {i : Nat} {op : Op} {g : Option (Nat × Bool)} {v : Value} (hi : ops[i]? = some ⟨some d, op, ty, pos, af, g⟩) (h9 : Nat.beq i 99999 = false) (hE : E.contains i = false)
    (hy : YieldS P n ops ⟨some d, op, ty, pos, af, g⟩ f [] v) (h : drawS P n ops E cs A σ Q (listed.setIfInBounds i true) held (upd f d v) L) : drawS P n ops E cs A (i :: σ) Q listed held f L := by
  intro ho hs hQ
  simp only [ordOK, h9, hE, cond_false, Bool.and_eq_true] at ho
  exact _root_.Go.SX.A.take i hi hs ho.1.1.1 ho.1.1.2 (by simpa using ho.1.2) hy hQ (h ho.2 hs hQ)
theorem D.e {i : Nat} {o : Oper} (hi : ops[i]? = some o) (h9 : Nat.beq i 99999 = false) (hE : E.contains i = true)
    (h : opsS P n ops [o] (thenS (fun f L => drawS P n ops E cs A σ Q (listed.setIfInBounds i true) held f L) (fun _ _ _ => False)) f L) : drawS P n ops E cs A (i :: σ) Q listed held f L := by
  intro ho hs hQ
  simp only [ordOK, h9, hE, cond_true, cond_false, Bool.and_eq_true, beq_iff_eq] at ho
  exact _root_.Go.SX.A.one i ho.1 hi (fun ok F a w s t => wpList_mono (h ok F a w s t) (by rintro e a w ⟨f, L, s, t, q⟩; cases e <;> first | exact ⟨f, L, s, t, q ho.2 hs hQ⟩ | exact q.elim))
theorem D.c {i : Nat} {o : Oper} {L2 : List HP} (hi : ops[i]? = some o) (h9 : Nat.beq i 99999 = false) (hE : E.contains i = true) (hc : cs.contains i = true) (hL : A ++ L = L2)
    (h : opsS P n ops [o] (thenS (fun f L => drawS P n ops E cs A σ Q (listed.setIfInBounds i true) false f L) (fun _ _ _ => False)) f L2) : drawS P n ops E cs A (i :: σ) Q listed true f L := by
  intro ho hs hQ
  simp only [ordOK, h9, hE, cond_true, cond_false, Bool.and_eq_true, beq_iff_eq] at ho
  refine _root_.Go.SX.A.oneC i ho.1 hi hc (opsS_ent (Ent.perm (List.perm_append_comm.trans (hL ▸ List.Perm.refl _))) fun ok F a w s t => wpList_mono (h ok F a w s t) (by rintro e a w ⟨f, L, s, t, q⟩; cases e <;> first | exact ⟨f, L, s, t, q ho.2 hs hQ⟩ | exact q.elim))
theorem D.end_ (h : Q .normal f L) : drawS P n ops E cs A [] Q listed false f L := by
  intro ho hs hQ
  simp only [ordOK, List.isEmpty_iff] at ho
  exact _root_.Go.SX.A.done ho h
theorem D.endH {L2 : List HP} (hL : A ++ L = L2) (h : Q .normal f L2) : drawS P n ops E cs A [] Q listed true f L := by
  intro ho hs hQ
  simp only [ordOK, List.isEmpty_iff] at ho
  refine anyS_endP (A := A) (L2 := L2) ?_ ho h
  rw [← hL]; exact Ent.perm List.perm_append_comm
def maskA : List Bool → List HP → List HP
  | [] => fun _ => []
  | b :: m => fun l => match l with
    | [] => []
    | x :: l => match b with
      | true => x :: maskA m l
      | false => maskA m l
def maskL : List Bool → List HP → List HP
  | [] => fun l => l
  | b :: m => fun l => match l with
    | [] => []
    | x :: l => match b with
      | true => maskL m l
      | false => x :: maskL m l
theorem mask_perm : ∀ (m : List Bool) (L : List HP), L.Perm (maskL m L ++ maskA m L)
  | [], L => by simp [maskA, maskL]
  | b :: m, [] => by simp [maskA, maskL]
  | true :: m, x :: L => by simp only [maskA, maskL]; exact ((mask_perm m L).cons x).trans List.perm_middle.symm
  | false :: m, x :: L => by simp only [maskA, maskL]; exact (mask_perm m L).cons x
theorem D.go {id : Nat} (mask : List Bool) (E cs σ : List Nat) {L1 : List HP} (hm : P.follows .mixedOrders = true) (hs : Region.noSelect ops.toArray = true) (hl : σ.length = ops.length) (ho : ordOK ops.toArray E cs σ (Array.replicate ops.length false) = true)
    (hQ : ∀ c f L, ¬ Q (.panic c) f L) (hA : maskA mask L = A) (hL : maskL mask L = L1) (h : drawS P n ops E cs A σ Q (Array.replicate ops.length false) true f L1) : swp P n (.region id ops.toArray true) Q f L :=
  D.start E cs σ A L1 hm hs hl ho hQ (by rw [← hA, ← hL]; exact Ent.perm (mask_perm mask L)) h
theorem D.two (i j : Nat) (σ1 σ2 : List Nat) {τ : List Nat} {o o' : Oper} (hr : Region.ready .any ops.toArray listed = [i, j]) (hi : ops[i]? = some o) (hj : ops[j]? = some o') (hl1 : σ1.length = τ.length) (hl2 : σ2.length = τ.length)
    (ho1 : ordOK ops.toArray E cs σ1 (listed.setIfInBounds i true) = true) (ho2 : ordOK ops.toArray E cs σ2 (listed.setIfInBounds j true) = true)
    (h1 : opsS P n ops [o] (thenS (fun f L => drawS P n ops E cs A σ1 Q (listed.setIfInBounds i true) held f L) (fun _ _ _ => False)) f L)
    (h2 : opsS P n ops [o'] (thenS (fun f L => drawS P n ops E cs A σ2 Q (listed.setIfInBounds j true) held f L) (fun _ _ _ => False)) f L) : drawS P n ops E cs A (99999 :: τ) Q listed held f L := by
  intro _ hs hQ
  exact _root_.Go.SX.A.two i j hr hi hj (fun ok F a w s t => wpList_mono (h1 ok F a w s t) (by rintro e a w ⟨f, L, s, t, q⟩; cases e <;> first | exact ⟨f, L, s, t, hl1 ▸ q ho1 hs hQ⟩ | exact q.elim))
    (fun ok F a w s t => wpList_mono (h2 ok F a w s t) (by rintro e a w ⟨f, L, s, t, q⟩; cases e <;> first | exact ⟨f, L, s, t, hl2 ▸ q ho2 hs hQ⟩ | exact q.elim))
theorem D.ent {L' : List HP} (h : Ent L L') (H : drawS P n ops E cs A σ Q listed held f L') : drawS P n ops E cs A σ Q listed held f L := fun ho hs hQ => anyS_ent h (H ho hs hQ)
end
/-! No panic on the way. -/
class NoPanic (Q : Post) : Prop where
  no : ∀ c f L, ¬ Q (.panic c) f L
instance {K : Env → List HP → Prop} {Q : Post} [h : NoPanic Q] : NoPanic (thenS K Q) := ⟨fun c f L q => h.no c f L q⟩
instance {i : Nat} {Q : Post} [h : NoPanic Q] : NoPanic (blockS i Q) := ⟨fun c f L q => h.no c f L q⟩
instance {P : Program} {n : Nat} {rs : List ResultVar} {R : Value → List HP → Prop} : NoPanic (retS P n rs R) := ⟨fun c f L q => q⟩
end Go.SX
