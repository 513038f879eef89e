/- Steps with their searches. No condition. -/
import Derived.Test.YtjidejcehmamkaaDoorSxN
import Derived.Test.YtjidejcehmamkaaDoorSxW
import Derived.KernelRfl
set_option linter.unusedVariables false
set_option linter.unusedSimpArgs false
namespace Go.SX
open Go
theorem nz {α : Type _} : ([] : List α) = [] := rfl
theorem cz {α : Type _} {l l1 l2 : List α} {x : α} (h : l = x :: l1) (h2 : l1 = l2) : l = x :: l2 := h2 ▸ h
theorem mln {L : List HP} : maskL [] L = L := rfl
theorem mlt {m : List Bool} {x : HP} {L L' : List HP} (h : maskL m L = L') : maskL (true :: m) (x :: L) = L' := h
theorem mlf {m : List Bool} {x : HP} {L L' : List HP} (h : maskL m L = L') : maskL (false :: m) (x :: L) = x :: L' := by rw [← h]; rfl
theorem man {L : List HP} : maskA [] L = [] := rfl
theorem mat {m : List Bool} {x : HP} {L L' : List HP} (h : maskA m L = L') : maskA (true :: m) (x :: L) = x :: L' := by rw [← h]; rfl
theorem maf {m : List Bool} {x : HP} {L L' : List HP} (h : maskA m L = L') : maskA (false :: m) (x :: L) = L' := h
/-! What kind an operation is of: the search asks this first. -/
class Imv (o : Oper) : Prop where
  tt : True
class Ias_ (o : Oper) : Prop where
  tt : True
class Inc (o : Oper) : Prop where
  tt : True
class Ifa (o : Oper) : Prop where
  tt : True
class Iia (o : Oper) : Prop where
  tt : True
class Ieq (o : Oper) : Prop where
  tt : True
class Ine (o : Oper) : Prop where
  tt : True
class Ilt (o : Oper) : Prop where
  tt : True
class Ile (o : Oper) : Prop where
  tt : True
class Igt (o : Oper) : Prop where
  tt : True
class Ige (o : Oper) : Prop where
  tt : True
class Iad (o : Oper) : Prop where
  tt : True
class Isb (o : Oper) : Prop where
  tt : True
class Iln (o : Oper) : Prop where
  tt : True
class Imi (o : Oper) : Prop where
  tt : True
class Ima (o : Oper) : Prop where
  tt : True
class Ipk (o : Oper) : Prop where
  tt : True
class Iex (o : Oper) : Prop where
  tt : True
class Ino (o : Oper) : Prop where
  tt : True
class Ibd (o : Oper) : Prop where
  tt : True
class Ild (P : Program) (o : Oper) (ag : outParam Bool) : Prop where
  tt : True
section
variable {P : Program} {d : Tmp} {dd : Option Tmp} {op : Op} {ty : TypeId} {pos : String} {af : Array Edge} {g : Nat × Bool} {x y z : Operand} {t t' : TypeId} {k : Nat} {xs : Array Operand} {ts : Array TypeId} {ps : Array (Nat × Operand)} {ok : Bool}
instance : Imv ⟨some d, .move x, ty, pos, af, none⟩ := ⟨trivial⟩
instance : Ias_ ⟨some d, .assign x, ty, pos, af, none⟩ := ⟨trivial⟩
instance : Inc ⟨some d, .nilCheck x, ty, pos, af, none⟩ := ⟨trivial⟩
instance : Ifa ⟨some d, .fieldAddr t x k, ty, pos, af, none⟩ := ⟨trivial⟩
instance : Iia ⟨some d, .indexAddr t x y, ty, pos, af, none⟩ := ⟨trivial⟩
instance : Ieq ⟨some d, .binOp .eql t x y t', ty, pos, af, none⟩ := ⟨trivial⟩
instance : Ine ⟨some d, .binOp .neq t x y t', ty, pos, af, none⟩ := ⟨trivial⟩
instance : Ilt ⟨some d, .binOp .lss t x y t', ty, pos, af, none⟩ := ⟨trivial⟩
instance : Ile ⟨some d, .binOp .leq t x y t', ty, pos, af, none⟩ := ⟨trivial⟩
instance : Igt ⟨some d, .binOp .gtr t x y t', ty, pos, af, none⟩ := ⟨trivial⟩
instance : Ige ⟨some d, .binOp .geq t x y t', ty, pos, af, none⟩ := ⟨trivial⟩
instance : Iad ⟨some d, .binOp .add t x y t', ty, pos, af, none⟩ := ⟨trivial⟩
instance : Isb ⟨some d, .binOp .sub t x y t', ty, pos, af, none⟩ := ⟨trivial⟩
instance : Iln ⟨some d, .call ⟨.builtin .len, xs, ts⟩, ty, pos, af, none⟩ := ⟨trivial⟩
instance : Imi ⟨some d, .call ⟨.builtin .min, xs, ts⟩, ty, pos, af, none⟩ := ⟨trivial⟩
instance : Ima ⟨some d, .call ⟨.builtin .max, xs, ts⟩, ty, pos, af, none⟩ := ⟨trivial⟩
instance : Ipk ⟨some d, .pick x y z, ty, pos, af, none⟩ := ⟨trivial⟩
instance : Iex ⟨some d, .extract x k, ty, pos, af, none⟩ := ⟨trivial⟩
instance : Ino ⟨some d, .unOp .not t x, ty, pos, af, none⟩ := ⟨trivial⟩
instance : Ibd ⟨some d, .build t ps, ty, pos, af, none⟩ := ⟨trivial⟩
instance {ag : Bool} {sz bts : Nat} {zs : List Value} [Ty P t ag sz zs bts] : Ild P ⟨some d, .load t x, ty, pos, af, none⟩ ag := ⟨trivial⟩
end
namespace QY
section
variable {P : Program} {n : Nat} {ops : List Oper} {f : Env} {A : List HP} {v : Value}
theorem mv {o : Oper} [Imv o] (h : YieldS P n ops o f A v) : YieldS P n ops o f A v := h
theorem as_ {o : Oper} [Ias_ o] (h : YieldS P n ops o f A v) : YieldS P n ops o f A v := h
theorem nc {o : Oper} [Inc o] (h : YieldS P n ops o f A v) : YieldS P n ops o f A v := h
theorem fa {o : Oper} [Ifa o] (h : YieldS P n ops o f A v) : YieldS P n ops o f A v := h
theorem ia {o : Oper} [Iia o] (h : YieldS P n ops o f A v) : YieldS P n ops o f A v := h
theorem eq {o : Oper} [Ieq o] (h : YieldS P n ops o f A v) : YieldS P n ops o f A v := h
theorem ne {o : Oper} [Ine o] (h : YieldS P n ops o f A v) : YieldS P n ops o f A v := h
theorem lt {o : Oper} [Ilt o] (h : YieldS P n ops o f A v) : YieldS P n ops o f A v := h
theorem le {o : Oper} [Ile o] (h : YieldS P n ops o f A v) : YieldS P n ops o f A v := h
theorem gt {o : Oper} [Igt o] (h : YieldS P n ops o f A v) : YieldS P n ops o f A v := h
theorem ge {o : Oper} [Ige o] (h : YieldS P n ops o f A v) : YieldS P n ops o f A v := h
theorem ad {o : Oper} [Iad o] (h : YieldS P n ops o f A v) : YieldS P n ops o f A v := h
theorem sb {o : Oper} [Isb o] (h : YieldS P n ops o f A v) : YieldS P n ops o f A v := h
theorem ln {o : Oper} [Iln o] (h : YieldS P n ops o f A v) : YieldS P n ops o f A v := h
theorem mi {o : Oper} [Imi o] (h : YieldS P n ops o f A v) : YieldS P n ops o f A v := h
theorem ma {o : Oper} [Ima o] (h : YieldS P n ops o f A v) : YieldS P n ops o f A v := h
theorem pk {o : Oper} [Ipk o] (h : YieldS P n ops o f A v) : YieldS P n ops o f A v := h
theorem ex {o : Oper} [Iex o] (h : YieldS P n ops o f A v) : YieldS P n ops o f A v := h
theorem no {o : Oper} [Ino o] (h : YieldS P n ops o f A v) : YieldS P n ops o f A v := h
theorem bd {o : Oper} [Ibd o] (h : YieldS P n ops o f A v) : YieldS P n ops o f A v := h
theorem l1 {o : Oper} [Ild P o false] (h : YieldS P n ops o f A v) : YieldS P n ops o f A v := h
theorem lN {o : Oper} [Ild P o true] (h : YieldS P n ops o f A v) : YieldS P n ops o f A v := h
end
end QY
class IsY (o : Oper) (d : outParam Tmp) : Prop where
  dst : o.dst = some d
class IsG (o : Oper) : Prop where
  tt : True
class IsS (o : Oper) : Prop where
  tt : True
class IsA (o : Oper) : Prop where
  tt : True
section
variable {d : Tmp} {dd : Option Tmp} {op : Op} {ty : TypeId} {pos : String} {af : Array Edge} {g : Nat × Bool} {x y z : Operand} {t t' : TypeId} {k : Nat} {xs : Array Operand} {ts : Array TypeId} {ps : Array (Nat × Operand)} {ok : Bool}
instance : IsY ⟨some d, .move x, ty, pos, af, none⟩ d := ⟨rfl⟩
instance : IsY ⟨some d, .assign x, ty, pos, af, none⟩ d := ⟨rfl⟩
instance : IsY ⟨some d, .nilCheck x, ty, pos, af, none⟩ d := ⟨rfl⟩
instance : IsY ⟨some d, .load t x, ty, pos, af, none⟩ d := ⟨rfl⟩
instance : IsY ⟨some d, .fieldAddr t x k, ty, pos, af, none⟩ d := ⟨rfl⟩
instance {o : BinOp} : IsY ⟨some d, .binOp o t x y t', ty, pos, af, none⟩ d := ⟨rfl⟩
instance : IsY ⟨some d, .call ⟨.builtin .len, xs, ts⟩, ty, pos, af, none⟩ d := ⟨rfl⟩
instance : IsY ⟨some d, .call ⟨.builtin .min, xs, ts⟩, ty, pos, af, none⟩ d := ⟨rfl⟩
instance : IsY ⟨some d, .call ⟨.builtin .max, xs, ts⟩, ty, pos, af, none⟩ d := ⟨rfl⟩
instance : IsY ⟨some d, .pick x y z, ty, pos, af, none⟩ d := ⟨rfl⟩
instance : IsY ⟨some d, .extract x k, ty, pos, af, none⟩ d := ⟨rfl⟩
instance : IsY ⟨some d, .unOp .not t x, ty, pos, af, none⟩ d := ⟨rfl⟩
instance : IsY ⟨some d, .indexAddr t x y, ty, pos, af, none⟩ d := ⟨rfl⟩
instance : IsY ⟨some d, .build t ps, ty, pos, af, none⟩ d := ⟨rfl⟩
instance : IsG ⟨dd, op, ty, pos, af, some g⟩ := ⟨trivial⟩
instance : IsS ⟨none, .store t x y, ty, pos, af, none⟩ := ⟨trivial⟩
instance : IsA ⟨some d, .alloc t, ty, pos, af, none⟩ := ⟨trivial⟩
instance : IsA ⟨some d, .box t x, ty, pos, af, none⟩ := ⟨trivial⟩
instance : IsA ⟨some d, .buildSlice t k ps, ty, pos, af, none⟩ := ⟨trivial⟩
end
theorem S.y' {P : Program} {n : Nat} {ops rest : List Oper} {Q : Post} {f : Env} {L : List HP} {o : Oper} {d : Tmp} {v : Value} (hd : o.dst = some d) (hy : YieldS P n ops o f L v) (hk : opsS P n ops rest Q (upd f d v) L) : opsS P n ops (o :: rest) Q f L := by
  obtain ⟨dd, op, ty, pos, af, g⟩ := o
  cases hd
  exact S.y hy hk
namespace GQ
section
variable {P : Program} {n : Nat} {ops rest : List Oper} {Q : Post} {f : Env} {L : List HP} {o : Oper}
theorem y {d : Tmp} [IsY o d] (h : opsS P n ops (o :: rest) Q f L) : opsS P n ops (o :: rest) Q f L := h
theorem g [IsG o] (h : opsS P n ops (o :: rest) Q f L) : opsS P n ops (o :: rest) Q f L := h
theorem s [IsS o] (h : opsS P n ops (o :: rest) Q f L) : opsS P n ops (o :: rest) Q f L := h
theorem a [IsA o] (h : opsS P n ops (o :: rest) Q f L) : opsS P n ops (o :: rest) Q f L := h
end
end GQ
namespace Q
section
variable {P : Program} {n : Nat} {ops rest : List Oper} {Q : Post} {f : Env} {A L : List HP} {E cs σ : List Nat} {listed : Array Bool} {held : Bool}
variable {d : Tmp} {op : Op} {ty : TypeId} {pos : String} {af : Array Edge} {g : Option (Nat × Bool)} {v : Value}
theorem y {o : Oper} {d : Tmp} [h : IsY o d] (hk : opsS P n ops rest Q (upd f d v) L) (hy : YieldS P n ops o f L v := by first | (apply QY.mv; first | exact Y.mv rfl) | (apply QY.as_; first | exact Y.as rfl) | (apply QY.l1; first | exact Y.ld rfl rfl | exact Y.ldM rfl (by assumption) (by rfl) | exact Y.ldM0 rfl (by assumption) | exact Y.ldR rfl (by assumption) | exact Y.ldR rfl (RdC.sub (by assumption))) | (apply QY.fa; exact Y.fa rfl rfl (by decide)) | (apply QY.ia; first | exact Y.ia rfl rfl rfl (by omega) | exact Y.iaa rfl rfl rfl (by omega) | exact Y.iac rfl rfl (by first | omega | exact Nat.le_of_ble_eq_true rfl) | exact Y.iaac rfl rfl rfl) | (apply QY.eq; first | (apply Y.eqi; rfl; rfl) | (apply Y.eqp; rfl; rfl) | (apply Y.eqs; rfl; rfl) | (apply Y.eqB; rfl; rfl) | (apply Y.eqst; rfl; rfl)) | (apply QY.ne; first | (apply Y.nei; rfl; rfl) | (apply Y.nep; rfl; rfl) | (apply Y.nes; rfl; rfl) | (apply Y.neB; rfl; rfl) | (apply Y.nest; rfl; rfl)) | (apply QY.lt; exact Y.lss rfl rfl) | (apply QY.pk; first | (apply Y.pk_t; rfl; rfl) | (apply Y.pk_f; rfl; rfl) | exact Y.pk rfl rfl rfl) | (apply QY.nc; exact Y.nc rfl) | (apply QY.ln; first | exact Y.len rfl | exact Y.mlen rfl) | (apply QY.ex; exact Y.ext rfl rfl) | (apply QY.ad; exact Y.addi rfl rfl rfl (by omega) (by omega)) | (apply QY.lN; first | exact Y.ldN rfl (by repeat (first | exact nz | (apply cz; exact rfl) | exact rfl)) (by rfl) | exact Y.ldMN rfl (by assumption) (by rfl) | exact Y.ldRN rfl (by assumption) (by rfl) | exact Y.ldRN rfl (RdC.sub (by assumption)) (by rfl)) | (apply QY.no; exact Y.not rfl) | (apply QY.ge; exact Y.geq rfl rfl) | (apply QY.gt; exact Y.gtr rfl rfl) | (apply QY.le; exact Y.leq rfl rfl) | (apply QY.sb; exact Y.subi rfl rfl rfl (by omega) (by omega)) | (apply QY.mi; exact Y.min rfl rfl) | (apply QY.ma; exact Y.max rfl rfl) | (apply QY.bd; first | (apply Y.bd; rfl; rfl; rfl; exact (by repeat (first | exact nz | (apply cz; exact rfl) | exact rfl))) | (apply Y.bda; rfl; rfl; rfl; exact (by repeat (first | exact nz | (apply cz; exact rfl) | exact rfl))))) : opsS P n ops (o :: rest) Q f L := S.y' h.dst hy hk
theorem st {o : Oper} {L' : List HP} [IsS o] (hk : opsS P n ops rest Q f L')
    (h : (∀ rest Q, opsS P n ops rest Q f L' → opsS P n ops (o :: rest) Q f L) := by intro rest Q hk; first | exact S.st1 rfl rfl rfl rfl (by repeat (first | exact nz | (apply cz; exact rfl) | exact rfl)) hk | exact S.st rfl rfl (by repeat (first | exact nz | (apply cz; exact rfl) | exact rfl)) (by rfl) (by rfl) (by rfl) (by repeat (first | exact nz | (apply cz; exact rfl) | exact rfl)) hk) : opsS P n ops (o :: rest) Q f L := h _ _ hk
theorem al {o : Oper} {f' : Nat → Env} {L' : Nat → List HP} [IsA o] (hk : ∀ b, opsS P n ops rest Q (f' b) (L' b))
    (h : (∀ rest Q, (∀ b, opsS P n ops rest Q (f' b) (L' b)) → opsS P n ops (o :: rest) Q f L) := by intro rest Q hk; first | exact S.al hk | exact S.bs rfl rfl rfl rfl (by repeat (first | exact nz | (apply cz; exact rfl) | exact rfl)) hk | exact S.bx rfl (by repeat (first | exact nz | (apply cz; exact rfl) | exact rfl)) hk) : opsS P n ops (o :: rest) Q f L := h _ _ hk
theorem gq {o : Oper} {l' : List Oper} {f' : Env} [IsG o] (hk : opsS P n ops l' Q f' L)
    (h : (∀ Q, opsS P n ops l' Q f' L → opsS P n ops (o :: rest) Q f L) := by intro Q hk; first | exact S.guard rfl hk | exact S.gskip1 rfl hk | exact S.gskip rfl hk | exact S.y (Y.gskipU rfl) hk) : opsS P n ops (o :: rest) Q f L := h _ hk
theorem gd {o : Oper} {l' : List Oper} {f' : Env} [IsG o] (hk : opsS P n ops l' Q f' L)
    (h : (∀ Q, opsS P n ops l' Q f' L → opsS P n ops (o :: rest) Q f L) := by intro Q hk; first | exact S.gT rfl rfl (by simp only [Option.isNone_some, Option.isNone_none, decide_eq_true_eq, decide_eq_false_iff_not, beq_iff_eq, bne_iff_ne, beq_eq_false_iff_ne, Bool.not_eq_true', Bool.not_eq_false', Bool.not_true, Bool.not_false, beq_true, beq_false, true_and, and_true, false_and, and_false, or_false, false_or, true_or, or_true, not_true_eq_false, not_false_eq_true, Bool.true_eq_false, Bool.false_eq_true] at *; first | done | omega) hk | exact S.gF rfl rfl (by simp only [Option.isNone_some, Option.isNone_none, decide_eq_true_eq, decide_eq_false_iff_not, beq_iff_eq, bne_iff_ne, beq_eq_false_iff_ne, Bool.not_eq_true', Bool.not_eq_false', Bool.not_true, Bool.not_false, beq_true, beq_false, true_and, and_true, false_and, and_false, or_false, false_or, true_or, or_true, not_true_eq_false, not_false_eq_true, Bool.true_eq_false, Bool.false_eq_true] at *; first | done | omega) hk) : opsS P n ops (o :: rest) Q f L := h _ hk
theorem ct {c : Operand} {x y : Code} {b : Bool} (hc : ev f c = some (.bool b)) (h : swp P n x Q f L) (hb : b = true := by simp only [Option.isNone_some, Option.isNone_none, decide_eq_true_eq, decide_eq_false_iff_not, beq_iff_eq, bne_iff_ne, beq_eq_false_iff_ne, Bool.not_eq_true', Bool.not_eq_false', Bool.not_true, Bool.not_false, beq_true, beq_false, true_and, and_true, false_and, and_false, or_false, false_or, true_or, or_true, not_true_eq_false, not_false_eq_true, Bool.true_eq_false, Bool.false_eq_true] at *; first | done | omega) : swp P n (.cond c x y) Q f L := swp_cond_t hc hb h
theorem cf {c : Operand} {x y : Code} {b : Bool} (hc : ev f c = some (.bool b)) (h : swp P n y Q f L) (hb : b = false := by simp only [Option.isNone_some, Option.isNone_none, decide_eq_true_eq, decide_eq_false_iff_not, beq_iff_eq, bne_iff_ne, beq_eq_false_iff_ne, Bool.not_eq_true', Bool.not_eq_false', Bool.not_true, Bool.not_false, beq_true, beq_false, true_and, and_true, false_and, and_false, or_false, false_or, true_or, or_true, not_true_eq_false, not_false_eq_true, Bool.true_eq_false, Bool.false_eq_true] at *; first | done | omega) : swp P n (.cond c x y) Q f L := swp_cond_f hc hb h
theorem dy {i : Nat} (hi : ops[i]? = some ⟨some d, op, ty, pos, af, g⟩) (h9 : Nat.beq i 99999 = false) (hE : E.contains i = false) (h : drawS P n ops E cs A σ Q (listed.setIfInBounds i true) true (upd f d v) L)
    (hc : (cs.all fun m => m != i && (ops.toArray[m]?).isSome && reach ops.toArray 4 i m) = true := by kernel_rfl) (hy : YieldS P n ops ⟨some d, op, ty, pos, af, g⟩ f A v := by first | (first | (apply QY.mv; first | exact Y.mv rfl) | (apply QY.as_; first | exact Y.as rfl) | (apply QY.l1; first | exact Y.ld rfl rfl | exact Y.ldM rfl (by assumption) (by rfl) | exact Y.ldM0 rfl (by assumption) | exact Y.ldR rfl (by assumption) | exact Y.ldR rfl (RdC.sub (by assumption))) | (apply QY.fa; exact Y.fa rfl rfl (by decide)) | (apply QY.ia; first | exact Y.ia rfl rfl rfl (by omega) | exact Y.iaa rfl rfl rfl (by omega) | exact Y.iac rfl rfl (by first | omega | exact Nat.le_of_ble_eq_true rfl) | exact Y.iaac rfl rfl rfl) | (apply QY.eq; first | (apply Y.eqi; rfl; rfl) | (apply Y.eqp; rfl; rfl) | (apply Y.eqs; rfl; rfl) | (apply Y.eqB; rfl; rfl) | (apply Y.eqst; rfl; rfl)) | (apply QY.ne; first | (apply Y.nei; rfl; rfl) | (apply Y.nep; rfl; rfl) | (apply Y.nes; rfl; rfl) | (apply Y.neB; rfl; rfl) | (apply Y.nest; rfl; rfl)) | (apply QY.lt; exact Y.lss rfl rfl) | (apply QY.pk; first | (apply Y.pk_t; rfl; rfl) | (apply Y.pk_f; rfl; rfl) | exact Y.pk rfl rfl rfl) | (apply QY.nc; exact Y.nc rfl) | (apply QY.ln; first | exact Y.len rfl | exact Y.mlen rfl) | (apply QY.ex; exact Y.ext rfl rfl) | (apply QY.ad; exact Y.addi rfl rfl rfl (by omega) (by omega)) | (apply QY.lN; first | exact Y.ldN rfl (by repeat (first | exact nz | (apply cz; exact rfl) | exact rfl)) (by rfl) | exact Y.ldMN rfl (by assumption) (by rfl) | exact Y.ldRN rfl (by assumption) (by rfl) | exact Y.ldRN rfl (RdC.sub (by assumption)) (by rfl)) | (apply QY.no; exact Y.not rfl) | (apply QY.ge; exact Y.geq rfl rfl) | (apply QY.gt; exact Y.gtr rfl rfl) | (apply QY.le; exact Y.leq rfl rfl) | (apply QY.sb; exact Y.subi rfl rfl rfl (by omega) (by omega)) | (apply QY.mi; exact Y.min rfl rfl) | (apply QY.ma; exact Y.max rfl rfl) | (apply QY.bd; first | (apply Y.bd; rfl; rfl; rfl; exact (by repeat (first | exact nz | (apply cz; exact rfl) | exact rfl))) | (apply Y.bda; rfl; rfl; rfl; exact (by repeat (first | exact nz | (apply cz; exact rfl) | exact rfl))))) | exact Y.guard rfl (by first | (apply QY.mv; first | exact Y.mv rfl) | (apply QY.as_; first | exact Y.as rfl) | (apply QY.l1; first | exact Y.ld rfl rfl | exact Y.ldM rfl (by assumption) (by rfl) | exact Y.ldM0 rfl (by assumption) | exact Y.ldR rfl (by assumption) | exact Y.ldR rfl (RdC.sub (by assumption))) | (apply QY.fa; exact Y.fa rfl rfl (by decide)) | (apply QY.ia; first | exact Y.ia rfl rfl rfl (by omega) | exact Y.iaa rfl rfl rfl (by omega) | exact Y.iac rfl rfl (by first | omega | exact Nat.le_of_ble_eq_true rfl) | exact Y.iaac rfl rfl rfl) | (apply QY.eq; first | (apply Y.eqi; rfl; rfl) | (apply Y.eqp; rfl; rfl) | (apply Y.eqs; rfl; rfl) | (apply Y.eqB; rfl; rfl) | (apply Y.eqst; rfl; rfl)) | (apply QY.ne; first | (apply Y.nei; rfl; rfl) | (apply Y.nep; rfl; rfl) | (apply Y.nes; rfl; rfl) | (apply Y.neB; rfl; rfl) | (apply Y.nest; rfl; rfl)) | (apply QY.lt; exact Y.lss rfl rfl) | (apply QY.pk; first | (apply Y.pk_t; rfl; rfl) | (apply Y.pk_f; rfl; rfl) | exact Y.pk rfl rfl rfl) | (apply QY.nc; exact Y.nc rfl) | (apply QY.ln; first | exact Y.len rfl | exact Y.mlen rfl) | (apply QY.ex; exact Y.ext rfl rfl) | (apply QY.ad; exact Y.addi rfl rfl rfl (by omega) (by omega)) | (apply QY.lN; first | exact Y.ldN rfl (by repeat (first | exact nz | (apply cz; exact rfl) | exact rfl)) (by rfl) | exact Y.ldMN rfl (by assumption) (by rfl) | exact Y.ldRN rfl (by assumption) (by rfl) | exact Y.ldRN rfl (RdC.sub (by assumption)) (by rfl)) | (apply QY.no; exact Y.not rfl) | (apply QY.ge; exact Y.geq rfl rfl) | (apply QY.gt; exact Y.gtr rfl rfl) | (apply QY.le; exact Y.leq rfl rfl) | (apply QY.sb; exact Y.subi rfl rfl rfl (by omega) (by omega)) | (apply QY.mi; exact Y.min rfl rfl) | (apply QY.ma; exact Y.max rfl rfl) | (apply QY.bd; first | (apply Y.bd; rfl; rfl; rfl; exact (by repeat (first | exact nz | (apply cz; exact rfl) | exact rfl))) | (apply Y.bda; rfl; rfl; rfl; exact (by repeat (first | exact nz | (apply cz; exact rfl) | exact rfl)))))) : drawS P n ops E cs A (i :: σ) Q listed true f L := D.y hi h9 hE hc hy h
theorem dp {i : Nat} (hi : ops[i]? = some ⟨some d, op, ty, pos, af, g⟩) (h9 : Nat.beq i 99999 = false) (hE : E.contains i = false) (h : drawS P n ops E cs A σ Q (listed.setIfInBounds i true) held (upd f d v) L)
    (hy : YieldS P n ops ⟨some d, op, ty, pos, af, g⟩ f [] v := by first | (first | (apply QY.mv; first | exact Y.mv rfl) | (apply QY.as_; first | exact Y.as rfl) | (apply QY.l1; first | exact Y.ld rfl rfl | exact Y.ldM rfl (by assumption) (by rfl) | exact Y.ldM0 rfl (by assumption) | exact Y.ldR rfl (by assumption) | exact Y.ldR rfl (RdC.sub (by assumption))) | (apply QY.fa; exact Y.fa rfl rfl (by decide)) | (apply QY.ia; first | exact Y.ia rfl rfl rfl (by omega) | exact Y.iaa rfl rfl rfl (by omega) | exact Y.iac rfl rfl (by first | omega | exact Nat.le_of_ble_eq_true rfl) | exact Y.iaac rfl rfl rfl) | (apply QY.eq; first | (apply Y.eqi; rfl; rfl) | (apply Y.eqp; rfl; rfl) | (apply Y.eqs; rfl; rfl) | (apply Y.eqB; rfl; rfl) | (apply Y.eqst; rfl; rfl)) | (apply QY.ne; first | (apply Y.nei; rfl; rfl) | (apply Y.nep; rfl; rfl) | (apply Y.nes; rfl; rfl) | (apply Y.neB; rfl; rfl) | (apply Y.nest; rfl; rfl)) | (apply QY.lt; exact Y.lss rfl rfl) | (apply QY.pk; first | (apply Y.pk_t; rfl; rfl) | (apply Y.pk_f; rfl; rfl) | exact Y.pk rfl rfl rfl) | (apply QY.nc; exact Y.nc rfl) | (apply QY.ln; first | exact Y.len rfl | exact Y.mlen rfl) | (apply QY.ex; exact Y.ext rfl rfl) | (apply QY.ad; exact Y.addi rfl rfl rfl (by omega) (by omega)) | (apply QY.lN; first | exact Y.ldN rfl (by repeat (first | exact nz | (apply cz; exact rfl) | exact rfl)) (by rfl) | exact Y.ldMN rfl (by assumption) (by rfl) | exact Y.ldRN rfl (by assumption) (by rfl) | exact Y.ldRN rfl (RdC.sub (by assumption)) (by rfl)) | (apply QY.no; exact Y.not rfl) | (apply QY.ge; exact Y.geq rfl rfl) | (apply QY.gt; exact Y.gtr rfl rfl) | (apply QY.le; exact Y.leq rfl rfl) | (apply QY.sb; exact Y.subi rfl rfl rfl (by omega) (by omega)) | (apply QY.mi; exact Y.min rfl rfl) | (apply QY.ma; exact Y.max rfl rfl) | (apply QY.bd; first | (apply Y.bd; rfl; rfl; rfl; exact (by repeat (first | exact nz | (apply cz; exact rfl) | exact rfl))) | (apply Y.bda; rfl; rfl; rfl; exact (by repeat (first | exact nz | (apply cz; exact rfl) | exact rfl))))) | exact Y.gskip rfl | exact Y.gskipU rfl | exact Y.guard rfl (by first | (apply QY.mv; first | exact Y.mv rfl) | (apply QY.as_; first | exact Y.as rfl) | (apply QY.l1; first | exact Y.ld rfl rfl | exact Y.ldM rfl (by assumption) (by rfl) | exact Y.ldM0 rfl (by assumption) | exact Y.ldR rfl (by assumption) | exact Y.ldR rfl (RdC.sub (by assumption))) | (apply QY.fa; exact Y.fa rfl rfl (by decide)) | (apply QY.ia; first | exact Y.ia rfl rfl rfl (by omega) | exact Y.iaa rfl rfl rfl (by omega) | exact Y.iac rfl rfl (by first | omega | exact Nat.le_of_ble_eq_true rfl) | exact Y.iaac rfl rfl rfl) | (apply QY.eq; first | (apply Y.eqi; rfl; rfl) | (apply Y.eqp; rfl; rfl) | (apply Y.eqs; rfl; rfl) | (apply Y.eqB; rfl; rfl) | (apply Y.eqst; rfl; rfl)) | (apply QY.ne; first | (apply Y.nei; rfl; rfl) | (apply Y.nep; rfl; rfl) | (apply Y.nes; rfl; rfl) | (apply Y.neB; rfl; rfl) | (apply Y.nest; rfl; rfl)) | (apply QY.lt; exact Y.lss rfl rfl) | (apply QY.pk; first | (apply Y.pk_t; rfl; rfl) | (apply Y.pk_f; rfl; rfl) | exact Y.pk rfl rfl rfl) | (apply QY.nc; exact Y.nc rfl) | (apply QY.ln; first | exact Y.len rfl | exact Y.mlen rfl) | (apply QY.ex; exact Y.ext rfl rfl) | (apply QY.ad; exact Y.addi rfl rfl rfl (by omega) (by omega)) | (apply QY.lN; first | exact Y.ldN rfl (by repeat (first | exact nz | (apply cz; exact rfl) | exact rfl)) (by rfl) | exact Y.ldMN rfl (by assumption) (by rfl) | exact Y.ldRN rfl (by assumption) (by rfl) | exact Y.ldRN rfl (RdC.sub (by assumption)) (by rfl)) | (apply QY.no; exact Y.not rfl) | (apply QY.ge; exact Y.geq rfl rfl) | (apply QY.gt; exact Y.gtr rfl rfl) | (apply QY.le; exact Y.leq rfl rfl) | (apply QY.sb; exact Y.subi rfl rfl rfl (by omega) (by omega)) | (apply QY.mi; exact Y.min rfl rfl) | (apply QY.ma; exact Y.max rfl rfl) | (apply QY.bd; first | (apply Y.bd; rfl; rfl; rfl; exact (by repeat (first | exact nz | (apply cz; exact rfl) | exact rfl))) | (apply Y.bda; rfl; rfl; rfl; exact (by repeat (first | exact nz | (apply cz; exact rfl) | exact rfl)))))) : drawS P n ops E cs A (i :: σ) Q listed held f L := D.yp hi h9 hE hy h
theorem endH {L2 : List HP} (h : Q .normal f L2) (hL : A ++ L = L2 := by repeat (first | exact nz | (apply cz; exact rfl) | exact rfl)) : drawS P n ops E cs A [] Q listed true f L := D.endH hL h
theorem dT {i : Nat} {dd : Option Tmp} {g : Nat × Bool} {dg : Nat} {b : Bool} (hi : ops[i]? = some ⟨dd, op, ty, pos, af, some g⟩) (h0 : (ops[g.1]?).bind (·.dst) = some dg) (hd : f dg = some (.bool b))
    (ht : drawS P n ops E cs A (i :: σ) Q listed held (upd f dg (.bool true)) L) (hb : b = true := by simp only [Option.isNone_some, Option.isNone_none, decide_eq_true_eq, decide_eq_false_iff_not, beq_iff_eq, bne_iff_ne, beq_eq_false_iff_ne, Bool.not_eq_true', Bool.not_eq_false', Bool.not_true, Bool.not_false, beq_true, beq_false] at *; omega) : drawS P n ops E cs A (i :: σ) Q listed held f L := D.gT hi h0 hd hb ht
theorem dF {i : Nat} {dd : Option Tmp} {g : Nat × Bool} {dg : Nat} {b : Bool} (hi : ops[i]? = some ⟨dd, op, ty, pos, af, some g⟩) (h0 : (ops[g.1]?).bind (·.dst) = some dg) (hd : f dg = some (.bool b))
    (hf : drawS P n ops E cs A (i :: σ) Q listed held (upd f dg (.bool false)) L) (hb : b = false := by simp only [Option.isNone_some, Option.isNone_none, decide_eq_true_eq, decide_eq_false_iff_not, beq_iff_eq, bne_iff_ne, beq_eq_false_iff_ne, Bool.not_eq_true', Bool.not_eq_false', Bool.not_true, Bool.not_false, beq_true, beq_false] at *; omega) : drawS P n ops E cs A (i :: σ) Q listed held f L := D.gF hi h0 hd hb hf
theorem dgo {id : Nat} (mask : List Bool) (E cs σ : List Nat) {L1 : List HP} [hq : NoPanic Q] (h : drawS P n ops E cs A σ Q (Array.replicate ops.length false) true f L1) (hm : P.follows .mixedOrders = true := by rfl) (hs : Region.noSelect ops.toArray = true := by kernel_rfl) (hl : σ.length = ops.length := by rfl) (ho : ordOK ops.toArray E cs σ (Array.replicate ops.length false) = true := by kernel_rfl)
    (hA : maskA mask L = A := by repeat (first | apply mat | apply maf | exact man)) (hL : maskL mask L = L1 := by repeat (first | apply mlt | apply mlf | exact mln)) : swp P n (.region id ops.toArray true) Q f L := D.go mask E cs σ hm hs hl ho hq.no hA hL h
theorem dc {i : Nat} {o : Oper} {L2 : List HP} (hi : ops[i]? = some o) (h9 : Nat.beq i 99999 = false) (hE : E.contains i = true) (hc : cs.contains i = true)
    (h : opsS P n ops [o] (thenS (fun f L => drawS P n ops E cs A σ Q (listed.setIfInBounds i true) false f L) (fun _ _ _ => False)) f L2) (hL : A ++ L = L2 := by repeat (first | exact nz | (apply cz; exact rfl) | exact rfl)) : drawS P n ops E cs A (i :: σ) Q listed true f L := D.c hi h9 hE hc hL h
end
theorem go {A B : Prop} (hk : B) (h : B → A := by (intro hk; first | exact N.tn hk | exact N.tr hk | exact N.te hk | exact N.bn hk | exact N.br hk | exact N.be hk | exact N.bx rfl hk | exact swp_seq hk | exact swp_region hk | exact opsS_nil hk | exact swp_ret hk | exact swp_skip hk | exact swp_exit hk | exact swp_block hk | exact swp_cond_true rfl hk | exact swp_cond_false rfl hk)) : A := h hk
structure W (B : Prop) : Prop where
  x : B
theorem r {A B : Prop} (hk : B) (h : W B → A := by intro hk; (repeat (first | (refine GQ.y ?_; refine Q.y ?_) | refine Q.go ?_ | (refine GQ.g ?_; refine Q.gq ?_) | (refine GQ.s ?_; refine Q.st ?_) | (refine GQ.g ?_; refine Q.gd ?_) | refine Q.ct rfl ?_ | refine Q.cf rfl ?_)); (first | (refine GQ.a ?_; refine Q.al ?_; exact hk.x) | exact hk.x)) : A := h ⟨hk⟩
theorem rd {A B : Prop} (hk : B) (h : W B → A := by intro hk; (repeat (first | (refine opsS_nil ?_; refine N.tn ?_) | refine D.endA ?_ | refine Q.dy rfl rfl rfl ?_ | refine Q.dp rfl rfl rfl ?_ | refine D.end_ ?_ | refine Q.endH ?_ | (refine D.e rfl rfl rfl ?_; (first | refine S.gskip1 rfl ?_ | refine S.gskip rfl ?_ | refine S.y (Y.gskipU rfl) ?_); refine opsS_nil ?_; refine N.tn ?_) | refine Q.dT rfl rfl rfl ?_ | refine Q.dF rfl rfl rfl ?_ | (refine D.e rfl rfl rfl ?_; (refine GQ.s ?_; refine Q.st ?_); refine opsS_nil ?_; refine N.tn ?_))); (first | (refine D.e rfl rfl rfl ?_; refine GQ.a ?_; refine Q.al ?_; exact hk.x) | exact hk.x)) : A := h ⟨hk⟩
end Q
end Go.SX
