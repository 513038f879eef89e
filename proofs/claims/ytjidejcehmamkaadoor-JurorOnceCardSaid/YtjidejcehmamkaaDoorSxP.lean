/- Arrays of numbers in an owned block. No condition. -/
import Derived.Test.YtjidejcehmamkaaDoorSxL
import Derived.Sort.Defs
set_option linter.unusedVariables false
set_option linter.unusedSimpArgs false
namespace Go.SX
open Go
def ar (k : IntKind) (d : Array Int) (rest : List Value) : List Value := d.toList.map (Value.int k) ++ rest
theorem ar_len {k : IntKind} {d : Array Int} {rest : List Value} : (ar k d rest).length = d.size + rest.length := by simp [ar]
theorem ar_get {k : IntKind} {d : Array Int} {rest : List Value} {i : Nat} (h : i < d.size) : (ar k d rest)[i]? = some (.int k d[i]!) := by
  unfold ar
  rw [List.getElem?_append_left (by simpa using h)]
  simp [h]
theorem ar_set {k : IntKind} {d : Array Int} {rest : List Value} {i : Nat} {v : Int} (h : i < d.size) : (ar k d rest).set i (.int k v) = ar k (d.setIfInBounds i v) rest := by
  unfold ar
  rw [List.set_append_left _ _ (by simpa using h)]
  simp
section
variable {P : Program} {n : Nat} {ops rest : List Oper} {Q : Post} {f : Env} {A L : List HP} {d : Tmp} {ty : TypeId} {pos : String} {af : Array Edge}
/-! Indices as natural numbers. -/
theorem Y.addN {x y : Operand} {t t' : TypeId} {a b : Nat} (hx : ev f x = some (.int .i64 (Int.ofNat a))) (hy : ev f y = some (.int .i64 (Int.ofNat b))) (h : a + b ≤ 9223372036854775807) : YieldS P n ops ⟨some d, .binOp .add t x y t', ty, pos, af, none⟩ f A (.int .i64 ((a + b : Nat) : Int)) :=
  Y.addi hx hy rfl (by omega) (by omega)
theorem Y.subN {x y : Operand} {t t' : TypeId} {a b : Nat} (hx : ev f x = some (.int .i64 (Int.ofNat a))) (hy : ev f y = some (.int .i64 (Int.ofNat b))) (h : b ≤ a ∧ a ≤ 9223372036854775807) : YieldS P n ops ⟨some d, .binOp .sub t x y t', ty, pos, af, none⟩ f A (.int .i64 ((a - b : Nat) : Int)) :=
  Y.subi hx hy (by have := h.1; show (a : Int) - (b : Int) = _; omega) (by omega) (by omega)
theorem Y.mulN {x y : Operand} {t t' : TypeId} {a b : Nat} (hx : ev f x = some (.int .i64 (Int.ofNat a))) (hy : ev f y = some (.int .i64 (Int.ofNat b))) (h : a * b ≤ 9223372036854775807) : YieldS P n ops ⟨some d, .binOp .mul t x y t', ty, pos, af, none⟩ f A (.int .i64 ((a * b : Nat) : Int)) := by
  have := Y.mul (P := P) (n := n) (ops := ops) (A := A) (d := d) (ty := ty) (pos := pos) (af := af) (t := t) (t' := t') hx hy
  have e : (Int.ofNat a) * (Int.ofNat b) = ((a * b : Nat) : Int) := rfl
  rwa [e, wrap_i64 (by omega) (by omega)] at this
theorem Y.quoN {x y : Operand} {t t' : TypeId} {a b : Nat} (hx : ev f x = some (.int .i64 (Int.ofNat a))) (hy : ev f y = some (.int .i64 (Int.ofNat b))) (h : 0 < b ∧ a ≤ 9223372036854775807) : YieldS P n ops ⟨some d, .binOp .quo t x y t', ty, pos, af, none⟩ f A (.int .i64 ((a / b : Nat) : Int)) := by
  have := Y.quo (P := P) (n := n) (ops := ops) (A := A) (d := d) (ty := ty) (pos := pos) (af := af) (t := t) (t' := t') hx hy (by have := h.1; show ¬ (b : Int) = 0; omega)
  have e : (Int.ofNat a).tdiv (Int.ofNat b) = ((a / b : Nat) : Int) := rfl
  have h2 : a / b ≤ a := Nat.div_le_self ..
  have h3 := h.2
  rwa [e, wrap_i64 (by generalize a / b = q at *; omega) (by generalize a / b = q at *; omega)] at this
/-! A constant on the right, or on the left. -/
theorem Y.addC {x y : Operand} {t t' : TypeId} {a b : Nat} (hx : ev f x = some (.int .i64 (Int.ofNat a))) (hy : ev f y = some (.int .i64 (@OfNat.ofNat Int b instOfNat))) (h : a + (@OfNat.ofNat Nat b (instOfNatNat b)) ≤ 9223372036854775807) : YieldS P n ops ⟨some d, .binOp .add t x y t', ty, pos, af, none⟩ f A (.int .i64 ((a + (@OfNat.ofNat Nat b (instOfNatNat b)) : Nat) : Int)) := Y.addN (b := b) hx hy h
theorem Y.subC {x y : Operand} {t t' : TypeId} {a b : Nat} (hx : ev f x = some (.int .i64 (Int.ofNat a))) (hy : ev f y = some (.int .i64 (@OfNat.ofNat Int b instOfNat))) (h : (@OfNat.ofNat Nat b (instOfNatNat b)) ≤ a ∧ a ≤ 9223372036854775807) : YieldS P n ops ⟨some d, .binOp .sub t x y t', ty, pos, af, none⟩ f A (.int .i64 ((a - (@OfNat.ofNat Nat b (instOfNatNat b)) : Nat) : Int)) := Y.subN (b := b) hx hy h
theorem Y.mulC {x y : Operand} {t t' : TypeId} {a b : Nat} (hx : ev f x = some (.int .i64 (Int.ofNat a))) (hy : ev f y = some (.int .i64 (@OfNat.ofNat Int b instOfNat))) (h : a * (@OfNat.ofNat Nat b (instOfNatNat b)) ≤ 9223372036854775807) : YieldS P n ops ⟨some d, .binOp .mul t x y t', ty, pos, af, none⟩ f A (.int .i64 ((a * (@OfNat.ofNat Nat b (instOfNatNat b)) : Nat) : Int)) := Y.mulN (b := b) hx hy h
theorem Y.mulD {x y : Operand} {t t' : TypeId} {a b : Nat} (hx : ev f x = some (.int .i64 (@OfNat.ofNat Int b instOfNat))) (hy : ev f y = some (.int .i64 (Int.ofNat a))) (h : (@OfNat.ofNat Nat b (instOfNatNat b)) * a ≤ 9223372036854775807) : YieldS P n ops ⟨some d, .binOp .mul t x y t', ty, pos, af, none⟩ f A (.int .i64 (((@OfNat.ofNat Nat b (instOfNatNat b)) * a : Nat) : Int)) := Y.mulN (a := b) (b := a) hx hy h
theorem Y.quoC {x y : Operand} {t t' : TypeId} {a b : Nat} (hx : ev f x = some (.int .i64 (Int.ofNat a))) (hy : ev f y = some (.int .i64 (@OfNat.ofNat Int b instOfNat))) (h : 0 < (@OfNat.ofNat Nat b (instOfNatNat b)) ∧ a ≤ 9223372036854775807) : YieldS P n ops ⟨some d, .binOp .quo t x y t', ty, pos, af, none⟩ f A (.int .i64 ((a / (@OfNat.ofNat Nat b (instOfNatNat b)) : Nat) : Int)) := Y.quoN (b := b) hx hy h
theorem Y.iaN {x y : Operand} {t e : TypeId} {b o m c sz bts k : Nat} {ag : Bool} {zs : List Value} {kk : IntKind} [h : SlTy P t e] [h2 : Ty P e ag sz zs bts] (hx : ev f x = some (.slice (some ⟨b, o, none⟩) m c)) (hy : ev f y = some (.int kk (Int.ofNat k))) (h1 : k < m) :
    YieldS P n ops ⟨some d, .indexAddr t x y, ty, pos, af, none⟩ f A (.pointer (some ⟨b, o + k * sz, none⟩)) := Y.ia hx hy rfl h1
theorem Y.ldI {x : Operand} {t t0 sz bts : Nat} {zs : List Value} {b z : Nat} {k : IntKind} {dd : Array Int} {rs : List Value} [h : Ty P t false sz zs bts] [hb : FindB b A (cl (ar k dd rs) t0)] (hx : ev f x = some (.pointer (some ⟨b, 0 + z * 1, none⟩))) (hz : z < dd.size) :
    YieldS P n ops ⟨some d, .load t x, ty, pos, af, none⟩ f A (.int k dd[z]!) := Y.ld (h := h) (hb := hb) hx (by rw [Nat.zero_add, Nat.mul_one]; exact ar_get hz)
theorem S.stI {x y : Operand} {t t0 bts : Nat} {ag : Bool} {zs : List Value} {b z : Nat} {v : Int} {k : IntKind} {dd : Array Int} {rs : List Value} {L' : Obj → List HP} [h : Ty P t ag 1 zs bts] [hb : UpdB b L (cl (ar k dd rs) t0) L']
    (hx : ev f x = some (.pointer (some ⟨b, 0 + z * 1, none⟩))) (hy : ev f y = some (.int k v)) (hz : z < dd.size)
    (hk : opsS P n ops rest Q f (L' (cl (ar k (dd.setIfInBounds z v) rs) t0))) : opsS P n ops (⟨none, .store t x y, ty, pos, af, none⟩ :: rest) Q f L :=
  S.st1 (h := h) (hb := hb) hx hy rfl (Nat.ble_eq_true_of_le (by rw [ar_len]; omega)) (by rw [Nat.zero_add, Nat.mul_one]; exact ar_set hz) hk
end
theorem set2 {d : Array Int} {i j : Nat} (hi : i < d.size) (hj : j < d.size) : (d.setIfInBounds i d[j]!).setIfInBounds j d[i]! = Sort.swp d i j := rfl
theorem swp_size {d : Array Int} {i j : Nat} : (Sort.swp d i j).size = d.size := by simp [Sort.swp]
section
variable {P : Program} {n : Nat} {ops rest : List Oper} {Q : Post} {f : Env} {A L : List HP} {E cs σ : List Nat} {listed : Array Bool} {held : Bool}
variable {d : Tmp} {op : Op} {ty : TypeId} {pos : String} {af : Array Edge} {g : Option (Nat × Bool)} {v : Value}
theorem Q.yn (hk : opsS P n ops rest Q (upd f d v) L) (hy : YieldS P n ops ⟨some d, op, ty, pos, af, g⟩ f L v := by first | exact Y.addN rfl rfl (by omega) | exact Y.addC rfl rfl (by omega) | exact Y.subN rfl rfl (by omega) | exact Y.subC rfl rfl (by omega) | exact Y.iaN rfl rfl (by omega) | exact Y.mulC rfl rfl (by omega) | exact Y.mulD rfl rfl (by omega) | exact Y.quoC rfl rfl (by omega) | exact Y.ldI rfl (by omega)) : opsS P n ops (⟨some d, op, ty, pos, af, g⟩ :: rest) Q f L := S.y hy hk
theorem Q.dyn {i : Nat} (hi : ops[i]? = some ⟨some d, op, ty, pos, af, g⟩) (h9 : Nat.beq i 99999 = false) (hE : E.contains i = false) (h : drawS P n ops E cs A σ Q (listed.setIfInBounds i true) held (upd f d v) L)
    (hy : YieldS P n ops ⟨some d, op, ty, pos, af, g⟩ f [] v := by first | exact Y.addN rfl rfl (by omega) | exact Y.addC rfl rfl (by omega) | exact Y.subN rfl rfl (by omega) | exact Y.subC rfl rfl (by omega) | exact Y.iaN rfl rfl (by omega) | exact Y.mulC rfl rfl (by omega) | exact Y.mulD rfl rfl (by omega) | exact Y.quoC rfl rfl (by omega) | exact Y.guard rfl (by first | exact Y.addN rfl rfl (by omega) | exact Y.addC rfl rfl (by omega) | exact Y.subN rfl rfl (by omega) | exact Y.subC rfl rfl (by omega) | exact Y.iaN rfl rfl (by omega) | exact Y.mulC rfl rfl (by omega) | exact Y.mulD rfl rfl (by omega) | exact Y.quoC rfl rfl (by omega))) : drawS P n ops E cs A (i :: σ) Q listed held f L := D.yp hi h9 hE hy h
theorem Q.dyl {i : Nat} (hi : ops[i]? = some ⟨some d, op, ty, pos, af, g⟩) (h9 : Nat.beq i 99999 = false) (hE : E.contains i = false) (h : drawS P n ops E cs A σ Q (listed.setIfInBounds i true) true (upd f d v) L)
    (hc : (cs.all fun m => m != i && (ops.toArray[m]?).isSome && reach ops.toArray 4 i m) = true := by kernel_rfl) (hy : YieldS P n ops ⟨some d, op, ty, pos, af, g⟩ f A v := by first | exact Y.ldI rfl (by omega) | exact Y.guard rfl (Y.ldI rfl (by omega))) : drawS P n ops E cs A (i :: σ) Q listed true f L := D.y hi h9 hE hc hy h
end
namespace Q
theorem rn {A B : Prop} (hk : B) (h : W B → A := by intro hk; (repeat (first | refine Q.yn ?_ | refine S.stI rfl rfl (by first | omega | (rw [Array.size_setIfInBounds]; omega)) ?_ | (refine GQ.y ?_; refine Q.y ?_) | refine Q.go ?_ | (refine GQ.g ?_; refine Q.gq ?_) | (refine GQ.s ?_; refine Q.st ?_) | (refine GQ.g ?_; refine Q.gd ?_) | refine Q.ct rfl ?_ | refine Q.cf rfl ?_)); (first | (refine GQ.a ?_; refine Q.al ?_; exact hk.x) | exact hk.x)) : A := h ⟨hk⟩
theorem rdn {A B : Prop} (hk : B) (h : W B → A := by intro hk; (repeat (first | (refine opsS_nil ?_; refine N.tn ?_) | refine Q.dyn rfl rfl rfl ?_ | refine Q.dyl rfl rfl rfl ?_ | refine D.endA ?_ | refine Q.dp rfl rfl rfl ?_ | refine Q.dy rfl rfl rfl ?_ | refine D.end_ ?_ | refine Q.endH ?_ | (refine D.e rfl rfl rfl ?_; (first | refine S.gskip1 rfl ?_ | refine S.gskip rfl ?_ | refine S.y (Y.gskipU rfl) ?_); refine opsS_nil ?_; refine N.tn ?_) | refine Q.dT rfl rfl rfl ?_ | refine Q.dF rfl rfl rfl ?_ | (refine D.e rfl rfl rfl ?_; (refine GQ.s ?_; refine Q.st ?_); refine opsS_nil ?_; refine N.tn ?_))); (first | (refine D.e rfl rfl rfl ?_; refine GQ.a ?_; refine Q.al ?_; exact hk.x) | exact hk.x)) : A := h ⟨hk⟩
end Q
end Go.SX
