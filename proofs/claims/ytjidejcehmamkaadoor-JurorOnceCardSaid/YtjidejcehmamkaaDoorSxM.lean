/- A constant string turned into bytes: the row is marked. -/
import Derived.Test.YtjidejcehmamkaaDoorSxK
set_option linter.unusedVariables false
set_option linter.unusedSimpArgs false
namespace Go.SX
open Go
section
variable {P : Program} {n : Nat} {ops rest : List Oper} {Q : Post} {f : Env} {L : List HP}
variable {d : Tmp} {ty : TypeId} {pos : String} {af : Array Edge}
theorem freeze_heap {w : World} {b k : Nat} {t : TypeId} {cs : Array Value} (h : w.heap[b]? = some (.cells cs t (0, 0))) :
    (w.freeze ⟨b, k, none⟩ 1).heap[b]? = some (.cells cs t (k, k + 1)) ∧ ∀ j, j ≠ b → (w.freeze ⟨b, k, none⟩ 1).heap[j]? = w.heap[j]? := by
  constructor
  · simp [World.freeze, Array.getElem?_modify, h]
  · intro j hj
    simp [World.freeze, Array.getElem?_modify, Ne.symm hj]
theorem S.cvm {x : Operand} {t e t0 : TypeId} {b m c : Nat} {l : List Value} {L0 : List HP} [h : SlTy P t e] [h2 : IntTy P e .u8] (hx : ev f x = some (.slice (some ⟨b, 0, none⟩) m c)) [hf : FindB b L (cl l t0)] [hp : Pick (pt b (cl l t0)) L L0] (hl : l.length = m)
    (hk : ∀ M, SlM M (some ⟨b, 0, none⟩) m 1 l → opsS P n ops rest Q (upd f d (.slice (some ⟨b, 0, none⟩) m c)) (roM M :: L0)) :
    opsS P n ops (⟨some d, .convert t t x, ty, pos, af, none⟩ :: rest) Q f L := by
  refine opsS_value (R := fun v L' => v = .slice (some ⟨b, 0, none⟩) m c ∧ ∃ M, SlM M (some ⟨b, 0, none⟩) m 1 l ∧ L' = roM M :: L0) (fun F a w s t0' => ?_) (by rintro _ _ ⟨rfl, M, hM, rfl⟩; exact hk M hM)
  have hb := hf.at_ w F t0'
  have hfz := freeze_heap (k := l.length) hb
  have H1 := St.pt_write (w' := w.freeze ⟨b, l.length, none⟩ 1) (hp.ent w F t0') hfz.1 hfz.2
  have H2 := Ent.roM_one (L := L0) (w.freeze ⟨b, l.length, none⟩ 1) F H1
  refine ⟨_, w.freeze ⟨b, l.length, none⟩ 1, _, ?_, H2, rfl, _, ?_, rfl⟩
  · have hsh : w.shape? b = some (t0, l.length) := by
      unfold World.shape?; rw [hb]; simp [cl]
    simp [execOp, s.eval hx, convert, h.und, h2.und, markStringish, hsh]
  · exact ⟨by omega, .inr ⟨b, 0, l.toArray, t0, _, rfl, by simp [oneM]; rfl, fun j v e => by simpa using e⟩⟩
def wantU (ops : List Oper) (f : Env) (g : Nat × Bool) : Bool :=
  match (ops[g.1]?).bind (·.dst) with
  | some d => match f d with
    | some (.tuple _) => true
    | _ => false
  | none => false
theorem wanted_U {a : Act} {g : Nat × Bool} (s : Sim n a f) (h : wantU ops f g = true) (o : Oper) (ho : o.guard = some g) :
    Region.wanted o (yielded ops.toArray a.tmps) = false := by
  simp only [wantU] at h
  cases hd : (ops[g.1]?).bind (·.dst) with
  | none => rw [hd] at h; simp at h
  | some d =>
    rw [hd] at h
    simp only at h
    cases hf : f d with
    | none => rw [hf] at h; simp at h
    | some v =>
      rw [hf] at h
      cases v <;> simp at h
      have := s.at_ d _ hf
      have hy : yielded ops.toArray a.tmps g.1 = none := by
        rw [Array.getD_eq_getD_getElem?] at this
        cases h2 : a.tmps[d]? with
        | none => simp [yielded, hd, h2]
        | some u => rw [h2] at this; simp at this; simp [yielded, hd, h2, this]
      simp only [Region.wanted, ho]
      rw [hy]
      rfl
theorem Y.gskipU {A : List HP} {dd : Option Tmp} {op : Op} {g : Nat × Bool} (hg : wantU ops f g = true) : YieldS P n ops ⟨dd, op, ty, pos, af, some g⟩ f A undef := fun a s =>
  .inr ⟨wanted_U s hg ⟨dd, op, ty, pos, af, some g⟩ rfl, rfl⟩
theorem Y.eqB {A : List HP} {x y : Operand} {t t' : TypeId} [h : BoolTy P t] {a b : Bool} (hx : ev f x = some (.bool a)) (hy : ev f y = some (.bool b)) : YieldS P n ops ⟨some d, .binOp .eql t x y t', ty, pos, af, none⟩ f A (.bool (decide ((a = true ∧ b = true) ∨ (a = false ∧ b = false)))) := by
  have := Y.eqb (P := P) (n := n) (ops := ops) (d := d) (ty := ty) (pos := pos) (af := af) (A := A) (t := t) (t' := t') hx hy
  have e : (a == b) = decide ((a = true ∧ b = true) ∨ (a = false ∧ b = false)) := by cases a <;> cases b <;> rfl
  rwa [e] at this
theorem Y.neB {A : List HP} {x y : Operand} {t t' : TypeId} [h : BoolTy P t] {a b : Bool} (hx : ev f x = some (.bool a)) (hy : ev f y = some (.bool b)) : YieldS P n ops ⟨some d, .binOp .neq t x y t', ty, pos, af, none⟩ f A (.bool (!decide ((a = true ∧ b = true) ∨ (a = false ∧ b = false)))) := by
  have := Y.neb (P := P) (n := n) (ops := ops) (d := d) (ty := ty) (pos := pos) (af := af) (A := A) (t := t) (t' := t') hx hy
  have e : (a == b) = decide ((a = true ∧ b = true) ∨ (a = false ∧ b = false)) := by cases a <;> cases b <;> rfl
  rwa [e] at this
end
end Go.SX
