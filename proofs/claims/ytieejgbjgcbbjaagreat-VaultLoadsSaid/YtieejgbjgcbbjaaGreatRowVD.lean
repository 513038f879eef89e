/- The readings of the vault's ops. No condition. -/
import Derived.Test.YtieejgbjgcbbjaaGreatVtI
import Derived.Test.YtieejgbjgcbbjaaGreatSxV
import Derived.Test.YtieejgbjgcbbjaaGreatRows
import Derived.WalkKit
import Derived.ProofKit
import Derived.OpenShut
import Derived.DataShut
import Derived.Test.YtieejgbjgcbbjaaGreatVtV
set_option linter.unusedVariables false
set_option linter.unusedSimpArgs false
namespace Go.Proofs.YtieejgbjgcbbjaaGreat
open Go Go.SX Go.ChangeShapes Go.WideShapes Go.ChangeAt Go.RowKit
theorem own : ownKnob Tryz.prog.godebug = none := by kernel_rfl
theorem Rd.i32 {H : Type} {enc : TypeId × Value → H} {W : World} {cs : List Value} (h : Rd enc Tryz.prog W 21 cs) : ∃ z, cs = cI z ∧ True := by
  obtain ⟨z, hz, _⟩ := Rd.int h Tryz.underlying21
  exact ⟨z, hz, trivial⟩
theorem u64_wf {n : Int} (h : (Lit.int .u64 n).wf = true) : 0 ≤ n ∧ n ≤ 18446744073709551615 := by
  have := (Lit.wf_int_iff .u64 n).1 h
  have e1 : IntKind.u64.min = 0 := by decide
  have e2 : IntKind.u64.max = 18446744073709551615 := by decide
  rw [e1, e2] at this; exact this
theorem Rd.u64 {H : Type} {enc : TypeId × Value → H} {W : World} {cs : List Value} (h : Rd enc Tryz.prog W 22 cs) : ∃ z, cs = cU z ∧ (0 ≤ z ∧ z ≤ 18446744073709551615) := by
  obtain ⟨z, hz, hw⟩ := Rd.int h Tryz.underlying22
  exact ⟨z, hz, u64_wf hw⟩
theorem Rd.vec {H : Type} {enc : TypeId × Value → H} {W : World} {cs : List Value} (h : Rd enc Tryz.prog W 41 cs) : ∃ (a : Option Addr) (c : Nat) (xs : List Int), cs = [.slice a xs.length c] ∧ xs.length ≤ c ∧ xs.length ≤ 9223372036854775807 ∧ SlM (all0 W) a xs.length 1 (xs.map I32) := by
  obtain ⟨a, c, ls, h1, h1c, h1m, h1s, h1q⟩ := Rd.list (fun r hr => Rd.i32 hr) h (sz := 1) Tryz.underlying41 (by kernel_rfl) (by decide)
  have hmx : maxLen = 9223372036854775807 := by decide
  rw [hmx] at h1m
  have hmm : ls.length ≤ 9223372036854775807 := Nat.le_trans h1c h1m
  rw [flat_I] at h1s
  exact ⟨a, c, ls, h1, h1c, hmm, h1s⟩
set_option maxRecDepth 100000 in
theorem Rd.op {H : Type} {enc : TypeId × Value → H} {W : World} {cs : List Value} (h : Rd enc Tryz.prog W 64 cs) : ∃ o : OV, cs = o.cells ∧ (SlM (all0 W) o.a o.vec.length 1 (o.vec.map I32) ∧ o.vec.length ≤ o.c ∧ o.vec.length ≤ 9223372036854775807 ∧ 0 ≤ o.id ∧ o.id ≤ 18446744073709551615) := by
  obtain ⟨hl, hf⟩ := h.fields Tryz.underlying64
  obtain ⟨x, h0, hx⟩ := Rd.u64 (hf 0 _ rfl)
  obtain ⟨a, c, xs, h1, h2, h3, h4⟩ := Rd.vec (hf 1 _ rfl)
  have hl' : cs.length = 2 := hl.trans (by kernel_rfl)
  match cs, hl' with
  | [u, v], _ =>
    have h0' : [u] = [Value.int .u64 x] := h0
    have h1' : [v] = [Value.slice a xs.length c] := h1
    simp only [List.cons.injEq, and_true] at h0' h1'
    subst h0' h1'
    exact ⟨⟨x, a, c, xs⟩, rfl, h4, h2, h3, hx⟩
end Go.Proofs.YtieejgbjgcbbjaaGreat
/- The readings of the vault's steps. No condition. -/
namespace Go.Proofs.YtieejgbjgcbbjaaGreat
open Go Go.SX Go.ChangeShapes Go.WideShapes Go.ChangeAt Go.RowKit
def QOps (W : World) (a : Option Addr) (ops : List OV) : Prop := (SlM (all0 W) a ops.length 2 (ops.flatMap OV.cells) ∧ okR (all0 W) ops) ∧ (∀ u ∈ ops, u.vec.length ≤ u.c) ∧ ops.length ≤ 9223372036854775807
theorem Rd.u8 {H : Type} {enc : TypeId × Value → H} {W : World} {cs : List Value} (h : Rd enc Tryz.prog W 5 cs) : ∃ z, cs = [Value.int .u8 z] := by
  obtain ⟨z, hz, _⟩ := Rd.int h Tryz.underlying5
  exact ⟨z, hz⟩
theorem Rd.ops {H : Type} {enc : TypeId × Value → H} {W : World} {cs : List Value} (h : Rd enc Tryz.prog W 48 cs) : ∃ (a : Option Addr) (c : Nat) (ops : List OV), cs = [.slice a ops.length c] ∧ QOps W a ops := by
  obtain ⟨a, c, ls, h1, h1c, h1m, h1s, h1q⟩ := Rd.list (fun r hr => Rd.op hr) h (sz := 2) Tryz.underlying48 (by kernel_rfl) (by decide)
  have hmx : maxLen = 9223372036854775807 := by decide
  rw [hmx] at h1m
  exact ⟨a, c, ls, h1, ⟨h1s, fun u hu => (h1q u hu).1⟩, fun u hu => (h1q u hu).2.1, Nat.le_trans h1c h1m⟩
set_option maxRecDepth 100000 in
theorem Rd.intent {H : Type} {enc : TypeId × Value → H} {W : World} {cs : List Value} (h : Rd enc Tryz.prog W 50 cs) : ∃ (t af : Int) (a : Option Addr) (c : Nat) (ops : List OV), cs = [.int .u64 t, .int .u64 af, .slice a ops.length c] ∧ QOps W a ops := by
  obtain ⟨hl, hf⟩ := h.fields Tryz.underlying50
  obtain ⟨x, h0, _⟩ := Rd.u64 (hf 0 _ rfl)
  obtain ⟨y, h1, _⟩ := Rd.u64 (hf 1 _ rfl)
  obtain ⟨a, c, ops, h2, h3⟩ := Rd.ops (hf 2 _ rfl)
  have hl' : cs.length = 3 := hl.trans (by kernel_rfl)
  match cs, hl' with
  | [u, v, w], _ =>
    have h0' : [u] = [Value.int .u64 x] := h0
    have h1' : [v] = [Value.int .u64 y] := h1
    have h2' : [w] = [Value.slice a ops.length c] := h2
    simp only [List.cons.injEq, and_true] at h0' h1' h2'
    subst h0' h1' h2'
    exact ⟨x, y, a, c, ops, rfl, h3⟩
theorem Rd.ids {H : Type} {enc : TypeId × Value → H} {W : World} {cs : List Value} (h : Rd enc Tryz.prog W 51 cs) : ∃ (a : Option Addr) (c : Nat) (xs : List Int), cs = [.slice a xs.length c] ∧ SlM (all0 W) a xs.length 1 (xs.map U64) := by
  obtain ⟨a, c, ls, h1, h1c, h1m, h1s, h1q⟩ := Rd.list (fun r hr => Rd.u64 hr) h (sz := 1) Tryz.underlying51 (by kernel_rfl) (by decide)
  rw [flat_U] at h1s
  exact ⟨a, c, ls, h1, h1s⟩
set_option maxRecDepth 100000 in
theorem Rd.dv {H : Type} {enc : TypeId × Value → H} {W : World} {cs : List Value} (h : Rd enc Tryz.prog W 53 cs) : ∃ o : DV, cs = o.cells ∧ (QOps W o.a o.ops ∧ 0 ≤ o.stamp) := by
  obtain ⟨hl, hf⟩ := h.fields Tryz.underlying53
  obtain ⟨x, h0⟩ := Rd.u8 (hf 0 _ rfl)
  obtain ⟨t, af, a, c, ops, h1, h1q⟩ := Rd.intent (hf 1 _ rfl)
  obtain ⟨s, h2, hs⟩ := Rd.u64 (hf 2 _ rfl)
  obtain ⟨k, h3, _⟩ := Rd.u64 (hf 3 _ rfl)
  obtain ⟨i, h4, _⟩ := Rd.u64 (hf 4 _ rfl)
  obtain ⟨ia, ic, ids, h5, _⟩ := Rd.ids (hf 5 _ rfl)
  have hl' : cs.length = 8 := hl.trans (by kernel_rfl)
  match cs, hl' with
  | [u0, u1, u2, u3, u4, u5, u6, u7], _ =>
    have h0' : [u0] = [Value.int .u8 x] := h0
    have h1' : [u1, u2, u3] = [Value.int .u64 t, Value.int .u64 af, Value.slice a ops.length c] := h1
    have h2' : [u4] = [Value.int .u64 s] := h2
    have h3' : [u5] = [Value.int .u64 k] := h3
    have h4' : [u6] = [Value.int .u64 i] := h4
    have h5' : [u7] = [Value.slice ia ids.length ic] := h5
    simp only [List.cons.injEq, and_true] at h0' h1' h2' h3' h4' h5'
    obtain ⟨e1, e2, e3⟩ := h1'
    subst h0' e1 e2 e3 h2' h3' h4' h5'
    exact ⟨⟨x, t, af, a, c, ops, s, k, i, ia, ic, ids⟩, rfl, h1q, hs.1⟩
end Go.Proofs.YtieejgbjgcbbjaaGreat
