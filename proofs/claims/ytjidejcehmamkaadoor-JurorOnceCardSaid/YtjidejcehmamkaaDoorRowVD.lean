/- The readings of the vault's ops. No condition. -/
import Derived.Test.YtjidejcehmamkaaDoorVtI
import Derived.Test.YtjidejcehmamkaaDoorSxV
import Derived.Test.YtjidejcehmamkaaDoorRows
import Derived.WalkKit
import Derived.ProofKit
import Derived.OpenShut
import Derived.DataShut
import Derived.Test.YtjidejcehmamkaaDoorVtV
set_option linter.unusedVariables false
set_option linter.unusedSimpArgs false
namespace Go.Proofs.YtjidejcehmamkaaDoor
open Go Go.SX Go.ChangeShapes Go.WideShapes Go.ChangeAt Go.RowKit
theorem own : ownKnob Tryd.prog.godebug = none := by kernel_rfl
theorem Rd.i32 {H : Type} {enc : TypeId × Value → H} {W : World} {cs : List Value} (h : Rd enc Tryd.prog W 21 cs) : ∃ z, cs = cI z ∧ True := by
  obtain ⟨z, hz, _⟩ := Rd.int h Tryd.underlying21
  exact ⟨z, hz, trivial⟩
theorem u64_wf {n : Int} (h : (Lit.int .u64 n).wf = true) : 0 ≤ n ∧ n ≤ 18446744073709551615 := by
  have := (Lit.wf_int_iff .u64 n).1 h
  have e1 : IntKind.u64.min = 0 := by decide
  have e2 : IntKind.u64.max = 18446744073709551615 := by decide
  rw [e1, e2] at this; exact this
theorem Rd.u64 {H : Type} {enc : TypeId × Value → H} {W : World} {cs : List Value} (h : Rd enc Tryd.prog W 30 cs) : ∃ z, cs = cU z ∧ (0 ≤ z ∧ z ≤ 18446744073709551615) := by
  obtain ⟨z, hz, hw⟩ := Rd.int h Tryd.underlying30
  exact ⟨z, hz, u64_wf hw⟩
theorem Rd.vec {H : Type} {enc : TypeId × Value → H} {W : World} {cs : List Value} (h : Rd enc Tryd.prog W 33 cs) : ∃ (a : Option Addr) (c : Nat) (xs : List Int), cs = [.slice a xs.length c] ∧ xs.length ≤ c ∧ xs.length ≤ 9223372036854775807 ∧ SlM (all0 W) a xs.length 1 (xs.map I32) := by
  obtain ⟨a, c, ls, h1, h1c, h1m, h1s, h1q⟩ := Rd.list (fun r hr => Rd.i32 hr) h (sz := 1) Tryd.underlying33 (by kernel_rfl) (by decide)
  have hmx : maxLen = 9223372036854775807 := by decide
  rw [hmx] at h1m
  have hmm : ls.length ≤ 9223372036854775807 := Nat.le_trans h1c h1m
  rw [flat_I] at h1s
  exact ⟨a, c, ls, h1, h1c, hmm, h1s⟩
set_option maxRecDepth 100000 in
theorem Rd.op {H : Type} {enc : TypeId × Value → H} {W : World} {cs : List Value} (h : Rd enc Tryd.prog W 73 cs) : ∃ o : OV, cs = o.cells ∧ (SlM (all0 W) o.a o.vec.length 1 (o.vec.map I32) ∧ o.vec.length ≤ o.c ∧ o.vec.length ≤ 9223372036854775807 ∧ 0 ≤ o.id ∧ o.id ≤ 18446744073709551615) := by
  obtain ⟨hl, hf⟩ := h.fields Tryd.underlying73
  obtain ⟨x, h0, hx⟩ := Rd.u64 (hf 0 _ rfl)
  obtain ⟨a, c, xs, h1, h2, h3, h4⟩ := Rd.vec (hf 1 _ rfl)
  have hl' : cs.length = 2 := hl.trans (by kernel_rfl)
  match cs, hl' with
  | [u, v], _ =>
    have h0' : [u] = [Value.int .u64 x] := h0
    have h1' : [v] = [Value.slice a xs.length c] := h1
    simp only [List.cons.injEq, and_true] at h0' h1'
    subst h0' h1'
    exact ⟨⟨x, a, c, xs⟩, rfl, h4, h2, h3, hx⟩
end Go.Proofs.YtjidejcehmamkaaDoor
/- The readings of the vault's steps. No condition. -/
namespace Go.Proofs.YtjidejcehmamkaaDoor
open Go Go.SX Go.ChangeShapes Go.WideShapes Go.ChangeAt Go.RowKit
def QOps (W : World) (a : Option Addr) (ops : List OV) : Prop := (SlM (all0 W) a ops.length 2 (ops.flatMap OV.cells) ∧ okR (all0 W) ops) ∧ (∀ u ∈ ops, u.vec.length ≤ u.c) ∧ ops.length ≤ 9223372036854775807
theorem Rd.u8 {H : Type} {enc : TypeId × Value → H} {W : World} {cs : List Value} (h : Rd enc Tryd.prog W 5 cs) : ∃ z, cs = [Value.int .u8 z] := by
  obtain ⟨z, hz, _⟩ := Rd.int h Tryd.underlying5
  exact ⟨z, hz⟩
theorem Rd.ops {H : Type} {enc : TypeId × Value → H} {W : World} {cs : List Value} (h : Rd enc Tryd.prog W 32 cs) : ∃ (a : Option Addr) (c : Nat) (ops : List OV), cs = [.slice a ops.length c] ∧ QOps W a ops := by
  obtain ⟨a, c, ls, h1, h1c, h1m, h1s, h1q⟩ := Rd.list (fun r hr => Rd.op hr) h (sz := 2) Tryd.underlying32 (by kernel_rfl) (by decide)
  have hmx : maxLen = 9223372036854775807 := by decide
  rw [hmx] at h1m
  exact ⟨a, c, ls, h1, ⟨h1s, fun u hu => (h1q u hu).1⟩, fun u hu => (h1q u hu).2.1, Nat.le_trans h1c h1m⟩
end Go.Proofs.YtjidejcehmamkaaDoor
