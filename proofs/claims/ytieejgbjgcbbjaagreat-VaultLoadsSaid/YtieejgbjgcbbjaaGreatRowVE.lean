/- The readings of the vault's steps, with what is asked. No condition. -/
import Derived.Test.YtieejgbjgcbbjaaGreatAskF
import Derived.Test.YtieejgbjgcbbjaaGreatRowVD
set_option linter.unusedVariables false
set_option linter.unusedSimpArgs false
namespace Go.Proofs.YtieejgbjgcbbjaaGreat
open Go Go.SX Go.ChangeShapes Go.WideShapes Go.ChangeAt Go.RowKit
theorem Rd.ids2 {H : Type} {enc : TypeId × Value → H} {W : World} {cs : List Value} (h : Rd enc Tryz.prog W 51 cs) : ∃ (a : Option Addr) (c : Nat) (xs : List Int), cs = [.slice a xs.length c] ∧ SlM (all0 W) a xs.length 1 (xs.map U64) ∧ xs.length ≤ c ∧ xs.length ≤ 9223372036854775807 := by
  obtain ⟨a, c, ls, h1, h1c, h1m, h1s, h1q⟩ := Rd.list (fun r hr => Rd.u64 hr) h (sz := 1) Tryz.underlying51 (by kernel_rfl) (by decide)
  have hmx : maxLen = 9223372036854775807 := by decide
  rw [hmx] at h1m
  rw [flat_U] at h1s
  exact ⟨a, c, ls, h1, h1s, h1c, Nat.le_trans h1c h1m⟩
set_option maxRecDepth 100000 in
theorem Rd.dv2 {H : Type} {enc : TypeId × Value → H} {W : World} {cs : List Value} (h : Rd enc Tryz.prog W 53 cs) : ∃ o : DV, cs = o.cells ∧ DOK (all0 W) o := by
  obtain ⟨hl, hf⟩ := h.fields Tryz.underlying53
  obtain ⟨x, h0⟩ := Rd.u8 (hf 0 _ rfl)
  obtain ⟨t, af, a, c, ops, h1, h1q⟩ := Rd.intent (hf 1 _ rfl)
  obtain ⟨s, h2, hs⟩ := Rd.u64 (hf 2 _ rfl)
  obtain ⟨k, h3, _⟩ := Rd.u64 (hf 3 _ rfl)
  obtain ⟨i, h4, _⟩ := Rd.u64 (hf 4 _ rfl)
  obtain ⟨ia, ic, ids, h5, i1, i2, i3⟩ := Rd.ids2 (hf 5 _ rfl)
  have hl' : cs.length = 8 := hl.trans (by kernel_rfl)
  match cs, hl' with
  | [u0, u1, u2, u3, u4, u5, u6, u7], _ =>
    have h0' : [u0] = [Value.int .u8 x] := h0
    have h1' : [u1, u2, u3] = [Value.int .u64 t, Value.int .u64 af, Value.slice a ops.length c] := h1
    have h2' : [u4] = [Value.int .u64 s] := h2
    have h3' : [u5] = [Value.int .u64 k] := h3
    have h4' : [u6] = [Value.int .u64 i] := h4
    have h5' : [u7] = [Value.slice ia ids.length ic] := h5
    simp only [List.cons.injEq, and_true] at h0' h1' h2' h3' h4' h5'
    obtain ⟨e1, e2, e3⟩ := h1'
    subst h0' e1 e2 e3 h2' h3' h4' h5'
    exact ⟨⟨x, t, af, a, c, ops, s, k, i, ia, ic, ids⟩, rfl, h1q.1, h1q.2.1, h1q.2.2, hs.1, i1, i2, i3⟩
end Go.Proofs.YtieejgbjgcbbjaaGreat
