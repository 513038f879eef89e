/- The readings of the net's letters. No condition. -/
import Derived.Test.YtdjglpmnfckimaaNetJ
import Derived.Test.YtdjglpmnfckimaaSxV
import Derived.Test.YtdjglpmnfckimaaRows
import Derived.WalkKit
import Derived.ProofKit
import Derived.OpenShut
set_option linter.unusedVariables false
set_option linter.unusedSimpArgs false
namespace Go.Proofs.Ytdjglpmnfckimaa
open Go Go.SX Go.ChangeShapes Go.WideShapes Go.ChangeAt Go.RowKit
theorem own : ownKnob Try.prog.godebug = none := by kernel_rfl
theorem Rd.letter {H : Type} {enc : TypeId × Value → H} {W : World} {cs : List Value} (h : Rd enc Try.prog W 31 cs) : ∃ v : LV, cs = v.cells ∧ (SlM (all0 W) v.a v.body.length 1 (v.body.map B) ∧ v.body.length ≤ v.c) := by
  obtain ⟨hl, hf⟩ := h.fields Try.underlying31
  obtain ⟨x, h0, _⟩ := Rd.int (hf 0 _ rfl) Try.underlying3
  obtain ⟨y, h1, _⟩ := Rd.int (hf 1 _ rfl) Try.underlying3
  obtain ⟨a, c, bs, h2, h3, _, h4⟩ := Rd.bytes (hf 2 _ rfl) Try.underlying23 Try.underlying5 (by kernel_rfl)
  have hl' : cs.length = 3 := hl
  match cs, hl' with
  | [u, v, w], _ =>
    have h0' : [u] = [Value.int .i64 x] := h0
    have h1' : [v] = [Value.int .i64 y] := h1
    have h2' : [w] = [Value.slice a bs.length c] := h2
    simp only [List.cons.injEq, and_true] at h0' h1' h2'
    subst h0' h1' h2'
    exact ⟨⟨x, y, a, c, bs⟩, rfl, h4, h3⟩
end Go.Proofs.Ytdjglpmnfckimaa
