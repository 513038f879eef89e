/- The row of NetMany: from the walk to the statement. -/
import Derived.Test.YtdjglpmnfckimaaNetK
import Derived.Test.YtdjglpmnfckimaaSxV
import Derived.Test.YtdjglpmnfckimaaRows
import Derived.WalkKit
import Derived.ProofKit
import Derived.OpenShut
set_option linter.unusedVariables false
set_option linter.unusedSimpArgs false
namespace Go.Proofs.Ytdjglpmnfckimaa
open Go Go.SX Go.ChangeShapes Go.WideShapes Go.ChangeAt Go.RowKit
theorem own : ownKnob Try.prog.godebug = none := by kernel_rfl
theorem Rd.letter {H : Type} {enc : TypeId × Value → H} {W : World} {cs : List Value} (h : Rd enc Try.prog W 31 cs) : ∃ v : LV, cs = v.cells ∧ (SlM (all0 W) v.a v.body.length 1 (v.body.map B) ∧ v.body.length ≤ v.c) := by
  obtain ⟨hl, hf⟩ := h.fields Try.underlying31
  obtain ⟨x, h0, _⟩ := Rd.int (hf 0 _ rfl) Try.underlying3
  obtain ⟨y, h1, _⟩ := Rd.int (hf 1 _ rfl) Try.underlying3
  obtain ⟨a, c, bs, h2, h3, _, h4⟩ := Rd.bytes (hf 2 _ rfl) Try.underlying23 Try.underlying5 (by kernel_rfl)
  have hl' : cs.length = 3 := hl
  match cs, hl' with
  | [u, v, w], _ =>
    have h0' : [u] = [Value.int .i64 x] := h0
    have h1' : [v] = [Value.int .i64 y] := h1
    have h2' : [w] = [Value.slice a bs.length c] := h2
    simp only [List.cons.injEq, and_true] at h0' h1' h2'
    subst h0' h1' h2'
    exact ⟨⟨x, y, a, c, bs⟩, rfl, h4, h3⟩
theorem NetManyArgs {H : Type} {enc : TypeId × Value → H} {W : World} (args : List Value) (ha : ∀ (i : Nat) (t : TypeId) (v : Value), Try.f6.params.toList[i]? = some t → args[i]? = some v → Arg enc Try.prog W t v) (hl : args.length = 1) :
    CallsS Try.prog 6 args [roM (all0 W)] (fun v _ => v = .bool true) := by
  match args, hl with
  | [v0], _ =>
    obtain ⟨a, c, vs, rfl, h1, h2, h3, h4⟩ := (ha 0 _ v0 rfl rfl).list (fun r hr => Rd.letter hr) (sz := 3) Try.underlying22 (by kernel_rfl) (by decide)
    exact NetMany_spec a c vs _ [] ⟨fun v hv => (h4 v hv).1, h3⟩ (fun v hv => (h4 v hv).2) (by omega)
theorem NetManyFn {H : Type} (ds : List (DataW H)) (h : ds.length = 1) : Rows.netManySpec.fn H ds = { results := [.lit (.bool true)], args := ds } := by
  match ds, h with
  | [v0], _ => rfl
set_option maxHeartbeats 1000000 in
set_option maxRecDepth 100000 in
theorem NetManyLifted (os : Os) (started : os.Started) (H : Type) (enc : TypeId × Value → H) :
    ReturnsInHanded {} Try.checked os 6 .any (Rows.netManySpec.pre6 enc Try.prog Try.f6 Rows.netManyRow.domain false) (Rows.netManySpec.post enc Try.prog Try.f6 false true false false) := by
  refine returnsInHanded_of_change (C := Try.checked) own started (by kernel_rfl) Try.func6 (ChangeSpec.witness6 (enc := enc) (C := Try.checked) false ⟨#[], #[.slice none 0 0], []⟩ 8 (by kernel_rfl) (by kernel_rfl) (by kernel_rfl) (by kernel_rfl)) ?_
  intro W base args ds gs before hval hW _ _
  exact row_post (f := 6) (F := Try.f6) (s := Rows.netManySpec) (kids_rows (by kernel_rfl) (by kernel_rfl)) (slices_full_of Try.prog (by kernel_rfl)) (by kernel_rfl) rfl (fun ds h => NetManyFn ds h) rfl Try.underlying4 hval hW (fun ha hl => NetManyArgs args.toList ha hl)
theorem NetManyOver : Rows.netManyRow.holds Try.pinned (OpenSpec.ofChange Rows.netManySpec) :=
  OpenClaim.holds_of_wide 6 Try.f6 rfl rfl rfl rfl rfl rfl rfl ⟨rfl, rfl, rfl, rfl, rfl⟩ rfl rfl rfl rfl rfl (by kernel_rfl) Try.func6 (by kernel_rfl)
    (of_decide_eq_true (by kernel_rfl)) (by unfold Func.isWrapper; first | (rw [if_pos (by decide +kernel)]; kernel_rfl) | (rw [if_neg (by decide +kernel)]; exact ⟨rfl, rfl⟩))
    (fun os started H enc _ => NetManyLifted os started H enc)
theorem netMany_holds : Rows.NetManySaid := NetManyOver
#print axioms netMany_holds
end Go.Proofs.Ytdjglpmnfckimaa
