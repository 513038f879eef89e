/- The row of NetPlays: from the walk to the statement. -/
import Derived.Test.YtdjglpmnfckimaaNetU
import Derived.Test.YtdjglpmnfckimaaRowHead
set_option linter.unusedVariables false
set_option linter.unusedSimpArgs false
namespace Go.Proofs.Ytdjglpmnfckimaa
open Go Go.SX Go.ChangeShapes Go.WideShapes Go.ChangeAt Go.RowKit
theorem Rd.op {H : Type} {enc : TypeId × Value → H} {W : World} {cs : List Value} (h : Rd enc Try.prog W 55 cs) : ∃ v : OpV, cs = v.cells ∧ (LSM (all0 W) v.a v.ls ∧ v.ls.length ≤ 9223372036854775807 ∧ ∀ w ∈ v.ls, w.body.length ≤ w.c) := by
  obtain ⟨hl, hf⟩ := h.fields Try.underlying55
  obtain ⟨x, h0, _⟩ := Rd.byte (hf 0 _ rfl) Try.underlying5
  obtain ⟨a, c, ls, h1, h1c, h1m, h1s, h1q⟩ := Rd.list (fun r hr => Rd.letter hr) (hf 1 _ rfl) (sz := 3) Try.underlying22 (by kernel_rfl) (by decide)
  obtain ⟨i, h2, _⟩ := Rd.int (hf 2 _ rfl) Try.underlying3
  obtain ⟨j, h3, _⟩ := Rd.int (hf 3 _ rfl) Try.underlying3
  obtain ⟨b, h4⟩ := Rd.bool (hf 4 _ rfl) Try.underlying4
  have hl' : cs.length = 5 := hl
  match cs, hl' with
  | [u0, u1, u2, u3, u4], _ =>
    have h0' : [u0] = [B x] := h0
    have h1' : [u1] = [Value.slice a ls.length c] := h1
    have h2' : [u2] = [Value.int .i64 i] := h2
    have h3' : [u3] = [Value.int .i64 j] := h3
    have h4' : [u4] = [Value.bool b] := h4
    simp only [List.cons.injEq, and_true] at h0' h1' h2' h3' h4'
    subst h0' h1' h2' h3' h4'
    have hmx : maxLen = 9223372036854775807 := by decide
    rw [hmx] at h1m
    exact ⟨⟨x, a, c, ls, i, j, b⟩, rfl, ⟨fun w hw => (h1q w hw).1, h1s⟩, by dsimp only; omega, fun w hw => (h1q w hw).2⟩
theorem NetPlaysArgs {H : Type} {enc : TypeId × Value → H} {W : World} (args : List Value) (ha : ∀ (i : Nat) (t : TypeId) (v : Value), Try.f7.params.toList[i]? = some t → args[i]? = some v → Arg enc Try.prog W t v) (hl : args.length = 3) :
    CallsS Try.prog 7 args [roM (all0 W)] (fun v _ => v = .bool true) := by
  match args, hl with
  | [v0, v1, v2], _ =>
    obtain ⟨b, rfl⟩ := (ha 0 _ v0 rfl rfl).bool Try.underlying4
    obtain ⟨k, rfl, _⟩ := (ha 1 _ v1 rfl rfl).int Try.underlying3
    obtain ⟨a, c, vs, rfl, h1, h2, h3, h4⟩ := (ha 2 _ v2 rfl rfl).list (fun r hr => Rd.op hr) (sz := 5) Try.underlying49 (by kernel_rfl) (by decide)
    exact NetPlays_spec b k a c vs _ [] h3 (by omega) h4
theorem NetPlaysFn {H : Type} (ds : List (DataW H)) (h : ds.length = 3) : Rows.netPlaysSpec.fn H ds = { results := [.lit (.bool true)], args := ds } := by
  match ds, h with
  | [v0, v1, v2], _ => rfl
set_option maxHeartbeats 1000000 in
set_option maxRecDepth 100000 in
theorem NetPlaysLifted (os : Os) (started : os.Started) (H : Type) (enc : TypeId × Value → H) :
    ReturnsInHanded {} Try.checked os 7 .any (Rows.netPlaysSpec.pre6 enc Try.prog Try.f7 Rows.netPlaysRow.domain false) (Rows.netPlaysSpec.post enc Try.prog Try.f7 false true false false) := by
  refine returnsInHanded_of_change (C := Try.checked) own started (by kernel_rfl) Try.func7 (ChangeSpec.witness6 (enc := enc) (C := Try.checked) false ⟨#[], #[.bool false, .int .i64 0, .slice none 0 0], []⟩ 8 (by kernel_rfl) (by kernel_rfl) (by kernel_rfl) (by kernel_rfl)) ?_
  intro W base args ds gs before hval hW _ _
  exact row_post (f := 7) (F := Try.f7) (s := Rows.netPlaysSpec) (kids_rows (by kernel_rfl) (by kernel_rfl)) (slices_full_of Try.prog (by kernel_rfl)) (by kernel_rfl) rfl (fun ds h => NetPlaysFn ds h) rfl Try.underlying4 hval hW (fun ha hl => NetPlaysArgs args.toList ha hl)
theorem NetPlaysOver : Rows.netPlaysRow.holds Try.pinned (OpenSpec.ofChange Rows.netPlaysSpec) :=
  OpenClaim.holds_of_wide 7 Try.f7 rfl rfl rfl rfl rfl rfl rfl ⟨rfl, rfl, rfl, rfl, rfl⟩ rfl rfl rfl rfl rfl (by kernel_rfl) Try.func7 (by kernel_rfl)
    (of_decide_eq_true (by kernel_rfl)) (by unfold Func.isWrapper; first | (rw [if_pos (by decide +kernel)]; kernel_rfl) | (rw [if_neg (by decide +kernel)]; exact ⟨rfl, rfl⟩))
    (fun os started H enc _ => NetPlaysLifted os started H enc)
theorem netPlays_holds : Rows.NetPlaysSaid := NetPlaysOver
#print axioms netPlays_holds
end Go.Proofs.Ytdjglpmnfckimaa
