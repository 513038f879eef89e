/- The row of NetOrders: from the walk to the statement. -/
import Derived.Test.YtdjglpmnfckimaaNetM
import Derived.Test.YtdjglpmnfckimaaRowHead
set_option linter.unusedVariables false
set_option linter.unusedSimpArgs false
namespace Go.Proofs.Ytdjglpmnfckimaa
open Go Go.SX Go.ChangeShapes Go.WideShapes Go.ChangeAt Go.RowKit
theorem NetOrdersArgs {H : Type} {enc : TypeId × Value → H} {W : World} (args : List Value) (ha : ∀ (i : Nat) (t : TypeId) (v : Value), Try.f4.params.toList[i]? = some t → args[i]? = some v → Arg enc Try.prog W t v) (hl : args.length = 2) :
    CallsS Try.prog 4 args [roM (all0 W)] (fun v _ => v = .bool true) := by
  match args, hl with
  | [v0, v1], _ =>
    obtain ⟨a, c, vs, rfl, h1, h2, h3, h4⟩ := (ha 0 _ v0 rfl rfl).list (fun r hr => Rd.letter hr) (sz := 3) Try.underlying22 (by kernel_rfl) (by decide)
    obtain ⟨a1, c1, ps, rfl, h5, h6, h7⟩ := (ha 1 _ v1 rfl rfl).bytes Try.underlying23 Try.underlying5 (by kernel_rfl)
    exact NetOrders_spec a c vs a1 c1 ps _ [] h3 (by omega) h7 (by omega)
theorem NetOrdersFn {H : Type} (ds : List (DataW H)) (h : ds.length = 2) : Rows.netOrdersSpec.fn H ds = { results := [.lit (.bool true)], args := ds } := by
  match ds, h with
  | [v0, v1], _ => rfl
set_option maxHeartbeats 1000000 in
set_option maxRecDepth 100000 in
theorem NetOrdersLifted (os : Os) (started : os.Started) (H : Type) (enc : TypeId × Value → H) :
    ReturnsInHanded {} Try.checked os 4 .any (Rows.netOrdersSpec.pre6 enc Try.prog Try.f4 Rows.netOrdersRow.domain false) (Rows.netOrdersSpec.post enc Try.prog Try.f4 false true false false) := by
  refine returnsInHanded_of_change (C := Try.checked) own started (by kernel_rfl) Try.func4 (ChangeSpec.witness6 (enc := enc) (C := Try.checked) false ⟨#[], #[.slice none 0 0, .slice none 0 0], []⟩ 8 (by kernel_rfl) (by kernel_rfl) (by kernel_rfl) (by kernel_rfl)) ?_
  intro W base args ds gs before hval hW _ _
  exact row_post (f := 4) (F := Try.f4) (s := Rows.netOrdersSpec) (kids_rows (by kernel_rfl) (by kernel_rfl)) (slices_full_of Try.prog (by kernel_rfl)) (by kernel_rfl) rfl (fun ds h => NetOrdersFn ds h) rfl Try.underlying4 hval hW (fun ha hl => NetOrdersArgs args.toList ha hl)
theorem NetOrdersOver : Rows.netOrdersRow.holds Try.pinned (OpenSpec.ofChange Rows.netOrdersSpec) :=
  OpenClaim.holds_of_wide 4 Try.f4 rfl rfl rfl rfl rfl rfl rfl ⟨rfl, rfl, rfl, rfl, rfl⟩ rfl rfl rfl rfl rfl (by kernel_rfl) Try.func4 (by kernel_rfl)
    (of_decide_eq_true (by kernel_rfl)) (by unfold Func.isWrapper; first | (rw [if_pos (by decide +kernel)]; kernel_rfl) | (rw [if_neg (by decide +kernel)]; exact ⟨rfl, rfl⟩))
    (fun os started H enc _ => NetOrdersLifted os started H enc)
theorem netOrders_holds : Rows.NetOrdersSaid := NetOrdersOver
#print axioms netOrders_holds
end Go.Proofs.Ytdjglpmnfckimaa
