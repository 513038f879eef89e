/- The row of VaultHolds: from the walk to the statement. -/
import Derived.Test.YtieejgbjgcbbjaaVtX
import Derived.Test.YtieejgbjgcbbjaaRowVD
set_option linter.unusedVariables false
set_option linter.unusedSimpArgs false
namespace Go.Proofs.Ytieejgbjgcbbjaa
open Go Go.SX Go.ChangeShapes Go.WideShapes Go.ChangeAt Go.RowKit
theorem VaultHoldsArgs {H : Type} {enc : TypeId × Value → H} {W : World} (args : List Value) (ha : ∀ (i : Nat) (t : TypeId) (v : Value), Try.f3.params.toList[i]? = some t → args[i]? = some v → Arg enc Try.prog W t v) (hl : args.length = 2) :
    CallsS Try.prog 3 args [roM (all0 W)] (fun v _ => v = .bool true) := by
  match args, hl with
  | [v0, v1], _ =>
    obtain ⟨a, c, vs, rfl, h1, h2, h3, h4⟩ := (ha 0 _ v0 rfl rfl).list (fun r hr => Rd.dv hr) (sz := 8) Try.underlying22 (by kernel_rfl) (by decide)
    obtain ⟨x, rfl, hx⟩ := (ha 1 _ v1 rfl rfl).int Try.underlying23
    exact VaultHolds_spec a c vs x _ h3 (fun o ho => ⟨(h4 o ho).1.1, (h4 o ho).1.2.1, (h4 o ho).1.2.2, (h4 o ho).2⟩) (Nat.le_trans h1 h2)
theorem VaultHoldsFn {H : Type} (ds : List (DataW H)) (h : ds.length = 2) : Rows.vaultHoldsSpec.fn H ds = { results := [.lit (.bool true)], args := ds } := by
  match ds, h with
  | [v0, v1], _ => rfl
set_option maxHeartbeats 1000000 in
set_option maxRecDepth 100000 in
theorem VaultHoldsLifted (os : Os) (started : os.Started) (H : Type) (enc : TypeId × Value → H) :
    ReturnsInHanded {} Try.checked os 3 .any (Rows.vaultHoldsSpec.pre6 enc Try.prog Try.f3 Rows.vaultHoldsRow.domain false) (Rows.vaultHoldsSpec.post enc Try.prog Try.f3 false true false false) := by
  refine returnsInHanded_of_change (C := Try.checked) own started (by kernel_rfl) Try.func3 (ChangeSpec.witness6 (enc := enc) (C := Try.checked) false ⟨#[], #[.slice none 0 0, .int .u64 0], []⟩ 8 (by kernel_rfl) (by kernel_rfl) (by kernel_rfl) (by kernel_rfl)) ?_
  intro W base args ds gs before hval hW _ _
  exact row_post (f := 3) (F := Try.f3) (s := Rows.vaultHoldsSpec) (kids_rows (by kernel_rfl) (by kernel_rfl)) (slices_full_of Try.prog (by kernel_rfl)) (by kernel_rfl) rfl (fun ds h => VaultHoldsFn ds h) rfl Try.underlying4 hval hW (fun ha hl => VaultHoldsArgs args.toList ha hl)
theorem VaultHoldsOver : Rows.vaultHoldsRow.holds Try.pinned (OpenSpec.ofChange Rows.vaultHoldsSpec) :=
  OpenClaim.holds_of_wide 3 Try.f3 rfl rfl rfl rfl rfl rfl rfl ⟨rfl, rfl, rfl, rfl, rfl⟩ rfl rfl rfl rfl rfl (by kernel_rfl) Try.func3 (by kernel_rfl)
    (of_decide_eq_true (by kernel_rfl)) (by unfold Func.isWrapper; first | (rw [if_pos (by decide +kernel)]; kernel_rfl) | (rw [if_neg (by decide +kernel)]; exact ⟨rfl, rfl⟩))
    (fun os started H enc _ => VaultHoldsLifted os started H enc)
theorem vaultHolds_holds : Rows.VaultHoldsSaid := VaultHoldsOver
#print axioms vaultHolds_holds
end Go.Proofs.Ytieejgbjgcbbjaa
