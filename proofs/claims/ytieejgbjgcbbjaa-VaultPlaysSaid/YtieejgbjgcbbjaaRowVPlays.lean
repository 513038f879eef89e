/- The row of VaultPlays: from the walk to the statement. -/
import Derived.Test.YtieejgbjgcbbjaaRowVE
set_option linter.unusedVariables false
set_option linter.unusedSimpArgs false
namespace Go.Proofs.Ytieejgbjgcbbjaa
open Go Go.SX Go.ChangeShapes Go.WideShapes Go.ChangeAt Go.RowKit
theorem VaultPlaysArgs {H : Type} {enc : TypeId × Value → H} {W : World} (args : List Value) (ha : ∀ (i : Nat) (t : TypeId) (v : Value), Try.f7.params.toList[i]? = some t → args[i]? = some v → Arg enc Try.prog W t v) (hl : args.length = 3) :
    CallsS Try.prog 7 args [roM (all0 W)] (fun v _ => v = .bool true) := by
  match args, hl with
  | [v0, v1, v2], _ =>
    obtain ⟨b, rfl⟩ := (ha 0 _ v0 rfl rfl).bool Try.underlying4
    obtain ⟨x, rfl, hx⟩ := (ha 1 _ v1 rfl rfl).int Try.underlying3
    obtain ⟨a, c, vs, rfl, h1, h2, h3, h4⟩ := (ha 2 _ v2 rfl rfl).list (fun r hr => Rd.dv2 hr) (sz := 8) Try.underlying22 (by kernel_rfl) (by decide)
    exact VaultPlays_spec b x a c vs _ h3 h4 (Nat.le_trans h1 h2)
theorem VaultPlaysFn {H : Type} (ds : List (DataW H)) (h : ds.length = 3) : Rows.vaultPlaysSpec.fn H ds = { results := [.lit (.bool true)], args := ds } := by
  match ds, h with
  | [v0, v1, v2], _ => rfl
set_option maxHeartbeats 1000000 in
set_option maxRecDepth 100000 in
theorem VaultPlaysLifted (os : Os) (started : os.Started) (H : Type) (enc : TypeId × Value → H) :
    ReturnsInHanded {} Try.checked os 7 .any (Rows.vaultPlaysSpec.pre6 enc Try.prog Try.f7 Rows.vaultPlaysRow.domain false) (Rows.vaultPlaysSpec.post enc Try.prog Try.f7 false true false false) := by
  refine returnsInHanded_of_change (C := Try.checked) own started (by kernel_rfl) Try.func7 (ChangeSpec.witness6 (enc := enc) (C := Try.checked) false ⟨#[], #[.bool false, .int .i64 0, .slice none 0 0], []⟩ 8 (by kernel_rfl) (by kernel_rfl) (by kernel_rfl) (by kernel_rfl)) ?_
  intro W base args ds gs before hval hW _ _
  exact row_post (f := 7) (F := Try.f7) (s := Rows.vaultPlaysSpec) (kids_rows (by kernel_rfl) (by kernel_rfl)) (slices_full_of Try.prog (by kernel_rfl)) (by kernel_rfl) rfl (fun ds h => VaultPlaysFn ds h) rfl Try.underlying4 hval hW (fun ha hl => VaultPlaysArgs args.toList ha hl)
theorem VaultPlaysOver : Rows.vaultPlaysRow.holds Try.pinned (OpenSpec.ofChange Rows.vaultPlaysSpec) :=
  OpenClaim.holds_of_wide 7 Try.f7 rfl rfl rfl rfl rfl rfl rfl ⟨rfl, rfl, rfl, rfl, rfl⟩ rfl rfl rfl rfl rfl (by kernel_rfl) Try.func7 (by kernel_rfl)
    (of_decide_eq_true (by kernel_rfl)) (by unfold Func.isWrapper; first | (rw [if_pos (by decide +kernel)]; kernel_rfl) | (rw [if_neg (by decide +kernel)]; exact ⟨rfl, rfl⟩))
    (fun os started H enc _ => VaultPlaysLifted os started H enc)
theorem vaultPlays_holds : Rows.VaultPlaysSaid := VaultPlaysOver
#print axioms vaultPlays_holds
end Go.Proofs.Ytieejgbjgcbbjaa
