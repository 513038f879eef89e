/- The row of VaultOwns: from the walk to the statement. -/
import Derived.Test.YtieejgbjgcbbjaaOwA
import Derived.Test.YtieejgbjgcbbjaaRowVE
set_option linter.unusedVariables false
set_option linter.unusedSimpArgs false
namespace Go.Proofs.Ytieejgbjgcbbjaa
open Go Go.SX Go.ChangeShapes Go.WideShapes Go.ChangeAt Go.RowKit
theorem VaultOwnsArgs {H : Type} {enc : TypeId × Value → H} {W : World} (args : List Value) (ha : ∀ (i : Nat) (t : TypeId) (v : Value), Try.f8.params.toList[i]? = some t → args[i]? = some v → Arg enc Try.prog W t v) (hl : args.length = 2) :
    CallsS Try.prog 8 args [roM (all0 W)] (fun v _ => v = .bool true) := by
  match args, hl with
  | [v0, v1], _ =>
    obtain ⟨a, c, vs, rfl, h1, h2, h3, h4⟩ := (ha 0 _ v0 rfl rfl).list (fun r hr => Rd.dv2 hr) (sz := 8) Try.underlying22 (by kernel_rfl) (by decide)
    obtain ⟨x, rfl, hx⟩ := (ha 1 _ v1 rfl rfl).int Try.underlying21
    exact VaultOwns_spec a c vs x _ h3 h4 (Nat.le_trans h1 h2)
theorem VaultOwnsFn {H : Type} (ds : List (DataW H)) (h : ds.length = 2) : Rows.vaultOwnsSpec.fn H ds = { results := [.lit (.bool true)], args := ds } := by
  match ds, h with
  | [v0, v1], _ => rfl
set_option maxHeartbeats 1000000 in
set_option maxRecDepth 100000 in
theorem VaultOwnsLifted (os : Os) (started : os.Started) (H : Type) (enc : TypeId × Value → H) :
    ReturnsInHanded {} Try.checked os 8 .any (Rows.vaultOwnsSpec.pre6 enc Try.prog Try.f8 Rows.vaultOwnsRow.domain false) (Rows.vaultOwnsSpec.post enc Try.prog Try.f8 false true false false) := by
  refine returnsInHanded_of_change (C := Try.checked) own started (by kernel_rfl) Try.func8 (ChangeSpec.witness6 (enc := enc) (C := Try.checked) false ⟨#[], #[.slice none 0 0, .int .i32 0], []⟩ 8 (by kernel_rfl) (by kernel_rfl) (by kernel_rfl) (by kernel_rfl)) ?_
  intro W base args ds gs before hval hW _ _
  exact row_post (f := 8) (F := Try.f8) (s := Rows.vaultOwnsSpec) (kids_rows (by kernel_rfl) (by kernel_rfl)) (slices_full_of Try.prog (by kernel_rfl)) (by kernel_rfl) rfl (fun ds h => VaultOwnsFn ds h) rfl Try.underlying4 hval hW (fun ha hl => VaultOwnsArgs args.toList ha hl)
theorem VaultOwnsOver : Rows.vaultOwnsRow.holds Try.pinned (OpenSpec.ofChange Rows.vaultOwnsSpec) :=
  OpenClaim.holds_of_wide 8 Try.f8 rfl rfl rfl rfl rfl rfl rfl ⟨rfl, rfl, rfl, rfl, rfl⟩ rfl rfl rfl rfl rfl (by kernel_rfl) Try.func8 (by kernel_rfl)
    (of_decide_eq_true (by kernel_rfl)) (by unfold Func.isWrapper; first | (rw [if_pos (by decide +kernel)]; kernel_rfl) | (rw [if_neg (by decide +kernel)]; exact ⟨rfl, rfl⟩))
    (fun os started H enc _ => VaultOwnsLifted os started H enc)
theorem vaultOwns_holds : Rows.VaultOwnsSaid := VaultOwnsOver
#print axioms vaultOwns_holds
end Go.Proofs.Ytieejgbjgcbbjaa
