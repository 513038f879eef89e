/- The row of VaultApplies: from the walk to the statement. -/
import Derived.Test.YtieejgbjgcbbjaaVtI
import Derived.Test.YtieejgbjgcbbjaaRowV
set_option linter.unusedVariables false
set_option linter.unusedSimpArgs false
namespace Go.Proofs.Ytieejgbjgcbbjaa
open Go Go.SX Go.ChangeShapes Go.WideShapes Go.ChangeAt Go.RowKit
theorem VaultAppliesArgs {H : Type} {enc : TypeId × Value → H} {W : World} (args : List Value) (ha : ∀ (i : Nat) (t : TypeId) (v : Value), Try.f4.params.toList[i]? = some t → args[i]? = some v → Arg enc Try.prog W t v) (hl : args.length = 3) :
    CallsS Try.prog 4 args [roM (all0 W)] (fun v _ => v = .bool true) := by
  match args, hl with
  | [v0, v1, v2], _ =>
    obtain ⟨a, c, vs, rfl, h1, h2, h3, h4⟩ := (ha 0 _ v0 rfl rfl).list (fun r hr => Rd.op hr) (sz := 2) Try.underlying34 (by kernel_rfl) (by decide)
    obtain ⟨x, rfl, hx⟩ := (ha 1 _ v1 rfl rfl).int Try.underlying23
    obtain ⟨y, rfl, hy⟩ := (ha 2 _ v2 rfl rfl).int Try.underlying23
    have ux := u64_wf hx
    have uy := u64_wf hy
    exact VaultApplies_spec a c vs x y _ ⟨h3.rd, fun o ho => (h4 o ho).1.rd⟩ (fun o ho => (h4 o ho).2.1) (Nat.le_trans h1 h2) ux.1 uy.1 uy.2
theorem VaultAppliesFn {H : Type} (ds : List (DataW H)) (h : ds.length = 3) : Rows.vaultAppliesSpec.fn H ds = { results := [.lit (.bool true)], args := ds } := by
  match ds, h with
  | [v0, v1, v2], _ => rfl
set_option maxHeartbeats 1000000 in
set_option maxRecDepth 100000 in
theorem VaultAppliesLifted (os : Os) (started : os.Started) (H : Type) (enc : TypeId × Value → H) :
    ReturnsInHanded {} Try.checked os 4 .any (Rows.vaultAppliesSpec.pre6 enc Try.prog Try.f4 Rows.vaultAppliesRow.domain false) (Rows.vaultAppliesSpec.post enc Try.prog Try.f4 false true false false) := by
  refine returnsInHanded_of_change (C := Try.checked) own started (by kernel_rfl) Try.func4 (ChangeSpec.witness6 (enc := enc) (C := Try.checked) false ⟨#[], #[.slice none 0 0, .int .u64 0, .int .u64 0], []⟩ 8 (by kernel_rfl) (by kernel_rfl) (by kernel_rfl) (by kernel_rfl)) ?_
  intro W base args ds gs before hval hW _ _
  exact row_post (f := 4) (F := Try.f4) (s := Rows.vaultAppliesSpec) (kids_rows (by kernel_rfl) (by kernel_rfl)) (slices_full_of Try.prog (by kernel_rfl)) (by kernel_rfl) rfl (fun ds h => VaultAppliesFn ds h) rfl Try.underlying4 hval hW (fun ha hl => VaultAppliesArgs args.toList ha hl)
theorem VaultAppliesOver : Rows.vaultAppliesRow.holds Try.pinned (OpenSpec.ofChange Rows.vaultAppliesSpec) :=
  OpenClaim.holds_of_wide 4 Try.f4 rfl rfl rfl rfl rfl rfl rfl ⟨rfl, rfl, rfl, rfl, rfl⟩ rfl rfl rfl rfl rfl (by kernel_rfl) Try.func4 (by kernel_rfl)
    (of_decide_eq_true (by kernel_rfl)) (by unfold Func.isWrapper; first | (rw [if_pos (by decide +kernel)]; kernel_rfl) | (rw [if_neg (by decide +kernel)]; exact ⟨rfl, rfl⟩))
    (fun os started H enc _ => VaultAppliesLifted os started H enc)
theorem vaultApplies_holds : Rows.VaultAppliesSaid := VaultAppliesOver
#print axioms vaultApplies_holds
end Go.Proofs.Ytieejgbjgcbbjaa
